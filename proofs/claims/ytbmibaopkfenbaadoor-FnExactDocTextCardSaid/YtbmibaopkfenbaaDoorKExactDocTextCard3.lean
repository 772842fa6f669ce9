/- A machine of values: a function's contract out of what is reckoned of its code, part 3. No condition. -/
import Derived.Orders
import Derived.Laws.Externs
import Derived.Lib.Bytealg
import Derived.Test.YtbmibaopkfenbaaDoorKExactDocTextCard2
/- A machine of values: a function's contract out of what is reckoned of its code, part 3. No condition. -/
namespace Go.Proofs.YtbmibaopkfenbaaDoor.M
open Go
set_option linter.unusedSimpArgs false
set_option linter.unusedVariables false
set_option linter.unusedSectionVars false

section
variable {P : Program} {τ : Tab} {Γ : Ctx} {al al' : Nat → Prop} {s : St} {a : Act} {w w' : World} {μ μ' : Nat → Option Pl} {n : Nat}
variable {hp hp' : List (Nat × Blk)} {S S0 S' : Addr → Option Value} {own : Bool}

theorem BCOk.mono {S S' : Addr → Option Value} (hS : ∀ a v, S a = some v → S' a = some v) {x : BC} {v : Value} {r : List Nat} (h : BCOk S w x v r) : BCOk S' w x v r := by
  cases x with
  | t x => exact ⟨h.1, h.2.1.mono hS, h.2.2⟩
  | nil sz => exact h
  | arr sz es =>
    rcases h with h | ⟨b, base, room, cap, h1, h2, h3, h4, h5, h6⟩
    · exact .inl h
    · exact .inr ⟨b, base, room, cap, h1, h2, h3, h4, h5, ArrOk.mono hS (fun _ => rfl) (fun _ => rfl) h6⟩
theorem BCsOk.mono {S S' : Addr → Option Value} (hS : ∀ a v, S a = some v → S' a = some v) : ∀ {xs : List BC} {vs : List Value} {r : List Nat}, BCsOk S w xs vs r → BCsOk S' w xs vs r
  | [], _, _, h => h
  | x :: xs, vs, r, ⟨v, vs', r1, r2, h1, h2, h3, h4⟩ => ⟨v, vs', r1, r2, h1, h2, h3.mono hS, BCsOk.mono hS h4⟩
theorem OutsOk.mono {S S' : Addr → Option Value} (hS : ∀ a v, S a = some v → S' a = some v) : ∀ {xs : List AA} {vs : List Value} {os : List (List BC)} {r : List Nat}, OutsOk S w xs vs os r → OutsOk S' w xs vs os r
  | [], _, _, _, h => h
  | .mb cs :: xs, v :: vs, os, r, ⟨o, os', b, r1, r2, h1, h2, h3, h4, ⟨ws, h5, h6⟩, h7⟩ => ⟨o, os', b, r1, r2, h1, h2, h3, h4, ⟨ws, h5.mono hS, h6⟩, OutsOk.mono hS h7⟩
  | .clo f cs :: xs, v :: vs, os, r, ⟨o, os', b, r1, r2, h1, h2, h3, h4, ⟨ws, h5, h6⟩, h7⟩ => ⟨o, os', b, r1, r2, h1, h2, h3, h4, ⟨ws, h5.mono hS, h6⟩, OutsOk.mono hS h7⟩
  | .v x :: xs, v :: vs, os, r, h => OutsOk.mono (xs := xs) (vs := vs) hS h
  | .nilp :: xs, v :: vs, os, r, h => OutsOk.mono (xs := xs) (vs := vs) hS h
  | .fn f :: xs, v :: vs, os, r, h => OutsOk.mono (xs := xs) (vs := vs) hS h
  | .mv sz es :: xs, v :: vs, os, r, h => OutsOk.mono (xs := xs) (vs := vs) hS h
  | .ln sz es :: xs, v :: vs, os, r, ⟨es', os', r1, r2, h1, h2, h3, ⟨b, base, room, cap, g1, g2, g3, g4, g5, g6⟩, h5⟩ => ⟨es', os', r1, r2, h1, h2, h3, ⟨b, base, room, cap, g1, g2, g3, g4, g5, ArrOk.mono hS (fun _ => rfl) (fun _ => rfl) g6⟩, OutsOk.mono hS h5⟩
  | .mb cs :: xs, [], os, r, h => h.elim
  | .clo f cs :: xs, [], os, r, h => h.elim
  | .fn f :: xs, [], os, r, h => h.elim
  | .mv sz es :: xs, [], os, r, h => h.elim
  | .ln sz es :: xs, [], os, r, h => h.elim
  | .v x :: xs, [], os, r, h => h.elim
  | .nilp :: xs, [], os, r, h => h.elim
theorem ResC.mono {S S' : Addr → Option Value} (hS : ∀ a v, S a = some v → S' a = some v) {x : T} {v : Value} {r : List Nat} (h : ResC own S w x v r) : ResC own S' w x v r := by
  cases own with
  | false => exact ⟨h.1, h.2.mono hS⟩
  | true =>
    cases x with
    | list sz es => exact BCOk.mono (x := .arr sz es) hS h
    | _ => exact ⟨h.1, h.2.mono hS⟩
theorem ResCs.mono {S S' : Addr → Option Value} (hS : ∀ a v, S a = some v → S' a = some v) : ∀ {xs : List T} {vs : List Value} {r : List Nat}, ResCs own S w xs vs r → ResCs own S' w xs vs r
  | [], _, _, h => h
  | x :: xs, vs, r, ⟨v, vs', r1, r2, h1, h2, h3, h4, h5⟩ => ⟨v, vs', r1, r2, h1, h2, h3.mono hS, h4, ResCs.mono hS h5⟩
theorem ResA.mono {S S' : Addr → Option Value} (hS : ∀ a v, S a = some v → S' a = some v) {x : T} {v : Value} {r : List Nat} (h : ResA own S w x v r) : ResA own S' w x v r := by
  cases x with
  | agg cs => obtain ⟨vs, h1, h2⟩ := h; exact ⟨vs, h1, h2.mono hS⟩
  | bx cs => obtain ⟨b, r', vs, h1, h2, h3, h4⟩ := h; exact ⟨b, r', vs, h1, h2, h3.mono hS, h4⟩
  | _ => exact ResC.mono hS h
theorem ResL.mono {S S' : Addr → Option Value} (hS : ∀ a v, S a = some v → S' a = some v) : ∀ {xs : List T} {vs : List Value} {r : List Nat}, ResL own S w xs vs r → ResL own S' w xs vs r
  | [], _, _, h => h
  | x :: xs, vs, r, ⟨v, vs', r1, r2, h1, h2, h3, h4⟩ => ⟨v, vs', r1, r2, h1, h2, h3.mono hS, ResL.mono hS h4⟩

theorem ResOk.mono {S S' : Addr → Option Value} (hS : ∀ a v, S a = some v → S' a = some v) {rs : List T} {v : Value} {r : List Nat} (h : ResOk own S w rs v r) : ResOk own S' w rs v r := by
  unfold ResOk at h ⊢
  split at h
  · exact ResA.mono hS h
  · rename_i hne
    obtain ⟨vs, h1, h2⟩ := h
    exact ⟨vs, h1, h2.mono hS⟩
theorem slots_find : ∀ (xs : List AV) (k t : Nat), find (slots k xs) t = if k ≤ t then xs[t - k]? else none
  | [], k, t => by simp [slots, find]
  | x :: xs, k, t => by
    simp only [slots, find, slots_find xs (k + 1) t]
    by_cases h1 : k = t
    · subst h1; simp
    · rw [if_neg h1]
      by_cases h2 : k ≤ t
      · rw [if_pos h2, if_pos (by omega)]
        obtain ⟨m, hm⟩ : ∃ m, t - k = m + 1 := ⟨t - k - 1, by omega⟩
        rw [hm, List.getElem?_cons_succ]; congr 1; omega
      · rw [if_neg h2, if_neg (by omega)]

theorem results_run {fn : Func} {tmps : Array Value} {vs : List Value} (h : (fn.results.toList.mapM (actR tmps)).run P w = .ok vs w) : (results fn tmps).run P w = .ok (if h : vs.length = 1 then vs[0] else .tuple vs.toArray) w := by
  have e : results fn tmps = (fn.results.mapM (actR tmps) >>= fun vs => pure (if h : vs.size = 1 then vs[0] else .tuple vs)) := by
    unfold results
    refine congrArg (fun z => z >>= _) ?_
    refine congrArg (fun g => fn.results.mapM g) ?_
    funext r; cases r <;> rfl
  rw [e]
  simp only [Array.mapM_eq_mapM_toList, Sem.run_bind, h, map_eq_pure_bind, Result.andThen_ok, Sem.run_pure]
  by_cases hl : vs.length = 1
  · simp [hl]
  · simp [hl]

/-- The beginning of a call. -/
theorem entry_rel {N : Nat} {G : Nat → Prop} {w : World} {args : List AA} {vals : List Value} {bs : List Nat} (hA : ArgsOk (inV G w) w args vals bs) (hnd : bs.Nodup) (hbs : ∀ b ∈ bs, b < w.heap.size ∧ ¬ G b) (hlen : args.length ≤ N) (hG : GOk G w) :
    ∃ pin μ : Nat → Option Pl, Rel ⟨fun b => G b ∨ w.heap.size ≤ b ∨ b ∈ bs, w, bs, pin, ⟨hG.inv, fun b hb => ⟨.inl (hG.gb b hb), fun h => (hbs b h).2 (hG.gb b hb)⟩⟩⟩ (· < (initS N args).nx) (initS N args) { tmps := vals.toArray ++ Array.replicate (N - vals.toArray.size) undef, defers := [] } w μ ∧ PinOk pin 0 args vals := by
  obtain ⟨L, a1, a2, a3, a0, a4, a5⟩ := initL_ok 0 hA
  -- the beginning
  let pin : Nat → Option Pl := fun i => (L.find? (fun e => e.1 == i)).bind fun e => e.2.2
  let Γ : Ctx := ⟨fun b => G b ∨ w.heap.size ≤ b ∨ b ∈ bs, w, bs, pin, ⟨hG.inv, fun b hb => ⟨.inl (hG.gb b hb), fun h => (hbs b h).2 (hG.gb b hb)⟩⟩⟩
  let μ : Nat → Option Pl := fun i => (L.find? (fun e => e.1 == i)).bind fun e => e.2.2
  have hid : (L.map (·.1)).Nodup := by rw [a3]; exact List.nodup_range'
  have hfind : ∀ e ∈ L, L.find? (fun e' => e'.1 == e.1) = some e := by
    clear a0 a1 a2 a3 a4 a5
    induction L with
    | nil => intro e he; cases he
    | cons x r ih =>
      intro e he
      simp only [List.map_cons, List.nodup_cons] at hid
      rcases List.mem_cons.1 he with h1 | h1
      · subst h1; simp
      · have : (x.1 == e.1) = false := by
          simp only [beq_eq_false_iff_ne]; exact fun hh => hid.1 (List.mem_map.2 ⟨e, h1, hh.symm⟩)
        rw [List.find?_cons, this]
        exact ih hid.2 e h1
  have hhp : (initL 0 args).2 = updH [] (L.map fun e => (e.1, e.2.1)) := by
    have key : ∀ (u : List (Nat × Blk)) (l : List (Nat × Blk)), ((l ++ u).map (·.1)).Nodup → updH l u = l ++ u := fun u => by
      induction u with
      | nil => intro l _; simp [updH]
      | cons x r ih =>
        intro l hn
        obtain ⟨i, b⟩ := x
        rw [updH]
        have hput : put l i b = l ++ [(i, b)] := by
          have hni : i ∉ l.map (·.1) := by
            rw [List.map_append, List.nodup_append] at hn
            exact fun hi => hn.2.2 _ hi i (by simp) rfl
          clear ih hn
          induction l with
          | nil => rfl
          | cons y l ih2 =>
            obtain ⟨k, z⟩ := y
            simp only [List.map_cons, List.mem_cons, not_or] at hni
            have : ¬ k = i := fun hh => hni.1 hh.symm
            simp only [put, this, if_false, List.cons_append]
            rw [ih2 hni.2]
        rw [hput, ih _ (by simpa using hn)]; simp
    rw [a1, key _ _ (by rw [← a1, List.nil_append, List.map_map]; exact hid)]; simp
  have hfit : Fits (· < L.length) (initL 0 args).2 μ L := fun e he => by
    refine ⟨?_, ?_, ?_⟩
    · have : e.1 ∈ L.map (·.1) := List.mem_map.2 ⟨e, he, rfl⟩
      rw [a3, List.mem_range'_1] at this; omega
    · rw [hhp]; exact updH_mem _ _ (by rw [List.map_map]; exact hid) (e.1, e.2.1) (List.mem_map.2 ⟨e, he, rfl⟩)
    · show (L.find? (fun e' => e'.1 == e.1)).bind (fun e => e.2.2) = _
      rw [hfind e he]; rfl
  have hin : ∀ i b, find (initL 0 args).2 i = some b → ∃ e ∈ L, e.1 = i ∧ e.2.1 = b := fun i b hb => by
    by_cases hh : ∃ e ∈ L, e.1 = i
    · obtain ⟨e, he, rfl⟩ := hh
      rw [(hfit e he).2.1] at hb
      exact ⟨e, he, rfl, Option.some.inj hb⟩
    · rw [hhp, updH_none _ _ _ (fun e he => by obtain ⟨e', he', rfl⟩ := List.mem_map.1 he; exact fun h => hh ⟨e', he', h⟩)] at hb
      cases hb
  have hlive : ∀ i p, live (initL 0 args).2 i → μ i = some p → ∃ e ∈ L, e.1 = i ∧ e.blk = some p.b := fun i p ⟨b, hb, hl⟩ hp => by
    obtain ⟨e, he, rfl, rfl⟩ := hin i b hb
    rw [(hfit e he).2.2] at hp
    exact ⟨e, he, rfl, by simp [E.blk, hl, hp]⟩
  have hbl : ∀ e ∈ L, ∀ b, e.blk = some b → b ∈ bs := fun e he b hb => by rw [← a2]; exact List.mem_filterMap.2 ⟨e, he, hb⟩
  have hSv : ∀ a v, inV G w a = some v → Sv Γ.G (initL 0 args).2 μ w a = some v := fun a v hv => by
    rw [inV_some] at hv
    rw [Sv_some]
    refine ⟨⟨.inl hv.1, fun ⟨i, p, h1, h2, h3⟩ => ?_⟩, hv.2⟩
    obtain ⟨e, he, _, heb⟩ := hlive i p h1 h2
    exact (hbs _ (hbl e he _ heb)).2 (h3 ▸ hv.1)
  obtain ⟨hav, hblk⟩ := a4 _ _ _ _ hfit hSv
  have hone : ∀ e ∈ L, ∀ e' ∈ L, e.1 = e'.1 → e = e' := fun e he e' he' hh => by
    have h1 := hfind e he
    have h2 := hfind e' he'
    rw [hh, h2] at h1; exact (Option.some.inj h1).symm
  have M : Mem Γ (· < L.length) (initL 0 args).2 w μ := by
    refine ⟨Fr.refl _ _, fun b hb => ?_, fun i b hb => ?_, fun i b hb => ?_, fun i p hi hp => ?_, fun i j p q hi hj hp hq hpq => ?_, fun i b hb => ?_⟩
    · rcases hb with hb | hb
      · exact .inr (.inr hb)
      · exact .inr (.inl hb)
    · have hpin : (L.find? (fun e => e.1 == i)).bind (fun e => e.2.2) = some b := hb
      refine ⟨?_, fun cs _ => ⟨b, hpin, rfl⟩, fun _ _ _ => hpin⟩
      rw [Option.bind_eq_some_iff] at hpin
      obtain ⟨e, h1, h2⟩ := hpin
      have he := List.mem_of_find?_eq_some h1
      have hei : e.1 = i := by simpa using List.find?_some h1
      subst hei
      exact (hfit e he).1
    · obtain ⟨e, he, rfl, _⟩ := hin i b hb; exact (hfit e he).1
    · obtain ⟨e, he, _, heb⟩ := hlive i p hi hp
      have := hbl e he _ heb
      exact ⟨(hbs _ this).1, .inl this⟩
    · obtain ⟨e, he, rfl, heb⟩ := hlive i p hi hp
      obtain ⟨e', he', rfl, heb'⟩ := hlive j q hj hq
      rw [← hpq] at heb'
      rw [blk_inj (by rw [a2]; exact hnd) hone he he' heb heb']
    · obtain ⟨e, he, rfl, rfl⟩ := hin i b hb
      rw [(hfit e he).2.2]
      exact hblk e he
  have hnx : (initS N args).nx = L.length := by show (initL 0 args).2.length = _; rw [← a1]; simp
  have hl0 : (initL 0 args).1.length = args.length := by
    have : ∀ (xs : List AA) (n : Nat), (initL n xs).1.length = xs.length := fun xs => by
      induction xs with
      | nil => intro n; rfl
      | cons x r ih => intro n; simp [initL, ih]
    exact this args 0
  have R : Rel Γ (· < (initS N args).nx) (initS N args) { tmps := vals.toArray ++ Array.replicate (N - vals.toArray.size) undef, defers := [] } w μ := by
    rw [hnx]
    refine ⟨M, ?_, fun t => ?_, rfl⟩
    · show (vals.toArray ++ Array.replicate (N - vals.toArray.size) undef).size = N
      simp; omega
    · show AVOk _ (initL 0 args).2 _ μ ((find (slots 0 (initL 0 args).1) t).getD (.a (.c .undef))) _
      rw [slots_find]
      simp only [Nat.zero_le, if_true, Nat.sub_zero]
      cases hx : (initL 0 args).1[t]? with
      | none => trivial
      | some x =>
        have hlt : t < vals.length := by rw [a0]; exact (List.getElem?_eq_some_iff.1 hx).1
        have : (vals.toArray ++ Array.replicate (N - vals.toArray.size) undef).getD t undef = vals[t] := by
          rw [Array.getD_eq_getD_getElem?, Array.getElem?_append_left (by simpa using hlt)]; simp [hlt]
        rw [this]
        exact hav t x _ hx (List.getElem?_eq_getElem hlt)
  exact ⟨pin, μ, R, a5 pin fun e he => by
    show (L.find? (fun e' => e'.1 == e.1)).bind _ = _
    rw [hfind e he]
    rfl⟩
/-- The end of a call. -/
theorem exit_ok (hτ : TOk P τ) {fn : Func} {args : List AA} {vals : List Value} {rs : List T} {os : List (List BC)} {s' : St} {a' : Act} {w' : World} {μ' : Nat → Option Pl} (R' : Rel Γ al s' a' w' μ') (hpin : PinOk Γ.pin 0 args vals)
    (hr : retK τ own fn args s' fun rs' os' => rs' = rs ∧ os' = os) : ∃ v r1 r2, (results fn a'.tmps).run P w' = .ok v w' ∧ ResOk own (inV (fun b => Γ.G b ∧ b ∉ r1 ++ r2) w') w' rs v r1 ∧
      OutsOk (inV (fun b => Γ.G b ∧ b ∉ r1 ++ r2) w') w' args vals os r2 ∧ (r1 ++ r2).Nodup ∧ ∀ b ∈ r1 ++ r2, b < w'.heap.size ∧ (b ∈ Γ.bs0 ∨ Γ.w0.heap.size ≤ b) := by
  unfold retK at hr
  obtain ⟨as, vs, ys, is, js, hK, hrun, hvl, hvs, hex, hvl2⟩ := exL_ok hτ R' hr
  obtain ⟨zs, ks, hK2, hout⟩ := outX_iff hK
  split at hK2
  · rename_i hck
    simp only [Bool.and_eq_true, List.all_eq_true, Bool.not_eq_true', List.contains_eq_mem, decide_eq_false_iff_not] at hck
    obtain ⟨hnd0, hdis⟩ := hck
    have hnd1 := nodup_of_B hnd0
    obtain ⟨rfl, rfl⟩ := hK2
    have hno : ∀ b, (¬ ∃ i p, live s'.hp i ∧ μ' i = some p ∧ p.b = b) → ¬ ∃ i ∈ is ++ ks, live s'.hp i ∧ bOf μ' i = some b := fun b h ⟨i, _, h1, h2⟩ => by
      simp only [bOf, Option.map_eq_some_iff] at h2
      obtain ⟨p, h3, h4⟩ := h2
      exact h ⟨i, p, h1, h3, h4⟩
    have hS : ∀ a v, Sv Γ.G s'.hp μ' w' a = some v → inV (fun b => Γ.G b ∧ ¬ ∃ i ∈ is ++ ks, live s'.hp i ∧ bOf μ' i = some b) w' a = some v := fun a v hv => by
      rw [Sv_some] at hv
      rw [inV_some]
      exact ⟨⟨hv.1.1, hno _ hv.1.2⟩, hv.2⟩
    obtain ⟨r1, c1, c2, c3, c4⟩ := ExAs_ok R'.mem hS hex hvl hvs (fun i hi ⟨sz, es, ver, hb⟩ p hp a ha v hv => by
      have hli : live s'.hp i := ⟨_, hb, rfl⟩
      rw [inV_some]
      refine ⟨⟨?_, fun ⟨j, hj, h1, h2⟩ => ?_⟩, hv⟩
      · rw [ha]; exact R'.mem.gd _ (R'.mem.mine i p hli hp).2
      · simp only [bOf, Option.map_eq_some_iff] at h2
        obtain ⟨q, h3, h4⟩ := h2
        have := R'.mem.inj i j p q hli h1 hp h3 (by rw [h4, ha])
        subst this
        exact hdis i hi hj)
    obtain ⟨r2, d1, d2, d3⟩ := OutR_ok R'.mem hS hout hpin
    have hliv : ∀ i ∈ is ++ ks, live s'.hp i := fun i hi => by
      rcases List.mem_append.1 hi with hi | hi
      · exact c3 i hi
      · exact d3 i hi
    have hsub : (r1 ++ r2).Sublist ((is ++ ks).filterMap (bOf μ')) := by rw [List.filterMap_append]; exact c2.append d2
    have hin2 : ∀ b ∈ r1 ++ r2, ∃ i ∈ is ++ ks, live s'.hp i ∧ bOf μ' i = some b := fun b hb => by
      obtain ⟨i, hi, hib⟩ := List.mem_filterMap.1 (hsub.subset hb)
      exact ⟨i, hi, hliv i hi, hib⟩
    have hmono : ∀ a v, inV (fun b => Γ.G b ∧ ¬ ∃ i ∈ is ++ ks, live s'.hp i ∧ bOf μ' i = some b) w' a = some v → inV (fun b => Γ.G b ∧ b ∉ r1 ++ r2) w' a = some v := fun a v hv => by
      rw [inV_some] at hv ⊢
      exact ⟨⟨hv.1.1, fun hb => hv.1.2 (hin2 _ hb)⟩, hv.2⟩
    refine ⟨_, r1, r2, results_run hrun, ?_, OutsOk.mono hmono d1, hsub.nodup (bOf_nodup R'.mem hnd1 hliv), fun b hb => ?_⟩
    · have hL := ResL.mono hmono c1
      unfold ResOk
      split
      · rename_i x
        obtain ⟨v, vs', q1, q2, rfl, rfl, h1, h2⟩ := hL
        obtain ⟨rfl, rfl⟩ := h2
        simpa using h1
      · rename_i hne
        refine ⟨vs, ?_, hL⟩
        rw [dif_neg]
        intro hl
        have : ys.length = 1 := by rw [c4, hl]
        match ys, this with
        | [y], _ => exact hne y rfl
    · obtain ⟨i, _, hl, hib⟩ := hin2 b hb
      simp only [bOf, Option.map_eq_some_iff] at hib
      obtain ⟨p, hp, rfl⟩ := hib
      exact R'.mem.mine i p hl hp
  · exact hK2.elim
/-- **A function's contract out of what is reckoned of its code.** -/
theorem CS_of_WW (hτ : TOk P τ) {f : FuncId} {fn : Func} {c : Code} (hf : P.funcs[f]? = some fn) (hb : fn.body = some c) (hname : (fn.name == "runtime.NumGoroutine") = false) {args : List AA} {rs : List T} {os : List (List BC)} (hlen : args.length ≤ fn.ntmps)
    (h : WW P c (initS fn.ntmps args) fun x s => x ≠ .exit 0 ∧ (match x with | .exit _ => False | _ => retK τ own fn args s fun rs' os' => rs' = rs ∧ os' = os)) : CS P own f args rs os := by
  intro G w vals bs hA hnd hbs hG
  have hname' : ¬ fn.name = "runtime.NumGoroutine" := by simpa using hname
  refine .inl ⟨by simp [callFunc, hf, hname', hb], ?_⟩
  obtain ⟨pin, μ, R, hpin⟩ := entry_rel hA hnd hbs hlen hG
  refine calls_of_wp hf hb (wp_mono (h _ _ w μ R) fun e a' w' ⟨x, s', μ', hx, ⟨_, hq⟩, R'⟩ => ?_)
  have fin : (retK τ own fn args s' fun rs' os' => rs' = rs ∧ os' = os) → a'.defers = [] ∧ ∃ v, (results fn a'.tmps).run P w' = .ok v w' ∧ ∃ v2, Ending.returned v = .returned v2 ∧ ∃ r1 r2, Fr bs w w' ∧ ResOk own (inV (fun b => G b ∨ (w.heap.size ≤ b ∨ b ∈ bs) ∧ b ∉ r1 ++ r2) w') w' rs v2 r1 ∧
      OutsOk (inV (fun b => G b ∨ (w.heap.size ≤ b ∨ b ∈ bs) ∧ b ∉ r1 ++ r2) w') w' args vals os r2 ∧ (r1 ++ r2).Nodup ∧ ∀ b ∈ r1 ++ r2, b < w'.heap.size ∧ (b ∈ bs ∨ w.heap.size ≤ b) := fun hr => by
    obtain ⟨v, r1, r2, h1, h2, h3, h4, h5⟩ := exit_ok hτ R' hpin hr
    have hm : ∀ a v, inV (fun b => (G b ∨ w.heap.size ≤ b ∨ b ∈ bs) ∧ b ∉ r1 ++ r2) w' a = some v → inV (fun b => G b ∨ (w.heap.size ≤ b ∨ b ∈ bs) ∧ b ∉ r1 ++ r2) w' a = some v := fun a v hv => by
      rw [inV_some] at hv ⊢
      refine ⟨?_, hv.2⟩
      rcases hv.1.1 with h | h
      · exact .inl h
      · exact .inr ⟨h, hv.1.2⟩
    exact ⟨R'.defers, v, h1, v, rfl, r1, r2, R'.mem.fr, ResOk.mono hm h2, OutsOk.mono hm h3, h4, h5⟩
  cases x with
  | normal =>
    obtain rfl : e = .normal := by cases e <;> first | rfl | exact hx.elim
    exact fin hq
  | exit j => exact hq.elim
  | ret =>
    obtain rfl : e = .ret := by cases e <;> first | rfl | exact hx.elim
    exact fin hq
theorem CS_of_W (hτ : TOk P τ) {md : Nat → Md} {f : FuncId} {fn : Func} {c : Code} (hf : P.funcs[f]? = some fn) (hb : fn.body = some c) (hname : (fn.name == "runtime.NumGoroutine") = false) {args : List AA} {rs : List T} {os : List (List BC)} (hlen : args.length ≤ fn.ntmps)
    (h : W P τ md c (initS fn.ntmps args) fun x s => x ≠ .exit 0 ∧ (match x with | .exit _ => False | _ => retK τ own fn args s fun rs' os' => rs' = rs ∧ os' = os)) : CS P own f args rs os :=
  CS_of_WW hτ hf hb hname hlen (W_sound hτ c _ _ h)
end
end Go.Proofs.YtbmibaopkfenbaaDoor.M

/- A machine of values: a table of types, checked. No condition. -/
namespace Go.Proofs.YtbmibaopkfenbaaDoor.M
open Go
set_option linter.unusedSimpArgs false
set_option linter.unusedVariables false

def zB : C → Value → Bool
  | .t (.int .i64 n), .int .i64 n' => decide (n = n')
  | .t (.int .u8 n), .int .u8 n' => decide (n = n')
  | .t (.int .i32 n), .int .i32 n' => decide (n = n')
  | .t (.int .u32 n), .int .u32 n' => decide (n = n')
  | .t (.int .u64 n), .int .u64 n' => decide (n = n')
  | .t (.int .u16 n), .int .u16 n' => decide (n = n')
  | .t (.bool b), .bool b' => b == b'
  | .t (.str s), .string s' => s.size == 0 && s'.size == 0
  | .nil _, .slice none 0 0 => true
  | .nilp, .pointer none => true
  | _, _ => false
theorem size0 {s : ByteArray} (h : s.size = 0) : s = ⟨#[]⟩ := by
  cases s with | mk d => congr; exact Array.eq_empty_of_size_eq_zero h
theorem zB_ok {c : C} {v : Value} (h : zB c v = true) : zOk c v := by
  unfold zB at h
  split at h <;> first | (simp at h; done) | skip
  all_goals first
    | (simp only [decide_eq_true_eq] at h; subst h; exact ⟨rfl, rfl⟩)
    | (simp only [beq_iff_eq] at h; subst h; rfl)
    | (simp only [Bool.and_eq_true, beq_iff_eq] at h; rw [size0 h.1, size0 h.2]; rfl)
    | trivial
def zsB : List C → List Value → Bool
  | [], [] => true
  | c :: cs, v :: vs => zB c v && v.oneCell' && zsB cs vs
  | _, _ => false
theorem zsB_ok : ∀ {cs : List C} {vs : List Value}, zsB cs vs = true → vs.length = cs.length ∧ (∀ v ∈ vs, v.oneCell' = true) ∧ ∀ (j : Nat) c v, cs[j]? = some c → vs[j]? = some v → zOk c v
  | [], [], _ => ⟨rfl, by simp, by simp⟩
  | c :: cs, v :: vs, h => by
    simp only [zsB, Bool.and_eq_true] at h
    obtain ⟨h1, h2, h3⟩ := zsB_ok h.2
    refine ⟨by simp [h1], fun x hx => ?_, fun j c' v' hc hv => ?_⟩
    · rcases List.mem_cons.1 hx with rfl | hx
      · exact h.1.2
      · exact h2 x hx
    · cases j with
      | zero => cases hc; cases hv; exact zB_ok h.1.1
      | succ j => exact h3 j c' v' hc hv
  | [], _ :: _, h => by simp [zsB] at h
  | _ :: _, [], h => by simp [zsB] at h
def fsB : List Field → List (Nat × Nat) → Bool
  | [], [] => true
  | f :: F, x :: X => f.offset == x.1 && f.type == x.2 && fsB F X
  | _, _ => false
theorem fsB_ok : ∀ {F : List Field} {X : List (Nat × Nat)}, fsB F X = true → F.map (fun f => (f.offset, f.type)) = X
  | [], [], _ => rfl
  | f :: F, x :: X, h => by
    simp only [fsB, Bool.and_eq_true, beq_iff_eq] at h
    simp only [List.map_cons, fsB_ok h.2, h.1.1, h.1.2]
  | [], _ :: _, h => by simp [fsB] at h
  | _ :: _, [], h => by simp [fsB] at h
def kB (P : Program) (τ : Tab) (t : Nat) (d : TD) : Bool :=
  match d.k, P.underlying t with
  | .int .i64, some (.int .i64) => true
  | .int .u8, some (.int .u8) => true
  | .int .i32, some (.int .i32) => true
  | .int .u32, some (.int .u32) => true
  | .int .u64, some (.int .u64) => true
  | .int .u16, some (.int .u16) => true
  | .bool, some .bool => true
  | .str, some .string => true
  | .slice e, some (.slice e') => e == e' && (find τ e).isSome
  | .array n e, some (.array n' e') => n == n' && e == e' && (find τ e).isSome
  | .struct fs, some (.struct F) => fsB F.toList fs && fs.all fun f => (find τ f.2).isSome
  | .ptr e, some (.pointer e') => e == e'
  | .other, some (.func ..) => true
  | .other, some (.interface ..) => true
  | .other, some (.map ..) => true
  | .other, some (.tuple ..) => true
  | _, _ => false
theorem kB_ok {P : Program} {τ : Tab} {t : Nat} {d : TD} (h : kB P τ t d = true) : kOk P τ t d := by
  unfold kB at h
  unfold kOk
  split at h <;> first | (simp at h; done) | skip
  all_goals (rename_i h1 h2; rw [h1]; dsimp only)
  case h_9 => simp only [Bool.and_eq_true, beq_iff_eq] at h; exact ⟨by rw [h2, h.1], h.2⟩
  case h_10 => simp only [Bool.and_eq_true, beq_iff_eq] at h; exact ⟨by rw [h2, h.1.1, h.1.2], h.2⟩
  case h_11 => simp only [Bool.and_eq_true] at h; exact ⟨⟨_, h2, fsB_ok h.1⟩, fun f hf => List.all_eq_true.1 h.2 f hf⟩
  case h_12 => simp only [beq_iff_eq] at h; rw [h2, h]
  all_goals first | exact h2 | exact ⟨_, h2, trivial⟩
def tdB (P : Program) (τ : Tab) (t : Nat) (d : TD) : Bool :=
  (match P.info? t with
  | some i => i.size == d.sz && i.bytes == d.bytes && (match i.zero with | some z => z.cells.size == d.sz && zsB d.z z.cells.toList | none => false)
  | none => false) && kB P τ t d
theorem tdB_ok {P : Program} {τ : Tab} {t : Nat} {d : TD} (h : tdB P τ t d = true) : TDok P τ t d := by
  simp only [tdB, Bool.and_eq_true] at h
  obtain ⟨h, hk⟩ := h
  refine ⟨?_, kB_ok hk⟩
  split at h
  · rename_i i hi
    simp only [Bool.and_eq_true, beq_iff_eq] at h
    obtain ⟨h1, h2⟩ := h
    split at h2
    · rename_i z hz
      simp only [Bool.and_eq_true, beq_iff_eq] at h2
      obtain ⟨h3, h4, h5⟩ := zsB_ok h2.2
      exact ⟨i, z, hi, h1.1, h1.2, hz, h2.1, by rw [← h3, ← h2.1]; simp, h4, h5⟩
    · cases h2
  · cases h
def tabB (P : Program) (τ : Tab) : Bool := τ.all fun x => tdB P τ x.1 x.2
theorem tabB_ok {P : Program} {τ : Tab} (h : tabB P τ = true) : TOk P τ := by
  have key : ∀ (l : Tab), (∀ x ∈ l, tdB P τ x.1 x.2 = true) → ∀ t d, find l t = some d → TDok P τ t d := fun l => by
    induction l with
    | nil => intro _ t d h; cases h
    | cons x r ih =>
      intro hl t d h
      obtain ⟨k, v⟩ := x
      simp only [find] at h
      split at h
      · rename_i hk
        obtain rfl := Option.some.inj h
        subst hk
        exact tdB_ok (hl (k, v) (by simp))
      · exact ih (fun x hx => hl x (by simp [hx])) t d h
  exact key τ fun x hx => List.all_eq_true.1 h x hx

end Go.Proofs.YtbmibaopkfenbaaDoor.M

/- A machine of values: how it is reckoned with simp: what is looked into, and when. No condition. Made by gen26.py out of M26.head and M2. -/
namespace Go.Proofs.YtbmibaopkfenbaaDoor.M
open Go
set_option linter.unusedSimpArgs false
set_option linter.unusedVariables false

/-- What is to be reckoned next. -/
def act (p : Prop) : Prop := p
/-- What stands beside this is not looked into. -/
inductive Shut {α : Sort _} (x : α) : Type where
  | one | two
def brK (c : Bool) (A B : Prop) (_ : Shut A) (_ : Shut B) : Prop := (c = true → A) ∧ (c = false → B)
def callE (P : Program) (own : Bool) (f : FuncId) (as : List AA) (R : List T → List (List BC) → Prop) (_ : Shut R) : Prop := ∃ rs os, CS P own f as rs os ∧ R rs os
def WWE (P : Program) (c : Code) (s : St) (Q : X → St → Prop) (_ : Shut c) (_ : Shut Q) : Prop := WW P c s Q
def callR (own : Bool) (hp : List (Nat × Blk)) (n : Nat) (xs : List AV) (K : AV → List (Nat × Blk) → Prop) (rs : List T) (os : List (List BC)) : Prop :=
  match impR own n rs with
  | (a, u) => match u ++ outsK own hp (n + u.length) xs os with
    | u => if decide (u.length ≤ 16) then K a ((if own then [] else freeze hp (xs.flatMap ownsA)) ++ u) else False
def wK (b : Option Bool) (A B : Prop) : Prop := match b with
  | some b => brK b A B .one .one
  | none => False
def retE (τ : Tab) (own : Bool) (rl : List ResultVar) (args : List AA) (s : St) (rs : List T) (os : List (List BC)) : Prop :=
  exL τ own s rl fun rs' is js => outX s.hp 0 args fun os' ks => if nodupB (is ++ ks) && js.all (fun j => !(is ++ ks).contains j) then rs' = rs ∧ os' = os else False
def endK (τ : Tab) (own : Bool) (rl : List ResultVar) (args : List AA) (rs : List T) (os : List (List BC)) (x : X) (s : St) : Prop :=
  match x with
  | .exit _ => False
  | _ => retE τ own rl args s rs os

section
variable {P : Program} {τ : Tab} {md : Nat → Md} {own : Bool}
theorem CS_act (hτ : TOk P τ) (md : Nat → Md) {f : FuncId} {fn : Func} {c : Code} {N : Nat} (hf : P.funcs[f]? = some fn) (hb : fn.body = some c) (hname : (fn.name == "runtime.NumGoroutine") = false) (hN : fn.ntmps = N) {rl : List ResultVar} (hrl : fn.results.toList = rl)
    {args : List AA} {rs : List T} {os : List (List BC)} (hlen : args.length ≤ N) (h : act (W P τ md c (initS N args) (endK τ own rl args rs os))) : CS P own f args rs os := by
  subst hrl hN
  have e : (endK τ own fn.results.toList args rs os) = fun x s => x ≠ .exit 0 ∧ (match x with | .exit _ => False | _ => retK τ own fn args s fun rs' os' => rs' = rs ∧ os' = os) := by
    funext x s
    cases x <;> simp [endK, retE, retK]
  rw [e] at h
  exact CS_of_W hτ hf hb hname hlen h
theorem act_and {p q : Prop} : act (p ∧ q) = (p ∧ act q) := (rfl)
theorem act_False : act False = False := (rfl)
theorem act_region {i : Nat} {l : List Oper} {s : St} {Q : X → St → Prop} : act (W P τ md (.region i l.toArray false) s Q) = act (WOps P τ md l.toArray l s.nx s (Q .normal)) := (rfl)
theorem act_seq {a b : Code} {s : St} {Q : X → St → Prop} : act (W P τ md (.seq a b) s Q) = act (W P τ md a s fun e s' => match e with | .normal => W P τ md b s' Q | .exit i => Q (.exit i) s' | .ret => Q .ret s') := (rfl)
theorem act_block {i : Nat} {a : Code} {s : St} {Q : X → St → Prop} : act (W P τ md (.block i a) s Q) = act (W P τ md a s fun e s' => match e with | .exit j => if j == i then Q .normal s' else Q (.exit j) s' | .normal => Q .normal s' | .ret => Q .ret s') := (rfl)
theorem act_ret {s : St} {Q : X → St → Prop} : act (W P τ md .ret s Q) = act (Q .ret s) := (rfl)
theorem act_skip {s : St} {Q : X → St → Prop} : act (W P τ md .skip s Q) = act (Q .normal s) := (rfl)
theorem act_exit {i : Nat} {s : St} {Q : X → St → Prop} : act (W P τ md (.exit i) s Q) = act (Q (.exit i) s) := (rfl)
theorem act_loop {c : Code} {s : St} {Q : X → St → Prop} : act (W P τ md (.loop c) s Q) = WWE P (.loop c) s Q .one .one := (rfl)
theorem act_draw {i : Nat} {l : Array Oper} {s : St} {Q : X → St → Prop} : act (W P τ md (.region i l true) s Q) = WWE P (.region i l true) s Q .one .one := (rfl)
theorem act_cond {c : Operand} {a b : Code} {s : St} {Q : X → St → Prop} : act (W P τ md (.cond c a b) s Q) = act (match s.eval τ 0 c with
    | .a (.c (.t (.bool c))) => brK c (W P τ md a s Q) (W P τ md b s Q) .one .one
    | _ => False) := (rfl)
theorem act_true {A B : Prop} {a : Shut A} {b : Shut B} : act (brK true A B a b) = act A := by simp [brK, act]
theorem act_false {A B : Prop} {a : Shut A} {b : Shut B} : act (brK false A B a b) = act B := by simp [brK, act]
theorem act_split {c : Bool} {A B : Prop} {a : Shut A} {b : Shut B} (h1 : c = true → act A) (h2 : c = false → act B) : act (brK c A B a b) := ⟨h1, h2⟩
theorem act_wK {b : Bool} {A B : Prop} : act (wK (some b) A B) = act (brK b A B .one .one) := (rfl)
theorem act_nil {ops : Array Oper} {n : Nat} {s : St} {K : St → Prop} : act (WOps P τ md ops [] n s K) = act (K { s with nx := n }) := (rfl)
theorem act_cons {ops : Array Oper} {o : Oper} {r : List Oper} {n : Nat} {s : St} {K : St → Prop} : act (WOps P τ md ops (o :: r) n s K) =
    act (wK (wantA ops s o) (op P τ md o s n fun v u => WOps P τ md ops r (n + 16) ((s.upd u).set o.dst v) K) (WOps P τ md ops r (n + 16) (s.set o.dst (.tup [])) K)) := (rfl)
theorem callKE {f : FuncId} {hp : List (Nat × Blk)} {n : Nat} {xs : List AV} {K : AV → List (Nat × Blk) → Prop} : callK P md f hp n xs K = callK' P md f hp n (tagL (md f).mv 0 xs) K := (rfl)
theorem callKE' {f : FuncId} {hp : List (Nat × Blk)} {n : Nat} {xs : List AV} {K : AV → List (Nat × Blk) → Prop} : callK' P md f hp n xs K =
  argsK hp xs fun as is => if nodupB is && (xs.flatMap ownsA).all (fun i => !is.contains i) then callE P (md f).own f as (callR (md f).own hp n xs K) .one else False := (rfl)
theorem act_callE {f : FuncId} {as : List AA} {R : List T → List (List BC) → Prop} {x : Shut R} {rs : List T} {os : List (List BC)} (h : CS P own f as rs os) (hR : act (R rs os)) : act (callE P own f as R x) := ⟨rs, os, h, hR⟩
theorem act_callR {hp : List (Nat × Blk)} {n : Nat} {xs : List AV} {K : AV → List (Nat × Blk) → Prop} {rs : List T} {os : List (List BC)} : act (callR own hp n xs K rs os) = act (match impR own n rs with
  | (a, u) => match u ++ outsK own hp (n + u.length) xs os with
    | u => if decide (u.length ≤ 16) then K a ((if own then [] else freeze hp (xs.flatMap ownsA)) ++ u) else False) := (rfl)
theorem act_end_ret {rl : List ResultVar} {args : List AA} {rs : List T} {os : List (List BC)} {s : St} : act (endK τ own rl args rs os .ret s) = retE τ own rl args s rs os := (rfl)
theorem act_end_normal {rl : List ResultVar} {args : List AA} {rs : List T} {os : List (List BC)} {s : St} : act (endK τ own rl args rs os .normal s) = retE τ own rl args s rs os := (rfl)
section
variable {s : St} {n : Nat} {K : AV → List (Nat × Blk) → Prop}
theorem act_move {dd : Option Nat} {x : Operand} {ty : TypeId} {pp : String} {af : Array Edge} {gg : Option (Nat × Bool)} : act (M.op P τ md { dst := dd, op := .move x, type := ty, pos := pp, after := af, guard := gg } s n K) = act (K (s.eval τ ty x) []) := (rfl)
theorem act_assign {dd : Option Nat} {x : Operand} {ty : TypeId} {pp : String} {af : Array Edge} {gg : Option (Nat × Bool)} : act (M.op P τ md { dst := dd, op := .assign x, type := ty, pos := pp, after := af, guard := gg } s n K) = act (K (s.eval τ ty x) []) := (rfl)
theorem act_pick {dd : Option Nat} {c : Operand} {a : Operand} {b : Operand} {ty : TypeId} {pp : String} {af : Array Edge} {gg : Option (Nat × Bool)} : act (M.op P τ md { dst := dd, op := .pick c a b, type := ty, pos := pp, after := af, guard := gg } s n K) = act (match s.eval τ 0 c, s.eval τ ty a, s.eval τ ty b with
    | .a (.c (.t (.bool c))), .a (.c (.t (.bool a))), .a (.c (.t (.bool b))) => K (.t (.bool (if c then a else b))) []
    | .a (.c (.t (.bool c))), a, b => brK c (K a []) (K b []) .one .one
    | _, _, _ => False) := (rfl)
theorem act_alloc {dd : Option Nat} {t : TypeId} {ty : TypeId} {pp : String} {af : Array Edge} {gg : Option (Nat × Bool)} : act (M.op P τ md { dst := dd, op := .alloc t, type := ty, pos := pp, after := af, guard := gg } s n K) = act (match find τ t with | some d => K (.c (.ptr n 0)) [(n, .box d.z)] | none => False) := (rfl)
theorem act_box {dd : Option Nat} {t : TypeId} {x : Operand} {ty : TypeId} {pp : String} {af : Array Edge} {gg : Option (Nat × Bool)} : act (M.op P τ md { dst := dd, op := .box t x, type := ty, pos := pp, after := af, guard := gg } s n K) = act (match s.eval τ t x with | .a a => if a.cells.all C.there then K (.c (.ptr n 0)) [(n, .box a.cells)] else False | _ => False) := (rfl)
theorem act_build {dd : Option Nat} {t : TypeId} {ps : Array (Nat × Operand)} {ty : TypeId} {pp : String} {af : Array Edge} {gg : Option (Nat × Bool)} : act (M.op P τ md { dst := dd, op := .build t ps, type := ty, pos := pp, after := af, guard := gg } s n K) = act (match find τ t with | some d => if d.ag then fillK τ s d ps.toList d.z fun cs => K (.a (.g cs)) [] else False | none => False) := (rfl)
theorem act_buildSlice {dd : Option Nat} {t : TypeId} {len : Nat} {ps : Array (Nat × Operand)} {ty : TypeId} {pp : String} {af : Array Edge} {gg : Option (Nat × Bool)} : act (M.op P τ md { dst := dd, op := .buildSlice t len ps, type := ty, pos := pp, after := af, guard := gg } s n K) = act (match find τ t with
    | some ⟨_, _, _, .slice e⟩ => match find τ e with
      | some d => sealK (if d.ag then .g d.z else .c (d.z.getD 0 .undef)) fun z =>
        if decide (len * d.sz ≤ 16777216) && decide (0 < d.sz) && (d.ag || d.sz == 1) then litK τ s e ps.toList (List.replicate len z) fun es => K (.c (.own n 0 0 len)) [(n, .arr d.sz es 0)] else False
      | none => False
    | _ => False) := (rfl)
theorem act_load {dd : Option Nat} {t : TypeId} {x : Operand} {ty : TypeId} {pp : String} {af : Array Edge} {gg : Option (Nat × Bool)} : act (M.op P τ md { dst := dd, op := .load t x, type := ty, pos := pp, after := af, guard := gg } s n K) = act (match find τ t, s.eval τ 0 x with
    | some d, .a (.c (.ptr i off)) => match find s.hp i with | some (.box cs) => partK d cs off fun a => K (.a a) [] | _ => False
    | some d, .a (.c (.eptr i v ix sb)) => match arrOf s.hp i v with
      | some (_, es) => match es[ix]? with | some e => partK d (e.cells.map C.t) sb fun a => K (.a a) [] | none => False
      | none => False
    | some d, .a (.c (.vptr _ es ix sb)) => match es[ix]? with | some e => partK d (e.cells.map C.t) sb fun a => K (.a a) [] | none => False
    | _, _ => False) := (rfl)
theorem act_store {dd : Option Nat} {t : TypeId} {x : Operand} {y : Operand} {ty : TypeId} {pp : String} {af : Array Edge} {gg : Option (Nat × Bool)} : act (M.op P τ md { dst := dd, op := .store t x y, type := ty, pos := pp, after := af, guard := gg } s n K) = act (match find τ t, s.eval τ 0 x, s.eval τ t y with
    | some d, .a (.c (.ptr i off)), .a a => match find s.hp i with
      | some (.box cs) => if a.cells.length == d.sz && decide (off + d.sz ≤ cs.length) && a.cells.all C.there then K (.c .undef) [(i, .box (splice cs off a.cells))] else False
      | _ => False
    | some d, .a (.c (.eptr i v ix sb)), .a a => match find s.hp i with
      | some (.arr sz es v') => if v == v' && a.cells.length == d.sz && decide (0 < d.sz) then match es[ix]?, sealL a.cells with
        | some e, some ys => sb + d.sz ≤ e.cells.length ∧ K (.c .undef) [(i, .arr sz (es.set ix (putCell e sb ys)) v')]
        | _, _ => False else False
      | _ => False
    | _, _, _ => False) := (rfl)
theorem act_nilCheck {dd : Option Nat} {x : Operand} {ty : TypeId} {pp : String} {af : Array Edge} {gg : Option (Nat × Bool)} : act (M.op P τ md { dst := dd, op := .nilCheck x, type := ty, pos := pp, after := af, guard := gg } s n K) = act (match s.eval τ 0 x with
    | .a (.c (.ptr i o)) => match find s.hp i with | some (.box _) => K (.c (.ptr i o)) [] | _ => False
    | .a (.c (.vptr a b c d)) => K (.c (.vptr a b c d)) []
    | _ => False) := (rfl)
theorem act_binOp {dd : Option Nat} {op : BinOp} {t : TypeId} {x : Operand} {y : Operand} {yt : TypeId} {ty : TypeId} {pp : String} {af : Array Edge} {gg : Option (Nat × Bool)} : act (M.op P τ md { dst := dd, op := .binOp op t x y yt, type := ty, pos := pp, after := af, guard := gg } s n K) = act (match s.eval τ t x, s.eval τ yt y with
    | .a (.c (.t (.bool a))), .a (.c (.t (.bool b))) => match (tg τ t).k with | .bool => binT op (.bool a) (.bool b) fun r => K (.t r) [] | _ => False
    | .a (.c (.t a)), .a (.c (.t b)) => binT op a b fun r => K (.t r) []
    | _, _ => False) := (rfl)
theorem act_unOp {dd : Option Nat} {op : UnOp} {t : TypeId} {x : Operand} {ty : TypeId} {pp : String} {af : Array Edge} {gg : Option (Nat × Bool)} : act (M.op P τ md { dst := dd, op := .unOp op t x, type := ty, pos := pp, after := af, guard := gg } s n K) = act (match op, s.eval τ t x with
    | .not, .a (.c (.t (.bool b))) => K (.t (.bool (!b))) []
    | .neg, .a (.c (.t (.int k n))) => K (.t (.int k (k.wrap (0 - n)))) []
    | _, _ => False) := (rfl)
theorem act_convert {dd : Option Nat} {src : TypeId} {dst : TypeId} {x : Operand} {ty : TypeId} {pp : String} {af : Array Edge} {gg : Option (Nat × Bool)} : act (M.op P τ md { dst := dd, op := .convert src dst x, type := ty, pos := pp, after := af, guard := gg } s n K) = act (match (tg τ src).k, (tg τ dst).k, s.eval τ src x with
    | .int _, .int k, .a (.c (.t (.int _ n))) => K (.t (.int k (k.wrap n))) []
    | .str, .str, .a (.c (.t (.str b))) => K (.t (.str b)) []
    | .slice e, .str, .a (.c x) => match (tg τ e).k, listOf s.hp x with
      | .int .u8, some (_, es) => (∀ b ∈ es, isByte b) ∧ K (.t (.str (bytes es))) []
      | _, _ => False
    | .str, .slice e, .a (.c (.t (.str b))) => match (tg τ e).k with
      | .int .u8 => K (.c (.own n 0 0 b.size)) [(n, .arr 1 (ofBytes b) 0)]
      | _ => False
    | _, _, _ => False) := (rfl)
theorem act_makeSlice {dd : Option Nat} {t : TypeId} {l : Operand} {c : Operand} {ty : TypeId} {pp : String} {af : Array Edge} {gg : Option (Nat × Bool)} : act (M.op P τ md { dst := dd, op := .makeSlice t l c, type := ty, pos := pp, after := af, guard := gg } s n K) = act (match find τ t, s.eval τ 0 l, s.eval τ 0 c with
    | some ⟨_, _, _, .slice e⟩, .a (.c (.t (.int _ l))), .a (.c (.t (.int _ c))) => match find τ e with
      | some d => sealK (if d.ag then .g d.z else .c (d.z.getD 0 .undef)) fun z => if decide (0 < d.sz) && (d.ag || d.sz == 1) then
        0 ≤ l ∧ l ≤ c ∧ d.bytes * c ≤ 140737488355328 ∧ c < 9223372036854775808 ∧ K (.c (.own n 0 0 l.toNat)) [(n, .arr d.sz (List.replicate l.toNat z) 0)] else False
      | none => False
    | _, _, _ => False) := (rfl)
theorem act_slice {dd : Option Nat} {t : TypeId} {x : Operand} {lo : Option Operand} {hi : Option Operand} {ty : TypeId} {pp : String} {af : Array Edge} {gg : Option (Nat × Bool)} : act (M.op P τ md { dst := dd, op := .slice t x lo hi none, type := ty, pos := pp, after := af, guard := gg } s n K) = act (match (tg τ t).k, s.eval τ t x with
    | .str, .a (.c (.t (.str b))) => cutK (lo.map (s.eval τ 0)) (hi.map (s.eval τ 0)) b.size fun l h => K (.t (.str (b.extract l h))) []
    | .slice e, .a (.c (.t (.list sz es))) => if sz == (tg τ e).sz then cutK (lo.map (s.eval τ 0)) (hi.map (s.eval τ 0)) es.length fun l h => K (.t (.list sz ((es.drop l).take (h - l)))) [] else False
    | .slice e, .a (.c (.own i v off len)) => match arrOf s.hp i v with
      | some (sz, _) => if sz == (tg τ e).sz then cutK (lo.map (s.eval τ 0)) (hi.map (s.eval τ 0)) len fun l h => K (.c (.own i v (off + l) (h - l))) [] else False
      | none => False
    | .slice _, .a (.c (.nil sz)) => cutK (lo.map (s.eval τ 0)) (hi.map (s.eval τ 0)) 0 fun _ _ => K (.c (.nil sz)) []
    | _, _ => False) := (rfl)
theorem act_fieldAddr {dd : Option Nat} {t : TypeId} {x : Operand} {f : Nat} {ty : TypeId} {pp : String} {af : Array Edge} {gg : Option (Nat × Bool)} : act (M.op P τ md { dst := dd, op := .fieldAddr t x f, type := ty, pos := pp, after := af, guard := gg } s n K) = act (match (tg τ t).k, s.eval τ 0 x with
    | .struct fs, .a (.c c) => match fs[f]? with
      | some (fo, ft) => if decide (0 < (tg τ ft).sz) then match c with
        | .ptr i off => match find s.hp i with | some (.box _) => K (.c (.ptr i (off + fo))) [] | _ => False
        | .eptr i v ix sb => match arrOf s.hp i v with | some _ => K (.c (.eptr i v ix (sb + fo))) [] | none => False
        | .vptr sz es ix sb => K (.c (.vptr sz es ix (sb + fo))) []
        | _ => False
        else False
      | none => False
    | _, _ => False) := (rfl)
theorem act_field {dd : Option Nat} {t : TypeId} {x : Operand} {f : Nat} {ty : TypeId} {pp : String} {af : Array Edge} {gg : Option (Nat × Bool)} : act (M.op P τ md { dst := dd, op := .field t x f, type := ty, pos := pp, after := af, guard := gg } s n K) = act (match (tg τ t).k, s.eval τ t x with
    | .struct fs, .a (.g cs) => match fs[f]? with
      | some (fo, ft) => match find τ ft with | some d => partK d cs fo fun a => K (.a a) [] | none => False
      | none => False
    | _, _ => False) := (rfl)
theorem act_indexAddr {dd : Option Nat} {t : TypeId} {x : Operand} {i : Operand} {ty : TypeId} {pp : String} {af : Array Edge} {gg : Option (Nat × Bool)} : act (M.op P τ md { dst := dd, op := .indexAddr t x i, type := ty, pos := pp, after := af, guard := gg } s n K) = act (match (tg τ t).k, s.eval τ t x, intA (s.eval τ 0 i) with
    | .slice e, .a (.c (.t (.list sz es))), some i => if sz == (tg τ e).sz then 0 ≤ i ∧ i < es.length ∧ K (.c (.vptr sz es i.toNat 0)) [] else False
    | .slice e, .a (.c (.own j v off len)), some i => match arrOf s.hp j v with
      | some (sz, _) => if sz == (tg τ e).sz then 0 ≤ i ∧ i < len ∧ K (.c (.eptr j v (off + i.toNat) 0)) [] else False
      | none => False
    | .array m e, .a (.c (.ptr j off)), some i => match find s.hp j with
      | some (.box _) => 0 ≤ i ∧ i < m ∧ K (.c (.ptr j (off + i.toNat * (tg τ e).sz))) []
      | _ => False
    | _, _, _ => False) := (rfl)
theorem act_index {dd : Option Nat} {t : TypeId} {x : Operand} {i : Operand} {ty : TypeId} {pp : String} {af : Array Edge} {gg : Option (Nat × Bool)} : act (M.op P τ md { dst := dd, op := .index t x i, type := ty, pos := pp, after := af, guard := gg } s n K) = act (match (tg τ t).k, s.eval τ t x, intA (s.eval τ 0 i) with
    | .str, .a (.c (.t (.str b))), some i => 0 ≤ i ∧ i < b.size ∧ K (.t (.int .u8 (b.data.getD i.toNat 0).toNat)) []
    | _, _, _ => False) := (rfl)
theorem act_extract {dd : Option Nat} {x : Operand} {i : Nat} {ty : TypeId} {pp : String} {af : Array Edge} {gg : Option (Nat × Bool)} : act (M.op P τ md { dst := dd, op := .extract x i, type := ty, pos := pp, after := af, guard := gg } s n K) = act (match s.eval τ 0 x with
    | .tup xs => match xs[i]? with | some a => K (.a a) [] | none => False
    | _ => False) := (rfl)
theorem act_call {dd : Option Nat} {f : Operand} {xs : Array Operand} {ts : Array TypeId} {ty : TypeId} {pp : String} {af : Array Edge} {gg : Option (Nat × Bool)} : act (M.op P τ md { dst := dd, op := .call { callee := .value f, args := xs, argTypes := ts }, type := ty, pos := pp, after := af, guard := gg } s n K) = act (match s.eval τ 0 f with
    | .a (.c (.fn f)) => if xs.toList.length == ts.toList.length then callK P md f s.hp n ((xs.toList.zip ts.toList).map fun x => s.eval τ x.2 x.1) K else False
    | .a (.c (.clo f i)) => if xs.toList.length == ts.toList.length then callK P md f s.hp n (((xs.toList.zip ts.toList).map fun x => s.eval τ x.2 x.1) ++ [.a (.c (.ptr i 0))]) K else False
    | _ => False) := (rfl)
theorem act_makeFunc {dd : Option Nat} {f : FuncId} {xs ys : Array Operand} {ty : TypeId} {pp : String} {af : Array Edge} {gg : Option (Nat × Bool)} : act (M.op P τ md { dst := dd, op := .makeFunc (.func f) xs ys, type := ty, pos := pp, after := af, guard := gg } s n K) = act (match xs.toList, ys.toList with
    | [], [] => K (.c (.fn f)) []
    | [], [y] => match s.eval τ 0 y with
      | .a (.c (.ptr i 0)) => match find s.hp i with | some (.box _) => K (.c (.clo f i)) [] | _ => False
      | _ => False
    | _, _ => False) := (rfl)
theorem act_len {dd : Option Nat} {xs : Array Operand} {ts : Array TypeId} {ty : TypeId} {pp : String} {af : Array Edge} {gg : Option (Nat × Bool)} : act (M.op P τ md { dst := dd, op := .call { callee := .builtin .len, args := xs, argTypes := ts }, type := ty, pos := pp, after := af, guard := gg } s n K) = act (match xs.toList, ts.toList with
    | [x], [t] => match (tg τ t).k, s.eval τ t x with
      | .str, .a (.c (.t (.str b))) => K (.t (.int .i64 b.size)) []
      | .slice _, .a (.c (.t (.list _ es))) => K (.t (.int .i64 es.length)) []
      | .slice _, .a (.c (.nil _)) => K (.t (.int .i64 0)) []
      | .slice _, .a (.c (.own i v _ len)) => match arrOf s.hp i v with | some _ => K (.t (.int .i64 len)) [] | none => False
      | _, _ => False
    | _, _ => False) := (rfl)
theorem act_append {dd : Option Nat} {xs : Array Operand} {ts : Array TypeId} {ty : TypeId} {pp : String} {af : Array Edge} {gg : Option (Nat × Bool)} : act (M.op P τ md { dst := dd, op := .call { callee := .builtin .append, args := xs, argTypes := ts }, type := ty, pos := pp, after := af, guard := gg } s n K) = act (match xs.toList, ts.toList with
    | [x, y], [t, u] =>
      match (tg τ t).k, s.eval τ t x, s.eval τ u y with
      | .slice e, .a (.c (.nil _)), .a (.c (.t (.int _ m))) => zerosK τ n e u m K
      | .slice e, .a (.c a), .a (.c b) => match find τ e, srcOf τ s.hp e u b with
        | some d, some (sz, fs) => if sz == d.sz && decide (0 < d.sz) && decide (0 < d.bytes) then match a with
          | .nil _ => (fs.length * d.bytes ≤ 140737488355328) ∧ K (.c (.own n 0 0 fs.length)) [(n, .arr sz fs 0)]
          | .own i v 0 len => match find s.hp i with
            | some (.arr sz' es v') => if v == v' && sz' == sz then len = es.length ∧ (es.length + fs.length) * d.bytes ≤ 140737488355328 ∧ K (.c (.own i (v + 1) 0 (len + fs.length))) [(i, .arr sz (es ++ fs) (v + 1))] else False
            | _ => False
          | _ => False
          else False
        | _, _ => False
      | _, _, _ => False
    | _, _ => False) := (rfl)
theorem act_cap {dd : Option Nat} {xs : Array Operand} {ts : Array TypeId} {ty : TypeId} {pp : String} {af : Array Edge} {gg : Option (Nat × Bool)} : act (M.op P τ md { dst := dd, op := .call { callee := .builtin .cap, args := xs, argTypes := ts }, type := ty, pos := pp, after := af, guard := gg } s n K) = act (match xs.toList, ts.toList with
    | [x], [t] => match (tg τ t).k, s.eval τ t x with
      | .slice _, .a (.c (.nil _)) => K (.t (.int .i64 0)) []
      | _, _ => False
    | _, _ => False) := (rfl)
theorem act_min {dd : Option Nat} {xs : Array Operand} {ts : Array TypeId} {ty : TypeId} {pp : String} {af : Array Edge} {gg : Option (Nat × Bool)} : act (M.op P τ md { dst := dd, op := .call { callee := .builtin .min, args := xs, argTypes := ts }, type := ty, pos := pp, after := af, guard := gg } s n K) = act (match xs.toList, ts.toList with
    | [x, y], [t, u] => match s.eval τ t x, s.eval τ u y with
      | .a (.c (.t (.int k a))), .a (.c (.t (.int _ b))) => K (.t (.int k (min a b))) []
      | _, _ => False
    | _, _ => False) := (rfl)
theorem act_max {dd : Option Nat} {xs : Array Operand} {ts : Array TypeId} {ty : TypeId} {pp : String} {af : Array Edge} {gg : Option (Nat × Bool)} : act (M.op P τ md { dst := dd, op := .call { callee := .builtin .max, args := xs, argTypes := ts }, type := ty, pos := pp, after := af, guard := gg } s n K) = act (match xs.toList, ts.toList with
    | [x, y], [t, u] => match s.eval τ t x, s.eval τ u y with
      | .a (.c (.t (.int k a))), .a (.c (.t (.int _ b))) => K (.t (.int k (max a b))) []
      | _, _ => False
    | _, _ => False) := (rfl)
theorem act_copy {dd : Option Nat} {xs : Array Operand} {ts : Array TypeId} {ty : TypeId} {pp : String} {af : Array Edge} {gg : Option (Nat × Bool)} : act (M.op P τ md { dst := dd, op := .call { callee := .builtin .copy, args := xs, argTypes := ts }, type := ty, pos := pp, after := af, guard := gg } s n K) = act (match xs.toList, ts.toList with
    | [x, y], [t, u] => match (tg τ t).k, s.eval τ t x, s.eval τ u y with
      | .slice e, .a (.c (.own i v off len)), .a (.c b) => match find s.hp i, listOf s.hp b with
        | some (.arr sz es v'), some (sz', fs) => if v == v' && sz == sz' && sz == (tg τ e).sz then K (.t (.int .i64 (fs.take len).length)) [(i, .arr sz (splice es off (fs.take len)) v)] else False
        | _, _ => False
      | _, _, _ => False
    | _, _ => False) := (rfl)
end
end
attribute [go_sem] act_makeFunc act_and act_False act_region act_seq act_block act_ret act_skip act_exit act_loop act_draw act_cond act_true act_false act_wK act_nil act_cons act_callR act_end_ret act_end_normal act_move act_assign act_pick act_alloc act_box act_build act_buildSlice act_load act_store act_nilCheck act_binOp act_unOp act_convert act_makeSlice act_slice act_fieldAddr act_field act_indexAddr act_index act_extract act_call act_len act_append act_cap act_min act_max act_copy zerosK callKE callKE'
attribute [go_sem] binT wantA yieldA isB initS initL initA initC initCs openT slots St.eval St.get St.set St.upd find put ofValue TD.el TD.ag AV.c AV.t retE exL exA exCs exC resA outX
  sealK sealA sealC sealL partK place fillK litK cutK intA putCell T.num C.there T.cells A.cells flat arrOf verOf listOf srcOf splice readC readL readA ownsC ownsA freeze tagL tagV tagC bcK bcsK argK argsK impC impCs impA impL impR outC outCs outsK nodupB T.scal
attribute [go_sem] reduceIte Nat.reduceAdd Nat.reduceMul Nat.reduceSub Nat.reduceLT Nat.reduceLeDiff Nat.reduceBEq Nat.reduceEqDiff Bool.false_eq_true List.nil_append List.append_nil List.cons_append List.length_nil List.length_cons Option.getD_some Option.getD_none
  List.getElem?_toArray List.getElem?_cons_zero List.getElem?_cons_succ List.getElem?_nil Option.bind_some Option.map_some Option.map_none beq_self_eq_true true_and and_true beq_true
  List.take_succ_cons List.take_zero List.take_nil List.drop_succ_cons List.drop_zero List.drop_nil List.map_cons List.map_nil List.all_cons List.all_nil Bool.true_and Bool.and_true Bool.false_and Bool.and_false decide_true decide_false List.flatMap_cons List.flatMap_nil List.contains_cons List.contains_nil
  List.zip_cons_cons List.zip_nil_left List.zip_nil_right List.foldr_cons List.foldr_nil Bool.not_true Bool.not_false Bool.or_false Bool.false_or Bool.or_true Bool.true_or Int.toNat_zero List.replicate_zero
end Go.Proofs.YtbmibaopkfenbaaDoor.M

/- A machine of values: loops, in the engine's form. No condition. -/
namespace Go.Proofs.YtbmibaopkfenbaaDoor.M
open Go
set_option linter.unusedSimpArgs false
set_option linter.unusedVariables false

def loopQ {ι : Type} (ks hs : List Nat) (n : Nat) (S : ι → St) (m : ι → Nat) (i : ι) (Q : X → St → Prop) (x : X) (s : St) : Prop :=
  match x with
  | .normal => ∃ j, m j < m i ∧ (S j).nx = n ∧ Reach n s (S j)
  | .exit e => Q (.exit e) s
  | .ret => Q .ret s
/-- The end of a round. -/
def nextK {ι : Type} (ks hs : List Nat) (n : Nat) (S : ι → St) (m : ι → Nat) (i : ι) (s : St) : Prop := ∃ j, m j < m i ∧ (S j).nx = n ∧ Reach n s (S j)

section
variable {P : Program} {τ : Tab} {md : Nat → Md} {ι : Type} {ks hs : List Nat} {n : Nat} {S : ι → St} {m : ι → Nat} {i : ι} {Q : X → St → Prop} {s : St}
theorem loopQ_normal : act (loopQ ks hs n S m i Q .normal s) = nextK ks hs n S m i s := (rfl)
theorem loopQ_exit {e : Nat} : act (loopQ ks hs n S m i Q (.exit e) s) = act (Q (.exit e) s) := (rfl)
theorem loopQ_ret : act (loopQ ks hs n S m i Q .ret s) = act (Q .ret s) := (rfl)
theorem nextK_of (j : ι) (h1 : tidyB hs n (tidy ks hs n s) = true) (h2 : tidy ks hs n s = S j) (h3 : m j < m i) : nextK ks hs n S m i s := ⟨j, h3, by rw [← h2]; rfl, Reach.tidy h1 h2⟩
theorem act_loop_of {c : Code} {x : Shut (Code.loop c)} {y : Shut Q} (hτ : TOk P τ) (ks hs : List Nat) (n : Nat) (S : ι → St) (m : ι → Nat) (i : ι) (hsn : s.nx ≤ n) (h0 : tidyB hs n (tidy ks hs n s) = true) (h1 : tidy ks hs n s = S i)
    (round : ∀ i, act (W P τ md c (S i) (loopQ ks hs n S m i Q))) : WWE P (.loop c) s Q x y := by
  refine W_loop (md := md) hτ ks hs n S m i hsn h0 h1 fun i _ => ?_
  exact (congrArg (W P τ md c (S i)) (by funext x s; cases x <;> rfl)).mp (round i)
end
attribute [go_sem] loopQ_normal loopQ_exit loopQ_ret tidy tidyB refC refA refV List.filter_cons List.filter_nil List.any_cons List.any_nil
end Go.Proofs.YtbmibaopkfenbaaDoor.M

/- A machine of values: an operation's outcome is one; it hangs on what the operation looks at alone. No condition. -/
namespace Go.Proofs.YtbmibaopkfenbaaDoor.M
open Go
set_option linter.unusedSimpArgs false
set_option linter.unusedVariables false
set_option linter.unusedSectionVars false

theorem partK_det {d : TD} {cs : List C} {off : Nat} {K : A → Prop} (h : partK d cs off K) : ∃ a, K a ∧ ∀ K' : A → Prop, K' a → partK d cs off K' := by
  unfold partK at h
  split at h
  · rename_i hd
    exact ⟨_, h.2, fun K' h' => by unfold partK; rw [if_pos hd]; exact ⟨h.1, h'⟩⟩
  · rename_i hd
    split at h
    · rename_i c hc
      exact ⟨_, h, fun K' h' => by unfold partK; rw [if_neg hd, hc]; exact h'⟩
    · exact h.elim
theorem sealK_det {a : A} {K : T → Prop} (h : sealK a K) : ∃ x, K x ∧ ∀ K' : T → Prop, K' x → sealK a K' := by
  unfold sealK at h
  split at h
  · rename_i x hx
    exact ⟨x, h, fun K' h' => by unfold sealK; rw [hx]; exact h'⟩
  · exact h.elim
theorem cutK_det {lo hi : Option AV} {len : Nat} {K : Nat → Nat → Prop} (h : cutK lo hi len K) : ∃ a b, K a b ∧ ∀ K' : Nat → Nat → Prop, K' a b → cutK lo hi len K' := by
  unfold cutK at h
  split at h
  · rename_i x y h1 h2
    exact ⟨_, _, h.2.2.2, fun K' h' => by unfold cutK; rw [h1, h2]; exact ⟨h.1, h.2.1, h.2.2.1, h'⟩⟩
  · exact h.elim
theorem fillK_det {τ : Tab} {s : St} {d : TD} {K : List C → Prop} : ∀ {l : List (Nat × Operand)} {cs : List C}, fillK τ s d l cs K → ∃ x, K x ∧ ∀ K' : List C → Prop, K' x → fillK τ s d l cs K'
  | [], cs, h => ⟨cs, h, fun _ h => h⟩
  | (i, x) :: r, cs, h => by
    simp only [fillK] at h
    split at h
    · rename_i off ft hp
      split at h
      · rename_i a ha
        split at h
        · rename_i hc
          obtain ⟨y, h1, h2⟩ := fillK_det h
          exact ⟨y, h1, fun K' h' => by simp only [fillK, hp, ha, if_pos hc]; exact h2 K' h'⟩
        · exact h.elim
      · exact h.elim
    · exact h.elim
theorem litK_det {τ : Tab} {s : St} {e : Nat} {K : List T → Prop} : ∀ {l : List (Nat × Operand)} {es : List T}, litK τ s e l es K → ∃ x, K x ∧ ∀ K' : List T → Prop, K' x → litK τ s e l es K'
  | [], es, h => ⟨es, h, fun _ h => h⟩
  | (i, x) :: r, es, h => by
    simp only [litK] at h
    split at h
    · rename_i a ha
      split at h
      · rename_i hc
        obtain ⟨y, h1, h2⟩ := sealK_det h
        obtain ⟨z, h3, h4⟩ := litK_det h1
        exact ⟨z, h3, fun K' h' => by simp only [litK, ha, if_pos hc]; exact h2 _ (h4 K' h')⟩
      · exact h.elim
    · exact h.elim
theorem binT_det {o : BinOp} {x y : T} {K : T → Prop} (h : binT o x y K) : ∃ r, K r ∧ ∀ K' : T → Prop, K' r → binT o x y K' := by
  cases x <;> cases y <;> simp only [binT] at h ⊢ <;> cases o <;> simp only at h ⊢ <;>
    first
    | exact h.elim
    | exact ⟨_, h, fun _ h => h⟩
    | exact h.2.elim
    | exact ⟨_, h.2, fun _ h' => ⟨h.1, h'⟩⟩
    | exact ⟨_, h.2.2, fun _ h' => ⟨h.1, h.2.1, h'⟩⟩
theorem bcK_det {hp : List (Nat × Blk)} {c : C} {K : BC → Prop} (h : bcK hp c K) : ∃ x, K x ∧ ∀ K' : BC → Prop, K' x → bcK hp c K' := by
  unfold bcK at h ⊢
  split at h
  · exact ⟨_, h, fun _ h => h⟩
  · exact ⟨_, h, fun _ h => h⟩
  · split at h
    · rename_i hf
      split at h
      · rename_i hv
        exact ⟨_, h.2.2, fun K' h' => by simp only [hf, if_pos hv]; exact ⟨h.1, h.2.1, h'⟩⟩
      · exact h.elim
    · exact h.elim
  · exact h.elim
theorem bcsK_det {hp : List (Nat × Blk)} {K : List BC → Prop} : ∀ {l : List C}, bcsK hp l K → ∃ x, K x ∧ ∀ K' : List BC → Prop, K' x → bcsK hp l K'
  | [], h => ⟨_, h, fun _ h => h⟩
  | c :: r, h => by
    simp only [bcsK] at h ⊢
    obtain ⟨x, h1, h2⟩ := bcK_det h
    obtain ⟨y, h3, h4⟩ := bcsK_det h1
    exact ⟨_, h3, fun K' h' => h2 _ (h4 _ h')⟩
theorem argK_det {hp : List (Nat × Blk)} {x : AV} {K : AA → List Nat → Prop} (h : argK hp x K) : ∃ a i, K a i ∧ ∀ K' : AA → List Nat → Prop, K' a i → argK hp x K' := by
  unfold argK at h ⊢
  split at h
  · split at h
    · rename_i hf
      obtain ⟨y, h1, h2⟩ := bcsK_det h
      exact ⟨_, _, h1, fun K' h' => h2 _ h'⟩
    · exact h.elim
  · exact ⟨_, _, h, fun _ h => h⟩
  · exact ⟨_, _, h, fun _ h => h⟩
  · rename_i k i v n
    obtain ⟨y, h1, h2⟩ := bcK_det h
    cases y with
    | arr sz es => cases k with
      | true => exact ⟨_, _, h1, fun K' h' => h2 _ h'⟩
      | false => exact ⟨_, _, h1.2, fun K' h' => h2 _ ⟨h1.1, h'⟩⟩
    | _ => exact h1.elim
  · split at h
    · rename_i hf
      obtain ⟨y, h1, h2⟩ := bcsK_det h
      exact ⟨_, _, h1, fun K' h' => h2 _ h'⟩
    · exact h.elim
  · split at h
    · rename_i hr
      exact ⟨_, _, h, fun K' h' => h'⟩
    · exact h.elim
  · exact h.elim
theorem argsK_det {hp : List (Nat × Blk)} {K : List AA → List Nat → Prop} : ∀ {l : List AV}, argsK hp l K → ∃ a i, K a i ∧ ∀ K' : List AA → List Nat → Prop, K' a i → argsK hp l K'
  | [], h => ⟨_, _, h, fun _ h => h⟩
  | c :: r, h => by
    simp only [argsK] at h ⊢
    obtain ⟨x, i, h1, h2⟩ := argK_det h
    obtain ⟨y, j, h3, h4⟩ := argsK_det h1
    exact ⟨_, _, h3, fun K' h' => h2 _ (h4 _ h')⟩
theorem callK_det {P : Program} {md : Nat → Md} {f : FuncId} {hp : List (Nat × Blk)} {n : Nat} {xs : List AV} {K : AV → List (Nat × Blk) → Prop} (h : callK P md f hp n xs K) :
    ∃ v u, K v u ∧ ∀ K' : AV → List (Nat × Blk) → Prop, K' v u → callK P md f hp n xs K' := by
  unfold callK callK' at h ⊢
  obtain ⟨as, is, h1, h2⟩ := argsK_det h
  split at h1
  · rename_i hc
    obtain ⟨rs, os, h3, h4⟩ := h1
    dsimp only at h4
    split at h4
    · rename_i hu
      exact ⟨_, _, h4, fun K' h' => h2 _ (by dsimp only; rw [if_pos hc]; exact ⟨rs, os, h3, by rw [if_pos hu]; exact h'⟩)⟩
    · exact h4.elim
  · exact h1.elim
end Go.Proofs.YtbmibaopkfenbaaDoor.M

/- A machine of values: an operation's outcome is one. No condition. Made by gen29.py. -/
namespace Go.Proofs.YtbmibaopkfenbaaDoor.M
open Go
set_option linter.unusedSimpArgs false
set_option linter.unusedVariables false
set_option linter.unusedSectionVars false

theorem op_det {P : Program} {τ : Tab} {md : Nat → Md} {o : Oper} {s : St} {n : Nat} {K : AV → List (Nat × Blk) → Prop} (h : op P τ md o s n K) :
    ∃ v u, K v u ∧ ∀ K' : AV → List (Nat × Blk) → Prop, K' v u → op P τ md o s n K' := by
  cases ho : o.op with
  | move x =>
    simp only [op, ho] at h ⊢
    (repeat' split at h) <;> ((try simp only [*, reduceIte, true_and]); first
      | exact h.elim
      | exact ⟨_, _, h, fun _ h' => h'⟩
      | exact ⟨_, _, h.2, fun _ h' => h'⟩
      | exact ⟨_, _, h.2.2, fun _ h' => h'⟩
      | exact ⟨_, _, h.2.2.2, fun _ h' => h'⟩
      | exact ⟨_, _, h.2.2.2.2, fun _ h' => h'⟩
      | exact ⟨_, _, h.2, fun _ h' => ⟨h.1, h'⟩⟩
      | exact ⟨_, _, h.2.2, fun _ h' => ⟨h.1, h.2.1, h'⟩⟩
      | exact ⟨_, _, h.2.2.2, fun _ h' => ⟨h.1, h.2.1, h.2.2.1, h'⟩⟩
      | exact ⟨_, _, h.2.2.2.2, fun _ h' => ⟨h.1, h.2.1, h.2.2.1, h.2.2.2.1, h'⟩⟩
      | (obtain ⟨x1, x2, x3⟩ := partK_det h; exact ⟨_, _, x2, fun _ h' => x3 _ h'⟩)
      | (obtain ⟨x1, x2, x3⟩ := fillK_det h; exact ⟨_, _, x2, fun _ h' => x3 _ h'⟩)
      | (obtain ⟨x1, x2, x3⟩ := binT_det h; exact ⟨_, _, x2, fun _ h' => x3 _ h'⟩)
      | (obtain ⟨x1, x4, x2, x3⟩ := cutK_det h; exact ⟨_, _, x2, fun _ h' => x3 _ h'⟩)
      | (obtain ⟨x1, x4, x2, x3⟩ := callK_det h; exact ⟨_, _, x2, fun _ h' => x3 _ h'⟩)
      | (obtain ⟨x1, x2, x3⟩ := h; subst x1; exact ⟨_, _, x3, fun _ h' => h'⟩)
      | skip)
  | assign x =>
    simp only [op, ho] at h ⊢
    (repeat' split at h) <;> ((try simp only [*, reduceIte, true_and]); first
      | exact h.elim
      | exact ⟨_, _, h, fun _ h' => h'⟩
      | exact ⟨_, _, h.2, fun _ h' => h'⟩
      | exact ⟨_, _, h.2.2, fun _ h' => h'⟩
      | exact ⟨_, _, h.2.2.2, fun _ h' => h'⟩
      | exact ⟨_, _, h.2.2.2.2, fun _ h' => h'⟩
      | exact ⟨_, _, h.2, fun _ h' => ⟨h.1, h'⟩⟩
      | exact ⟨_, _, h.2.2, fun _ h' => ⟨h.1, h.2.1, h'⟩⟩
      | exact ⟨_, _, h.2.2.2, fun _ h' => ⟨h.1, h.2.1, h.2.2.1, h'⟩⟩
      | exact ⟨_, _, h.2.2.2.2, fun _ h' => ⟨h.1, h.2.1, h.2.2.1, h.2.2.2.1, h'⟩⟩
      | (obtain ⟨x1, x2, x3⟩ := partK_det h; exact ⟨_, _, x2, fun _ h' => x3 _ h'⟩)
      | (obtain ⟨x1, x2, x3⟩ := fillK_det h; exact ⟨_, _, x2, fun _ h' => x3 _ h'⟩)
      | (obtain ⟨x1, x2, x3⟩ := binT_det h; exact ⟨_, _, x2, fun _ h' => x3 _ h'⟩)
      | (obtain ⟨x1, x4, x2, x3⟩ := cutK_det h; exact ⟨_, _, x2, fun _ h' => x3 _ h'⟩)
      | (obtain ⟨x1, x4, x2, x3⟩ := callK_det h; exact ⟨_, _, x2, fun _ h' => x3 _ h'⟩)
      | (obtain ⟨x1, x2, x3⟩ := h; subst x1; exact ⟨_, _, x3, fun _ h' => h'⟩)
      | skip)
  | alloc t =>
    simp only [op, ho] at h ⊢
    (repeat' split at h) <;> ((try simp only [*, reduceIte, true_and]); first
      | exact h.elim
      | exact ⟨_, _, h, fun _ h' => h'⟩
      | exact ⟨_, _, h.2, fun _ h' => h'⟩
      | exact ⟨_, _, h.2.2, fun _ h' => h'⟩
      | exact ⟨_, _, h.2.2.2, fun _ h' => h'⟩
      | exact ⟨_, _, h.2.2.2.2, fun _ h' => h'⟩
      | exact ⟨_, _, h.2, fun _ h' => ⟨h.1, h'⟩⟩
      | exact ⟨_, _, h.2.2, fun _ h' => ⟨h.1, h.2.1, h'⟩⟩
      | exact ⟨_, _, h.2.2.2, fun _ h' => ⟨h.1, h.2.1, h.2.2.1, h'⟩⟩
      | exact ⟨_, _, h.2.2.2.2, fun _ h' => ⟨h.1, h.2.1, h.2.2.1, h.2.2.2.1, h'⟩⟩
      | (obtain ⟨x1, x2, x3⟩ := partK_det h; exact ⟨_, _, x2, fun _ h' => x3 _ h'⟩)
      | (obtain ⟨x1, x2, x3⟩ := fillK_det h; exact ⟨_, _, x2, fun _ h' => x3 _ h'⟩)
      | (obtain ⟨x1, x2, x3⟩ := binT_det h; exact ⟨_, _, x2, fun _ h' => x3 _ h'⟩)
      | (obtain ⟨x1, x4, x2, x3⟩ := cutK_det h; exact ⟨_, _, x2, fun _ h' => x3 _ h'⟩)
      | (obtain ⟨x1, x4, x2, x3⟩ := callK_det h; exact ⟨_, _, x2, fun _ h' => x3 _ h'⟩)
      | (obtain ⟨x1, x2, x3⟩ := h; subst x1; exact ⟨_, _, x3, fun _ h' => h'⟩)
      | skip)
  | box t x =>
    simp only [op, ho] at h ⊢
    (repeat' split at h) <;> ((try simp only [*, reduceIte, true_and]); first
      | exact h.elim
      | exact ⟨_, _, h, fun _ h' => h'⟩
      | exact ⟨_, _, h.2, fun _ h' => h'⟩
      | exact ⟨_, _, h.2.2, fun _ h' => h'⟩
      | exact ⟨_, _, h.2.2.2, fun _ h' => h'⟩
      | exact ⟨_, _, h.2.2.2.2, fun _ h' => h'⟩
      | exact ⟨_, _, h.2, fun _ h' => ⟨h.1, h'⟩⟩
      | exact ⟨_, _, h.2.2, fun _ h' => ⟨h.1, h.2.1, h'⟩⟩
      | exact ⟨_, _, h.2.2.2, fun _ h' => ⟨h.1, h.2.1, h.2.2.1, h'⟩⟩
      | exact ⟨_, _, h.2.2.2.2, fun _ h' => ⟨h.1, h.2.1, h.2.2.1, h.2.2.2.1, h'⟩⟩
      | (obtain ⟨x1, x2, x3⟩ := partK_det h; exact ⟨_, _, x2, fun _ h' => x3 _ h'⟩)
      | (obtain ⟨x1, x2, x3⟩ := fillK_det h; exact ⟨_, _, x2, fun _ h' => x3 _ h'⟩)
      | (obtain ⟨x1, x2, x3⟩ := binT_det h; exact ⟨_, _, x2, fun _ h' => x3 _ h'⟩)
      | (obtain ⟨x1, x4, x2, x3⟩ := cutK_det h; exact ⟨_, _, x2, fun _ h' => x3 _ h'⟩)
      | (obtain ⟨x1, x4, x2, x3⟩ := callK_det h; exact ⟨_, _, x2, fun _ h' => x3 _ h'⟩)
      | (obtain ⟨x1, x2, x3⟩ := h; subst x1; exact ⟨_, _, x3, fun _ h' => h'⟩)
      | skip)
  | build t ps =>
    simp only [op, ho] at h ⊢
    (repeat' split at h) <;> ((try simp only [*, reduceIte, true_and]); first
      | exact h.elim
      | exact ⟨_, _, h, fun _ h' => h'⟩
      | exact ⟨_, _, h.2, fun _ h' => h'⟩
      | exact ⟨_, _, h.2.2, fun _ h' => h'⟩
      | exact ⟨_, _, h.2.2.2, fun _ h' => h'⟩
      | exact ⟨_, _, h.2.2.2.2, fun _ h' => h'⟩
      | exact ⟨_, _, h.2, fun _ h' => ⟨h.1, h'⟩⟩
      | exact ⟨_, _, h.2.2, fun _ h' => ⟨h.1, h.2.1, h'⟩⟩
      | exact ⟨_, _, h.2.2.2, fun _ h' => ⟨h.1, h.2.1, h.2.2.1, h'⟩⟩
      | exact ⟨_, _, h.2.2.2.2, fun _ h' => ⟨h.1, h.2.1, h.2.2.1, h.2.2.2.1, h'⟩⟩
      | (obtain ⟨x1, x2, x3⟩ := partK_det h; exact ⟨_, _, x2, fun _ h' => x3 _ h'⟩)
      | (obtain ⟨x1, x2, x3⟩ := fillK_det h; exact ⟨_, _, x2, fun _ h' => x3 _ h'⟩)
      | (obtain ⟨x1, x2, x3⟩ := binT_det h; exact ⟨_, _, x2, fun _ h' => x3 _ h'⟩)
      | (obtain ⟨x1, x4, x2, x3⟩ := cutK_det h; exact ⟨_, _, x2, fun _ h' => x3 _ h'⟩)
      | (obtain ⟨x1, x4, x2, x3⟩ := callK_det h; exact ⟨_, _, x2, fun _ h' => x3 _ h'⟩)
      | (obtain ⟨x1, x2, x3⟩ := h; subst x1; exact ⟨_, _, x3, fun _ h' => h'⟩)
      | skip)
  | load t x =>
    simp only [op, ho] at h ⊢
    (repeat' split at h) <;> ((try simp only [*, reduceIte, true_and]); first
      | exact h.elim
      | exact ⟨_, _, h, fun _ h' => h'⟩
      | exact ⟨_, _, h.2, fun _ h' => h'⟩
      | exact ⟨_, _, h.2.2, fun _ h' => h'⟩
      | exact ⟨_, _, h.2.2.2, fun _ h' => h'⟩
      | exact ⟨_, _, h.2.2.2.2, fun _ h' => h'⟩
      | exact ⟨_, _, h.2, fun _ h' => ⟨h.1, h'⟩⟩
      | exact ⟨_, _, h.2.2, fun _ h' => ⟨h.1, h.2.1, h'⟩⟩
      | exact ⟨_, _, h.2.2.2, fun _ h' => ⟨h.1, h.2.1, h.2.2.1, h'⟩⟩
      | exact ⟨_, _, h.2.2.2.2, fun _ h' => ⟨h.1, h.2.1, h.2.2.1, h.2.2.2.1, h'⟩⟩
      | (obtain ⟨x1, x2, x3⟩ := partK_det h; exact ⟨_, _, x2, fun _ h' => x3 _ h'⟩)
      | (obtain ⟨x1, x2, x3⟩ := fillK_det h; exact ⟨_, _, x2, fun _ h' => x3 _ h'⟩)
      | (obtain ⟨x1, x2, x3⟩ := binT_det h; exact ⟨_, _, x2, fun _ h' => x3 _ h'⟩)
      | (obtain ⟨x1, x4, x2, x3⟩ := cutK_det h; exact ⟨_, _, x2, fun _ h' => x3 _ h'⟩)
      | (obtain ⟨x1, x4, x2, x3⟩ := callK_det h; exact ⟨_, _, x2, fun _ h' => x3 _ h'⟩)
      | (obtain ⟨x1, x2, x3⟩ := h; subst x1; exact ⟨_, _, x3, fun _ h' => h'⟩)
      | skip)
  | store t x y =>
    simp only [op, ho] at h ⊢
    (repeat' split at h) <;> ((try simp only [*, reduceIte, true_and]); first
      | exact h.elim
      | exact ⟨_, _, h, fun _ h' => h'⟩
      | exact ⟨_, _, h.2, fun _ h' => h'⟩
      | exact ⟨_, _, h.2.2, fun _ h' => h'⟩
      | exact ⟨_, _, h.2.2.2, fun _ h' => h'⟩
      | exact ⟨_, _, h.2.2.2.2, fun _ h' => h'⟩
      | exact ⟨_, _, h.2, fun _ h' => ⟨h.1, h'⟩⟩
      | exact ⟨_, _, h.2.2, fun _ h' => ⟨h.1, h.2.1, h'⟩⟩
      | exact ⟨_, _, h.2.2.2, fun _ h' => ⟨h.1, h.2.1, h.2.2.1, h'⟩⟩
      | exact ⟨_, _, h.2.2.2.2, fun _ h' => ⟨h.1, h.2.1, h.2.2.1, h.2.2.2.1, h'⟩⟩
      | (obtain ⟨x1, x2, x3⟩ := partK_det h; exact ⟨_, _, x2, fun _ h' => x3 _ h'⟩)
      | (obtain ⟨x1, x2, x3⟩ := fillK_det h; exact ⟨_, _, x2, fun _ h' => x3 _ h'⟩)
      | (obtain ⟨x1, x2, x3⟩ := binT_det h; exact ⟨_, _, x2, fun _ h' => x3 _ h'⟩)
      | (obtain ⟨x1, x4, x2, x3⟩ := cutK_det h; exact ⟨_, _, x2, fun _ h' => x3 _ h'⟩)
      | (obtain ⟨x1, x4, x2, x3⟩ := callK_det h; exact ⟨_, _, x2, fun _ h' => x3 _ h'⟩)
      | (obtain ⟨x1, x2, x3⟩ := h; subst x1; exact ⟨_, _, x3, fun _ h' => h'⟩)
      | skip)
  | nilCheck x =>
    simp only [op, ho] at h ⊢
    (repeat' split at h) <;> ((try simp only [*, reduceIte, true_and]); first
      | exact h.elim
      | exact ⟨_, _, h, fun _ h' => h'⟩
      | exact ⟨_, _, h.2, fun _ h' => h'⟩
      | exact ⟨_, _, h.2.2, fun _ h' => h'⟩
      | exact ⟨_, _, h.2.2.2, fun _ h' => h'⟩
      | exact ⟨_, _, h.2.2.2.2, fun _ h' => h'⟩
      | exact ⟨_, _, h.2, fun _ h' => ⟨h.1, h'⟩⟩
      | exact ⟨_, _, h.2.2, fun _ h' => ⟨h.1, h.2.1, h'⟩⟩
      | exact ⟨_, _, h.2.2.2, fun _ h' => ⟨h.1, h.2.1, h.2.2.1, h'⟩⟩
      | exact ⟨_, _, h.2.2.2.2, fun _ h' => ⟨h.1, h.2.1, h.2.2.1, h.2.2.2.1, h'⟩⟩
      | (obtain ⟨x1, x2, x3⟩ := partK_det h; exact ⟨_, _, x2, fun _ h' => x3 _ h'⟩)
      | (obtain ⟨x1, x2, x3⟩ := fillK_det h; exact ⟨_, _, x2, fun _ h' => x3 _ h'⟩)
      | (obtain ⟨x1, x2, x3⟩ := binT_det h; exact ⟨_, _, x2, fun _ h' => x3 _ h'⟩)
      | (obtain ⟨x1, x4, x2, x3⟩ := cutK_det h; exact ⟨_, _, x2, fun _ h' => x3 _ h'⟩)
      | (obtain ⟨x1, x4, x2, x3⟩ := callK_det h; exact ⟨_, _, x2, fun _ h' => x3 _ h'⟩)
      | (obtain ⟨x1, x2, x3⟩ := h; subst x1; exact ⟨_, _, x3, fun _ h' => h'⟩)
      | skip)
  | binOp b t x y u =>
    simp only [op, ho] at h ⊢
    (repeat' split at h) <;> ((try simp only [*, reduceIte, true_and]); first
      | exact h.elim
      | exact ⟨_, _, h, fun _ h' => h'⟩
      | exact ⟨_, _, h.2, fun _ h' => h'⟩
      | exact ⟨_, _, h.2.2, fun _ h' => h'⟩
      | exact ⟨_, _, h.2.2.2, fun _ h' => h'⟩
      | exact ⟨_, _, h.2.2.2.2, fun _ h' => h'⟩
      | exact ⟨_, _, h.2, fun _ h' => ⟨h.1, h'⟩⟩
      | exact ⟨_, _, h.2.2, fun _ h' => ⟨h.1, h.2.1, h'⟩⟩
      | exact ⟨_, _, h.2.2.2, fun _ h' => ⟨h.1, h.2.1, h.2.2.1, h'⟩⟩
      | exact ⟨_, _, h.2.2.2.2, fun _ h' => ⟨h.1, h.2.1, h.2.2.1, h.2.2.2.1, h'⟩⟩
      | (obtain ⟨x1, x2, x3⟩ := partK_det h; exact ⟨_, _, x2, fun _ h' => x3 _ h'⟩)
      | (obtain ⟨x1, x2, x3⟩ := fillK_det h; exact ⟨_, _, x2, fun _ h' => x3 _ h'⟩)
      | (obtain ⟨x1, x2, x3⟩ := binT_det h; exact ⟨_, _, x2, fun _ h' => x3 _ h'⟩)
      | (obtain ⟨x1, x4, x2, x3⟩ := cutK_det h; exact ⟨_, _, x2, fun _ h' => x3 _ h'⟩)
      | (obtain ⟨x1, x4, x2, x3⟩ := callK_det h; exact ⟨_, _, x2, fun _ h' => x3 _ h'⟩)
      | (obtain ⟨x1, x2, x3⟩ := h; subst x1; exact ⟨_, _, x3, fun _ h' => h'⟩)
      | skip)
  | unOp u t x =>
    simp only [op, ho] at h ⊢
    (repeat' split at h) <;> ((try simp only [*, reduceIte, true_and]); first
      | exact h.elim
      | exact ⟨_, _, h, fun _ h' => h'⟩
      | exact ⟨_, _, h.2, fun _ h' => h'⟩
      | exact ⟨_, _, h.2.2, fun _ h' => h'⟩
      | exact ⟨_, _, h.2.2.2, fun _ h' => h'⟩
      | exact ⟨_, _, h.2.2.2.2, fun _ h' => h'⟩
      | exact ⟨_, _, h.2, fun _ h' => ⟨h.1, h'⟩⟩
      | exact ⟨_, _, h.2.2, fun _ h' => ⟨h.1, h.2.1, h'⟩⟩
      | exact ⟨_, _, h.2.2.2, fun _ h' => ⟨h.1, h.2.1, h.2.2.1, h'⟩⟩
      | exact ⟨_, _, h.2.2.2.2, fun _ h' => ⟨h.1, h.2.1, h.2.2.1, h.2.2.2.1, h'⟩⟩
      | (obtain ⟨x1, x2, x3⟩ := partK_det h; exact ⟨_, _, x2, fun _ h' => x3 _ h'⟩)
      | (obtain ⟨x1, x2, x3⟩ := fillK_det h; exact ⟨_, _, x2, fun _ h' => x3 _ h'⟩)
      | (obtain ⟨x1, x2, x3⟩ := binT_det h; exact ⟨_, _, x2, fun _ h' => x3 _ h'⟩)
      | (obtain ⟨x1, x4, x2, x3⟩ := cutK_det h; exact ⟨_, _, x2, fun _ h' => x3 _ h'⟩)
      | (obtain ⟨x1, x4, x2, x3⟩ := callK_det h; exact ⟨_, _, x2, fun _ h' => x3 _ h'⟩)
      | (obtain ⟨x1, x2, x3⟩ := h; subst x1; exact ⟨_, _, x3, fun _ h' => h'⟩)
      | skip)
  | convert t u x =>
    simp only [op, ho] at h ⊢
    (repeat' split at h) <;> ((try simp only [*, reduceIte, true_and]); first
      | exact h.elim
      | exact ⟨_, _, h, fun _ h' => h'⟩
      | exact ⟨_, _, h.2, fun _ h' => h'⟩
      | exact ⟨_, _, h.2.2, fun _ h' => h'⟩
      | exact ⟨_, _, h.2.2.2, fun _ h' => h'⟩
      | exact ⟨_, _, h.2.2.2.2, fun _ h' => h'⟩
      | exact ⟨_, _, h.2, fun _ h' => ⟨h.1, h'⟩⟩
      | exact ⟨_, _, h.2.2, fun _ h' => ⟨h.1, h.2.1, h'⟩⟩
      | exact ⟨_, _, h.2.2.2, fun _ h' => ⟨h.1, h.2.1, h.2.2.1, h'⟩⟩
      | exact ⟨_, _, h.2.2.2.2, fun _ h' => ⟨h.1, h.2.1, h.2.2.1, h.2.2.2.1, h'⟩⟩
      | (obtain ⟨x1, x2, x3⟩ := partK_det h; exact ⟨_, _, x2, fun _ h' => x3 _ h'⟩)
      | (obtain ⟨x1, x2, x3⟩ := fillK_det h; exact ⟨_, _, x2, fun _ h' => x3 _ h'⟩)
      | (obtain ⟨x1, x2, x3⟩ := binT_det h; exact ⟨_, _, x2, fun _ h' => x3 _ h'⟩)
      | (obtain ⟨x1, x4, x2, x3⟩ := cutK_det h; exact ⟨_, _, x2, fun _ h' => x3 _ h'⟩)
      | (obtain ⟨x1, x4, x2, x3⟩ := callK_det h; exact ⟨_, _, x2, fun _ h' => x3 _ h'⟩)
      | (obtain ⟨x1, x2, x3⟩ := h; subst x1; exact ⟨_, _, x3, fun _ h' => h'⟩)
      | skip)
  | fieldAddr t x f =>
    simp only [op, ho] at h ⊢
    (repeat' split at h) <;> ((try simp only [*, reduceIte, true_and]); first
      | exact h.elim
      | exact ⟨_, _, h, fun _ h' => h'⟩
      | exact ⟨_, _, h.2, fun _ h' => h'⟩
      | exact ⟨_, _, h.2.2, fun _ h' => h'⟩
      | exact ⟨_, _, h.2.2.2, fun _ h' => h'⟩
      | exact ⟨_, _, h.2.2.2.2, fun _ h' => h'⟩
      | exact ⟨_, _, h.2, fun _ h' => ⟨h.1, h'⟩⟩
      | exact ⟨_, _, h.2.2, fun _ h' => ⟨h.1, h.2.1, h'⟩⟩
      | exact ⟨_, _, h.2.2.2, fun _ h' => ⟨h.1, h.2.1, h.2.2.1, h'⟩⟩
      | exact ⟨_, _, h.2.2.2.2, fun _ h' => ⟨h.1, h.2.1, h.2.2.1, h.2.2.2.1, h'⟩⟩
      | (obtain ⟨x1, x2, x3⟩ := partK_det h; exact ⟨_, _, x2, fun _ h' => x3 _ h'⟩)
      | (obtain ⟨x1, x2, x3⟩ := fillK_det h; exact ⟨_, _, x2, fun _ h' => x3 _ h'⟩)
      | (obtain ⟨x1, x2, x3⟩ := binT_det h; exact ⟨_, _, x2, fun _ h' => x3 _ h'⟩)
      | (obtain ⟨x1, x4, x2, x3⟩ := cutK_det h; exact ⟨_, _, x2, fun _ h' => x3 _ h'⟩)
      | (obtain ⟨x1, x4, x2, x3⟩ := callK_det h; exact ⟨_, _, x2, fun _ h' => x3 _ h'⟩)
      | (obtain ⟨x1, x2, x3⟩ := h; subst x1; exact ⟨_, _, x3, fun _ h' => h'⟩)
      | skip)
  | field t x f =>
    simp only [op, ho] at h ⊢
    (repeat' split at h) <;> ((try simp only [*, reduceIte, true_and]); first
      | exact h.elim
      | exact ⟨_, _, h, fun _ h' => h'⟩
      | exact ⟨_, _, h.2, fun _ h' => h'⟩
      | exact ⟨_, _, h.2.2, fun _ h' => h'⟩
      | exact ⟨_, _, h.2.2.2, fun _ h' => h'⟩
      | exact ⟨_, _, h.2.2.2.2, fun _ h' => h'⟩
      | exact ⟨_, _, h.2, fun _ h' => ⟨h.1, h'⟩⟩
      | exact ⟨_, _, h.2.2, fun _ h' => ⟨h.1, h.2.1, h'⟩⟩
      | exact ⟨_, _, h.2.2.2, fun _ h' => ⟨h.1, h.2.1, h.2.2.1, h'⟩⟩
      | exact ⟨_, _, h.2.2.2.2, fun _ h' => ⟨h.1, h.2.1, h.2.2.1, h.2.2.2.1, h'⟩⟩
      | (obtain ⟨x1, x2, x3⟩ := partK_det h; exact ⟨_, _, x2, fun _ h' => x3 _ h'⟩)
      | (obtain ⟨x1, x2, x3⟩ := fillK_det h; exact ⟨_, _, x2, fun _ h' => x3 _ h'⟩)
      | (obtain ⟨x1, x2, x3⟩ := binT_det h; exact ⟨_, _, x2, fun _ h' => x3 _ h'⟩)
      | (obtain ⟨x1, x4, x2, x3⟩ := cutK_det h; exact ⟨_, _, x2, fun _ h' => x3 _ h'⟩)
      | (obtain ⟨x1, x4, x2, x3⟩ := callK_det h; exact ⟨_, _, x2, fun _ h' => x3 _ h'⟩)
      | (obtain ⟨x1, x2, x3⟩ := h; subst x1; exact ⟨_, _, x3, fun _ h' => h'⟩)
      | skip)
  | indexAddr t x i =>
    simp only [op, ho] at h ⊢
    (repeat' split at h) <;> ((try simp only [*, reduceIte, true_and]); first
      | exact h.elim
      | exact ⟨_, _, h, fun _ h' => h'⟩
      | exact ⟨_, _, h.2, fun _ h' => h'⟩
      | exact ⟨_, _, h.2.2, fun _ h' => h'⟩
      | exact ⟨_, _, h.2.2.2, fun _ h' => h'⟩
      | exact ⟨_, _, h.2.2.2.2, fun _ h' => h'⟩
      | exact ⟨_, _, h.2, fun _ h' => ⟨h.1, h'⟩⟩
      | exact ⟨_, _, h.2.2, fun _ h' => ⟨h.1, h.2.1, h'⟩⟩
      | exact ⟨_, _, h.2.2.2, fun _ h' => ⟨h.1, h.2.1, h.2.2.1, h'⟩⟩
      | exact ⟨_, _, h.2.2.2.2, fun _ h' => ⟨h.1, h.2.1, h.2.2.1, h.2.2.2.1, h'⟩⟩
      | (obtain ⟨x1, x2, x3⟩ := partK_det h; exact ⟨_, _, x2, fun _ h' => x3 _ h'⟩)
      | (obtain ⟨x1, x2, x3⟩ := fillK_det h; exact ⟨_, _, x2, fun _ h' => x3 _ h'⟩)
      | (obtain ⟨x1, x2, x3⟩ := binT_det h; exact ⟨_, _, x2, fun _ h' => x3 _ h'⟩)
      | (obtain ⟨x1, x4, x2, x3⟩ := cutK_det h; exact ⟨_, _, x2, fun _ h' => x3 _ h'⟩)
      | (obtain ⟨x1, x4, x2, x3⟩ := callK_det h; exact ⟨_, _, x2, fun _ h' => x3 _ h'⟩)
      | (obtain ⟨x1, x2, x3⟩ := h; subst x1; exact ⟨_, _, x3, fun _ h' => h'⟩)
      | skip)
  | index t x i =>
    simp only [op, ho] at h ⊢
    (repeat' split at h) <;> ((try simp only [*, reduceIte, true_and]); first
      | exact h.elim
      | exact ⟨_, _, h, fun _ h' => h'⟩
      | exact ⟨_, _, h.2, fun _ h' => h'⟩
      | exact ⟨_, _, h.2.2, fun _ h' => h'⟩
      | exact ⟨_, _, h.2.2.2, fun _ h' => h'⟩
      | exact ⟨_, _, h.2.2.2.2, fun _ h' => h'⟩
      | exact ⟨_, _, h.2, fun _ h' => ⟨h.1, h'⟩⟩
      | exact ⟨_, _, h.2.2, fun _ h' => ⟨h.1, h.2.1, h'⟩⟩
      | exact ⟨_, _, h.2.2.2, fun _ h' => ⟨h.1, h.2.1, h.2.2.1, h'⟩⟩
      | exact ⟨_, _, h.2.2.2.2, fun _ h' => ⟨h.1, h.2.1, h.2.2.1, h.2.2.2.1, h'⟩⟩
      | (obtain ⟨x1, x2, x3⟩ := partK_det h; exact ⟨_, _, x2, fun _ h' => x3 _ h'⟩)
      | (obtain ⟨x1, x2, x3⟩ := fillK_det h; exact ⟨_, _, x2, fun _ h' => x3 _ h'⟩)
      | (obtain ⟨x1, x2, x3⟩ := binT_det h; exact ⟨_, _, x2, fun _ h' => x3 _ h'⟩)
      | (obtain ⟨x1, x4, x2, x3⟩ := cutK_det h; exact ⟨_, _, x2, fun _ h' => x3 _ h'⟩)
      | (obtain ⟨x1, x4, x2, x3⟩ := callK_det h; exact ⟨_, _, x2, fun _ h' => x3 _ h'⟩)
      | (obtain ⟨x1, x2, x3⟩ := h; subst x1; exact ⟨_, _, x3, fun _ h' => h'⟩)
      | skip)
  | extract x i =>
    simp only [op, ho] at h ⊢
    (repeat' split at h) <;> ((try simp only [*, reduceIte, true_and]); first
      | exact h.elim
      | exact ⟨_, _, h, fun _ h' => h'⟩
      | exact ⟨_, _, h.2, fun _ h' => h'⟩
      | exact ⟨_, _, h.2.2, fun _ h' => h'⟩
      | exact ⟨_, _, h.2.2.2, fun _ h' => h'⟩
      | exact ⟨_, _, h.2.2.2.2, fun _ h' => h'⟩
      | exact ⟨_, _, h.2, fun _ h' => ⟨h.1, h'⟩⟩
      | exact ⟨_, _, h.2.2, fun _ h' => ⟨h.1, h.2.1, h'⟩⟩
      | exact ⟨_, _, h.2.2.2, fun _ h' => ⟨h.1, h.2.1, h.2.2.1, h'⟩⟩
      | exact ⟨_, _, h.2.2.2.2, fun _ h' => ⟨h.1, h.2.1, h.2.2.1, h.2.2.2.1, h'⟩⟩
      | (obtain ⟨x1, x2, x3⟩ := partK_det h; exact ⟨_, _, x2, fun _ h' => x3 _ h'⟩)
      | (obtain ⟨x1, x2, x3⟩ := fillK_det h; exact ⟨_, _, x2, fun _ h' => x3 _ h'⟩)
      | (obtain ⟨x1, x2, x3⟩ := binT_det h; exact ⟨_, _, x2, fun _ h' => x3 _ h'⟩)
      | (obtain ⟨x1, x4, x2, x3⟩ := cutK_det h; exact ⟨_, _, x2, fun _ h' => x3 _ h'⟩)
      | (obtain ⟨x1, x4, x2, x3⟩ := callK_det h; exact ⟨_, _, x2, fun _ h' => x3 _ h'⟩)
      | (obtain ⟨x1, x2, x3⟩ := h; subst x1; exact ⟨_, _, x3, fun _ h' => h'⟩)
      | skip)
  | pick c a b =>
    simp only [op, ho] at h ⊢
    split at h
    · exact ⟨_, _, h, fun _ h' => h'⟩
    · rename_i _ _ _ c' _ _
      cases hcc : c' with
      | true => exact ⟨_, _, h.1 hcc, fun _ h' => ⟨fun _ => h', fun hf => Bool.noConfusion hf⟩⟩
      | false => exact ⟨_, _, h.2 hcc, fun _ h' => ⟨fun hf => Bool.noConfusion hf, fun _ => h'⟩⟩
    · exact h.elim
  | buildSlice t l ps =>
    simp only [op, ho] at h ⊢
    split at h
    · split at h
      · obtain ⟨x1, x2, x3⟩ := sealK_det h
        split at x2
        · rename_i hc
          obtain ⟨x4, x5, x6⟩ := litK_det x2
          exact ⟨_, _, x5, fun _ h' => x3 _ (by rw [if_pos hc]; exact x6 _ h')⟩
        · exact x2.elim
      · exact h.elim
    · exact h.elim
  | makeSlice t l c =>
    simp only [op, ho] at h ⊢
    split at h
    · split at h
      · obtain ⟨x1, x2, x3⟩ := sealK_det h
        split at x2
        · rename_i hc
          exact ⟨_, _, x2.2.2.2.2, fun _ h' => x3 _ (by rw [if_pos hc]; exact ⟨x2.1, x2.2.1, x2.2.2.1, x2.2.2.2.1, h'⟩)⟩
        · exact x2.elim
      · exact h.elim
    · exact h.elim
  | slice t x lo hi mx =>
    cases mx with
    | some m => simp only [op, ho] at h
    | none =>
      simp only [op, ho] at h ⊢
      (repeat' split at h) <;> ((try simp only [*, reduceIte, true_and]); first
      | exact h.elim
      | exact ⟨_, _, h, fun _ h' => h'⟩
      | exact ⟨_, _, h.2, fun _ h' => h'⟩
      | exact ⟨_, _, h.2.2, fun _ h' => h'⟩
      | exact ⟨_, _, h.2.2.2, fun _ h' => h'⟩
      | exact ⟨_, _, h.2.2.2.2, fun _ h' => h'⟩
      | exact ⟨_, _, h.2, fun _ h' => ⟨h.1, h'⟩⟩
      | exact ⟨_, _, h.2.2, fun _ h' => ⟨h.1, h.2.1, h'⟩⟩
      | exact ⟨_, _, h.2.2.2, fun _ h' => ⟨h.1, h.2.1, h.2.2.1, h'⟩⟩
      | exact ⟨_, _, h.2.2.2.2, fun _ h' => ⟨h.1, h.2.1, h.2.2.1, h.2.2.2.1, h'⟩⟩
      | (obtain ⟨x1, x2, x3⟩ := partK_det h; exact ⟨_, _, x2, fun _ h' => x3 _ h'⟩)
      | (obtain ⟨x1, x2, x3⟩ := fillK_det h; exact ⟨_, _, x2, fun _ h' => x3 _ h'⟩)
      | (obtain ⟨x1, x2, x3⟩ := binT_det h; exact ⟨_, _, x2, fun _ h' => x3 _ h'⟩)
      | (obtain ⟨x1, x4, x2, x3⟩ := cutK_det h; exact ⟨_, _, x2, fun _ h' => x3 _ h'⟩)
      | (obtain ⟨x1, x4, x2, x3⟩ := callK_det h; exact ⟨_, _, x2, fun _ h' => x3 _ h'⟩)
      | (obtain ⟨x1, x2, x3⟩ := h; subst x1; exact ⟨_, _, x3, fun _ h' => h'⟩)
      | skip)
  | makeFunc f xs ys =>
    cases f with
    | func g =>
      simp only [op, ho] at h ⊢
      (repeat' split at h) <;> ((try simp only [*, reduceIte, true_and]); first
      | exact h.elim
      | exact ⟨_, _, h, fun _ h' => h'⟩
      | exact ⟨_, _, h.2, fun _ h' => h'⟩
      | exact ⟨_, _, h.2.2, fun _ h' => h'⟩
      | exact ⟨_, _, h.2.2.2, fun _ h' => h'⟩
      | exact ⟨_, _, h.2.2.2.2, fun _ h' => h'⟩
      | exact ⟨_, _, h.2, fun _ h' => ⟨h.1, h'⟩⟩
      | exact ⟨_, _, h.2.2, fun _ h' => ⟨h.1, h.2.1, h'⟩⟩
      | exact ⟨_, _, h.2.2.2, fun _ h' => ⟨h.1, h.2.1, h.2.2.1, h'⟩⟩
      | exact ⟨_, _, h.2.2.2.2, fun _ h' => ⟨h.1, h.2.1, h.2.2.1, h.2.2.2.1, h'⟩⟩
      | (obtain ⟨x1, x2, x3⟩ := partK_det h; exact ⟨_, _, x2, fun _ h' => x3 _ h'⟩)
      | (obtain ⟨x1, x2, x3⟩ := fillK_det h; exact ⟨_, _, x2, fun _ h' => x3 _ h'⟩)
      | (obtain ⟨x1, x2, x3⟩ := binT_det h; exact ⟨_, _, x2, fun _ h' => x3 _ h'⟩)
      | (obtain ⟨x1, x4, x2, x3⟩ := cutK_det h; exact ⟨_, _, x2, fun _ h' => x3 _ h'⟩)
      | (obtain ⟨x1, x4, x2, x3⟩ := callK_det h; exact ⟨_, _, x2, fun _ h' => x3 _ h'⟩)
      | (obtain ⟨x1, x2, x3⟩ := h; subst x1; exact ⟨_, _, x3, fun _ h' => h'⟩)
      | skip)
    | _ => simp only [op, ho] at h
  | call c =>
    obtain ⟨f, xs, ts⟩ := c
    cases f with
    | value f =>
      simp only [op, ho] at h ⊢
      (repeat' split at h) <;> ((try simp only [*, reduceIte, true_and]); first
      | exact h.elim
      | exact ⟨_, _, h, fun _ h' => h'⟩
      | exact ⟨_, _, h.2, fun _ h' => h'⟩
      | exact ⟨_, _, h.2.2, fun _ h' => h'⟩
      | exact ⟨_, _, h.2.2.2, fun _ h' => h'⟩
      | exact ⟨_, _, h.2.2.2.2, fun _ h' => h'⟩
      | exact ⟨_, _, h.2, fun _ h' => ⟨h.1, h'⟩⟩
      | exact ⟨_, _, h.2.2, fun _ h' => ⟨h.1, h.2.1, h'⟩⟩
      | exact ⟨_, _, h.2.2.2, fun _ h' => ⟨h.1, h.2.1, h.2.2.1, h'⟩⟩
      | exact ⟨_, _, h.2.2.2.2, fun _ h' => ⟨h.1, h.2.1, h.2.2.1, h.2.2.2.1, h'⟩⟩
      | (obtain ⟨x1, x2, x3⟩ := partK_det h; exact ⟨_, _, x2, fun _ h' => x3 _ h'⟩)
      | (obtain ⟨x1, x2, x3⟩ := fillK_det h; exact ⟨_, _, x2, fun _ h' => x3 _ h'⟩)
      | (obtain ⟨x1, x2, x3⟩ := binT_det h; exact ⟨_, _, x2, fun _ h' => x3 _ h'⟩)
      | (obtain ⟨x1, x4, x2, x3⟩ := cutK_det h; exact ⟨_, _, x2, fun _ h' => x3 _ h'⟩)
      | (obtain ⟨x1, x4, x2, x3⟩ := callK_det h; exact ⟨_, _, x2, fun _ h' => x3 _ h'⟩)
      | (obtain ⟨x1, x2, x3⟩ := h; subst x1; exact ⟨_, _, x3, fun _ h' => h'⟩)
      | skip)
    | invoke r m => simp only [op, ho] at h
    | builtin b =>
      cases b with
      | len =>
        simp only [op, ho] at h ⊢
        (repeat' split at h) <;> ((try simp only [*, reduceIte, true_and]); first
      | exact h.elim
      | exact ⟨_, _, h, fun _ h' => h'⟩
      | exact ⟨_, _, h.2, fun _ h' => h'⟩
      | exact ⟨_, _, h.2.2, fun _ h' => h'⟩
      | exact ⟨_, _, h.2.2.2, fun _ h' => h'⟩
      | exact ⟨_, _, h.2.2.2.2, fun _ h' => h'⟩
      | exact ⟨_, _, h.2, fun _ h' => ⟨h.1, h'⟩⟩
      | exact ⟨_, _, h.2.2, fun _ h' => ⟨h.1, h.2.1, h'⟩⟩
      | exact ⟨_, _, h.2.2.2, fun _ h' => ⟨h.1, h.2.1, h.2.2.1, h'⟩⟩
      | exact ⟨_, _, h.2.2.2.2, fun _ h' => ⟨h.1, h.2.1, h.2.2.1, h.2.2.2.1, h'⟩⟩
      | (obtain ⟨x1, x2, x3⟩ := partK_det h; exact ⟨_, _, x2, fun _ h' => x3 _ h'⟩)
      | (obtain ⟨x1, x2, x3⟩ := fillK_det h; exact ⟨_, _, x2, fun _ h' => x3 _ h'⟩)
      | (obtain ⟨x1, x2, x3⟩ := binT_det h; exact ⟨_, _, x2, fun _ h' => x3 _ h'⟩)
      | (obtain ⟨x1, x4, x2, x3⟩ := cutK_det h; exact ⟨_, _, x2, fun _ h' => x3 _ h'⟩)
      | (obtain ⟨x1, x4, x2, x3⟩ := callK_det h; exact ⟨_, _, x2, fun _ h' => x3 _ h'⟩)
      | (obtain ⟨x1, x2, x3⟩ := h; subst x1; exact ⟨_, _, x3, fun _ h' => h'⟩)
      | skip)
      | append =>
        simp only [op, ho, zerosK, sealK] at h ⊢
        (repeat' split at h) <;> ((try simp only [*, reduceIte, true_and]); first
      | exact h.elim
      | exact ⟨_, _, h, fun _ h' => h'⟩
      | exact ⟨_, _, h.2, fun _ h' => h'⟩
      | exact ⟨_, _, h.2.2, fun _ h' => h'⟩
      | exact ⟨_, _, h.2.2.2, fun _ h' => h'⟩
      | exact ⟨_, _, h.2.2.2.2, fun _ h' => h'⟩
      | exact ⟨_, _, h.2, fun _ h' => ⟨h.1, h'⟩⟩
      | exact ⟨_, _, h.2.2, fun _ h' => ⟨h.1, h.2.1, h'⟩⟩
      | exact ⟨_, _, h.2.2.2, fun _ h' => ⟨h.1, h.2.1, h.2.2.1, h'⟩⟩
      | exact ⟨_, _, h.2.2.2.2, fun _ h' => ⟨h.1, h.2.1, h.2.2.1, h.2.2.2.1, h'⟩⟩
      | (obtain ⟨x1, x2, x3⟩ := partK_det h; exact ⟨_, _, x2, fun _ h' => x3 _ h'⟩)
      | (obtain ⟨x1, x2, x3⟩ := fillK_det h; exact ⟨_, _, x2, fun _ h' => x3 _ h'⟩)
      | (obtain ⟨x1, x2, x3⟩ := binT_det h; exact ⟨_, _, x2, fun _ h' => x3 _ h'⟩)
      | (obtain ⟨x1, x4, x2, x3⟩ := cutK_det h; exact ⟨_, _, x2, fun _ h' => x3 _ h'⟩)
      | (obtain ⟨x1, x4, x2, x3⟩ := callK_det h; exact ⟨_, _, x2, fun _ h' => x3 _ h'⟩)
      | (obtain ⟨x1, x2, x3⟩ := h; subst x1; exact ⟨_, _, x3, fun _ h' => h'⟩)
      | skip)
      | cap =>
        simp only [op, ho] at h ⊢
        (repeat' split at h) <;> ((try simp only [*, reduceIte, true_and]); first
      | exact h.elim
      | exact ⟨_, _, h, fun _ h' => h'⟩
      | exact ⟨_, _, h.2, fun _ h' => h'⟩
      | exact ⟨_, _, h.2.2, fun _ h' => h'⟩
      | exact ⟨_, _, h.2.2.2, fun _ h' => h'⟩
      | exact ⟨_, _, h.2.2.2.2, fun _ h' => h'⟩
      | exact ⟨_, _, h.2, fun _ h' => ⟨h.1, h'⟩⟩
      | exact ⟨_, _, h.2.2, fun _ h' => ⟨h.1, h.2.1, h'⟩⟩
      | exact ⟨_, _, h.2.2.2, fun _ h' => ⟨h.1, h.2.1, h.2.2.1, h'⟩⟩
      | exact ⟨_, _, h.2.2.2.2, fun _ h' => ⟨h.1, h.2.1, h.2.2.1, h.2.2.2.1, h'⟩⟩
      | (obtain ⟨x1, x2, x3⟩ := partK_det h; exact ⟨_, _, x2, fun _ h' => x3 _ h'⟩)
      | (obtain ⟨x1, x2, x3⟩ := fillK_det h; exact ⟨_, _, x2, fun _ h' => x3 _ h'⟩)
      | (obtain ⟨x1, x2, x3⟩ := binT_det h; exact ⟨_, _, x2, fun _ h' => x3 _ h'⟩)
      | (obtain ⟨x1, x4, x2, x3⟩ := cutK_det h; exact ⟨_, _, x2, fun _ h' => x3 _ h'⟩)
      | (obtain ⟨x1, x4, x2, x3⟩ := callK_det h; exact ⟨_, _, x2, fun _ h' => x3 _ h'⟩)
      | (obtain ⟨x1, x2, x3⟩ := h; subst x1; exact ⟨_, _, x3, fun _ h' => h'⟩)
      | skip)
      | min =>
        simp only [op, ho] at h ⊢
        (repeat' split at h) <;> ((try simp only [*, reduceIte, true_and]); first
      | exact h.elim
      | exact ⟨_, _, h, fun _ h' => h'⟩
      | exact ⟨_, _, h.2, fun _ h' => h'⟩
      | exact ⟨_, _, h.2.2, fun _ h' => h'⟩
      | exact ⟨_, _, h.2.2.2, fun _ h' => h'⟩
      | exact ⟨_, _, h.2.2.2.2, fun _ h' => h'⟩
      | exact ⟨_, _, h.2, fun _ h' => ⟨h.1, h'⟩⟩
      | exact ⟨_, _, h.2.2, fun _ h' => ⟨h.1, h.2.1, h'⟩⟩
      | exact ⟨_, _, h.2.2.2, fun _ h' => ⟨h.1, h.2.1, h.2.2.1, h'⟩⟩
      | exact ⟨_, _, h.2.2.2.2, fun _ h' => ⟨h.1, h.2.1, h.2.2.1, h.2.2.2.1, h'⟩⟩
      | (obtain ⟨x1, x2, x3⟩ := partK_det h; exact ⟨_, _, x2, fun _ h' => x3 _ h'⟩)
      | (obtain ⟨x1, x2, x3⟩ := fillK_det h; exact ⟨_, _, x2, fun _ h' => x3 _ h'⟩)
      | (obtain ⟨x1, x2, x3⟩ := binT_det h; exact ⟨_, _, x2, fun _ h' => x3 _ h'⟩)
      | (obtain ⟨x1, x4, x2, x3⟩ := cutK_det h; exact ⟨_, _, x2, fun _ h' => x3 _ h'⟩)
      | (obtain ⟨x1, x4, x2, x3⟩ := callK_det h; exact ⟨_, _, x2, fun _ h' => x3 _ h'⟩)
      | (obtain ⟨x1, x2, x3⟩ := h; subst x1; exact ⟨_, _, x3, fun _ h' => h'⟩)
      | skip)
      | max =>
        simp only [op, ho] at h ⊢
        (repeat' split at h) <;> ((try simp only [*, reduceIte, true_and]); first
      | exact h.elim
      | exact ⟨_, _, h, fun _ h' => h'⟩
      | exact ⟨_, _, h.2, fun _ h' => h'⟩
      | exact ⟨_, _, h.2.2, fun _ h' => h'⟩
      | exact ⟨_, _, h.2.2.2, fun _ h' => h'⟩
      | exact ⟨_, _, h.2.2.2.2, fun _ h' => h'⟩
      | exact ⟨_, _, h.2, fun _ h' => ⟨h.1, h'⟩⟩
      | exact ⟨_, _, h.2.2, fun _ h' => ⟨h.1, h.2.1, h'⟩⟩
      | exact ⟨_, _, h.2.2.2, fun _ h' => ⟨h.1, h.2.1, h.2.2.1, h'⟩⟩
      | exact ⟨_, _, h.2.2.2.2, fun _ h' => ⟨h.1, h.2.1, h.2.2.1, h.2.2.2.1, h'⟩⟩
      | (obtain ⟨x1, x2, x3⟩ := partK_det h; exact ⟨_, _, x2, fun _ h' => x3 _ h'⟩)
      | (obtain ⟨x1, x2, x3⟩ := fillK_det h; exact ⟨_, _, x2, fun _ h' => x3 _ h'⟩)
      | (obtain ⟨x1, x2, x3⟩ := binT_det h; exact ⟨_, _, x2, fun _ h' => x3 _ h'⟩)
      | (obtain ⟨x1, x4, x2, x3⟩ := cutK_det h; exact ⟨_, _, x2, fun _ h' => x3 _ h'⟩)
      | (obtain ⟨x1, x4, x2, x3⟩ := callK_det h; exact ⟨_, _, x2, fun _ h' => x3 _ h'⟩)
      | (obtain ⟨x1, x2, x3⟩ := h; subst x1; exact ⟨_, _, x3, fun _ h' => h'⟩)
      | skip)
      | copy =>
        simp only [op, ho] at h ⊢
        (repeat' split at h) <;> ((try simp only [*, reduceIte, true_and]); first
      | exact h.elim
      | exact ⟨_, _, h, fun _ h' => h'⟩
      | exact ⟨_, _, h.2, fun _ h' => h'⟩
      | exact ⟨_, _, h.2.2, fun _ h' => h'⟩
      | exact ⟨_, _, h.2.2.2, fun _ h' => h'⟩
      | exact ⟨_, _, h.2.2.2.2, fun _ h' => h'⟩
      | exact ⟨_, _, h.2, fun _ h' => ⟨h.1, h'⟩⟩
      | exact ⟨_, _, h.2.2, fun _ h' => ⟨h.1, h.2.1, h'⟩⟩
      | exact ⟨_, _, h.2.2.2, fun _ h' => ⟨h.1, h.2.1, h.2.2.1, h'⟩⟩
      | exact ⟨_, _, h.2.2.2.2, fun _ h' => ⟨h.1, h.2.1, h.2.2.1, h.2.2.2.1, h'⟩⟩
      | (obtain ⟨x1, x2, x3⟩ := partK_det h; exact ⟨_, _, x2, fun _ h' => x3 _ h'⟩)
      | (obtain ⟨x1, x2, x3⟩ := fillK_det h; exact ⟨_, _, x2, fun _ h' => x3 _ h'⟩)
      | (obtain ⟨x1, x2, x3⟩ := binT_det h; exact ⟨_, _, x2, fun _ h' => x3 _ h'⟩)
      | (obtain ⟨x1, x4, x2, x3⟩ := cutK_det h; exact ⟨_, _, x2, fun _ h' => x3 _ h'⟩)
      | (obtain ⟨x1, x4, x2, x3⟩ := callK_det h; exact ⟨_, _, x2, fun _ h' => x3 _ h'⟩)
      | (obtain ⟨x1, x2, x3⟩ := h; subst x1; exact ⟨_, _, x3, fun _ h' => h'⟩)
      | skip)
      | _ => simp only [op, ho] at h
  | _ => simp only [op, ho] at h
end Go.Proofs.YtbmibaopkfenbaaDoor.M

/- A machine of values: an operation hangs on what it looks at alone. No condition. Made by gen30.py. -/
namespace Go.Proofs.YtbmibaopkfenbaaDoor.M
open Go
set_option linter.unusedSimpArgs false
set_option linter.unusedVariables false
set_option linter.unusedSectionVars false

def idC : C → List Nat
  | .own i _ _ _ => [i]
  | .ptr i _ => [i]
  | .eptr i _ _ _ => [i]
  | .clo _ i => [i]
  | .mvo _ i _ _ => [i]
  | _ => []
def idA (x : A) : List Nat := x.cells.flatMap idC
def idV : AV → List Nat
  | .a x => idA x
  | .tup xs => xs.flatMap idA
/-- What a callee may reach. -/
def deepC (hp : List (Nat × Blk)) : C → List Nat
  | .ptr i _ => i :: (match find hp i with | some (.box cs) => cs.flatMap idC | _ => [])
  | .clo _ i => i :: (match find hp i with | some (.box cs) => cs.flatMap idC | _ => [])
  | c => idC c
def deepV (hp : List (Nat × Blk)) : AV → List Nat
  | .a x => x.cells.flatMap (deepC hp)
  | .tup _ => []
def opers : Op → List Operand
  | .move x | .assign x | .nilCheck x => [x]
  | .pick c a b => [c, a, b]
  | .box _ x | .load _ x | .unOp _ _ x | .convert _ _ x | .fieldAddr _ x _ | .field _ x _ | .extract x _ => [x]
  | .store _ x y | .binOp _ _ x y _ | .indexAddr _ x y | .index _ x y | .makeSlice _ x y => [x, y]
  | .build _ ps | .buildSlice _ _ ps => ps.toList.map (·.2)
  | .slice _ x lo hi _ => x :: (lo.toList ++ hi.toList)
  | .makeFunc _ xs ys => xs.toList ++ ys.toList
  | .call ⟨f, xs, _⟩ => (match f with | .value f => [f] | _ => []) ++ xs.toList
  | _ => []
def tmpO : Operand → List Nat
  | .tmp i => [i]
  | _ => []
def looks (ops : Array Oper) (o : Oper) : List Nat :=
  (match o.guard with | some (j, _) => (match ops[j]? with | some x => x.dst.toList | none => []) | none => []) ++ (opers o.op).flatMap tmpO
def rdO.tmpV (s : St) : Operand → AV
  | .tmp i => s.get i
  | _ => .a (.c .undef)
def rdO (s : St) (o : Oper) : List Nat :=
  match o.op with
  | .move _ => []
  | .assign _ => []
  | .call ⟨.value f, xs, ts⟩ => deepV s.hp (rdO.tmpV s f) ++ xs.toList.flatMap fun x => deepV s.hp (rdO.tmpV s x)
  | p => (opers p).flatMap fun x => idV (rdO.tmpV s x)
structure Agree (ops : Array Oper) (o : Oper) (s s' : St) : Prop where
  tm : ∀ t ∈ looks ops o, s'.get t = s.get t
  hp : ∀ i ∈ rdO s o, find s'.hp i = find s.hp i

theorem idEval {τ : Tab} {s : St} {t : Nat} {x : Operand} {i : Nat} (h : i ∈ idV (s.eval τ t x)) : i ∈ idV (rdO.tmpV s x) := by
  cases x with
  | tmp j => exact h
  | const v =>
    exfalso
    simp only [St.eval, ofValue] at h
    split at h <;> simp [idV, idA, A.cells, idC] at h
  | func f => simp [St.eval, idV, idA, A.cells, idC] at h
  | global g => simp [St.eval, idV, idA, A.cells, idC] at h
def idEq (hp hp' : List (Nat × Blk)) : C → Prop
  | .own i _ _ _ => find hp' i = find hp i ∧ ∀ v, arrOf hp' i v = arrOf hp i v
  | .ptr i _ => find hp' i = find hp i
  | .clo _ i => find hp' i = find hp i
  | .mvo _ i _ _ => find hp' i = find hp i
  | .eptr i _ _ _ => find hp' i = find hp i ∧ ∀ v, arrOf hp' i v = arrOf hp i v
  | _ => True
theorem arrOf_eq {hp hp' : List (Nat × Blk)} {i : Nat} (h : find hp' i = find hp i) (v : Nat) : arrOf hp' i v = arrOf hp i v := by simp [arrOf, h]
theorem idEq_of {hp hp' : List (Nat × Blk)} {c : C} (h : ∀ i ∈ idC c, find hp' i = find hp i) : idEq hp hp' c := by
  cases c <;> simp only [idEq, idC] at h ⊢ <;> first | trivial | exact ⟨h _ (by simp), arrOf_eq (h _ (by simp))⟩ | exact h _ (by simp)
theorem listOf_eq {hp hp' : List (Nat × Blk)} {c : C} (h : ∀ i ∈ idC c, find hp' i = find hp i) : listOf hp' c = listOf hp c := by
  cases c with
  | t x => cases x <;> rfl
  | own i v o n => simp only [listOf]; rw [arrOf_eq (h i (by simp [idC]))]
  | _ => rfl
theorem vEq {hp hp' : List (Nat × Blk)} {c : C} (h : ∀ i ∈ idV (.a (.c c)), find hp' i = find hp i) : idEq hp hp' c := idEq_of fun i hi => h i (by simpa [idV, idA, A.cells] using hi)
theorem vSrc' {τ : Tab} {e u : Nat} {hp hp' : List (Nat × Blk)} {c : C} (h : listOf hp' c = listOf hp c) : srcOf τ hp' e u c = srcOf τ hp e u c := by
  unfold srcOf; rw [h]
theorem vList {hp hp' : List (Nat × Blk)} {c : C} (h : ∀ i ∈ idV (.a (.c c)), find hp' i = find hp i) : listOf hp' c = listOf hp c := listOf_eq fun i hi => h i (by simpa [idV, idA, A.cells] using hi)
theorem vSrc {τ : Tab} {e u : Nat} {hp hp' : List (Nat × Blk)} {c : C} (h : ∀ i ∈ idV (.a (.c c)), find hp' i = find hp i) : srcOf τ hp' e u c = srcOf τ hp e u c := vSrc' (vList h)

theorem deepEval {τ : Tab} {s : St} {t : Nat} {x : Operand} {i : Nat} (h : i ∈ deepV s.hp (s.eval τ t x)) : i ∈ deepV s.hp (rdO.tmpV s x) := by
  cases x with
  | tmp j => exact h
  | const v =>
    exfalso
    simp only [St.eval, ofValue] at h
    split at h <;> simp [deepV, A.cells, deepC, idC] at h
  | func f => simp [St.eval, deepV, A.cells, deepC, idC] at h
  | global g => simp [St.eval, deepV, A.cells, deepC, idC] at h
section
variable {hp hp' : List (Nat × Blk)}
theorem readC_fr {c : C} (h : ∀ i ∈ idC c, find hp' i = find hp i) : readC hp' c = readC hp c := by
  cases c <;> first | rfl | simp only [readC, listOf_eq h]
theorem readL_fr : ∀ {l : List C}, (∀ c ∈ l, ∀ i ∈ idC c, find hp' i = find hp i) → readL hp' l = readL hp l
  | [], _ => rfl
  | c :: r, h => by simp only [readL, readC_fr (h c (by simp)), readL_fr (l := r) fun c hc => h c (by simp [hc])]
theorem readA_fr {x : A} (h : ∀ c ∈ x.cells, ∀ i ∈ idC c, find hp' i = find hp i) : readA hp' x = readA hp x := by
  cases x with
  | c c => exact readC_fr (h c (by simp [A.cells]))
  | g cs => simp only [readA]; rw [readL_fr (hp := hp) (l := cs) h]
theorem bcK_fr {c : C} {K : BC → Prop} (h : ∀ i ∈ idC c, find hp' i = find hp i) : bcK hp' c K = bcK hp c K := by
  cases c with
  | own i v o n =>
    have := h i (by simp [idC])
    cases o <;> simp only [bcK, this]
  | _ => rfl
theorem bcsK_fr : ∀ {l : List C} {K : List BC → Prop}, (∀ c ∈ l, ∀ i ∈ idC c, find hp' i = find hp i) → bcsK hp' l K = bcsK hp l K
  | [], K, _ => rfl
  | c :: r, K, h => by
    have ih : ∀ K, bcsK hp' r K = bcsK hp r K := fun K => bcsK_fr fun c hc => h c (by simp [hc])
    simp only [bcsK, bcK_fr (h c (by simp)), ih]
theorem deep_id {x : A} {c : C} (hc : c ∈ x.cells) {i : Nat} (hi : i ∈ idC c) : i ∈ deepV hp (.a x) := by
  refine List.mem_flatMap.2 ⟨c, hc, ?_⟩
  cases c <;> simp only [deepC] <;> first | exact hi | (simp only [idC, List.mem_singleton] at hi; subst hi; simp)
theorem argK_fr {x : AV} {K : AA → List Nat → Prop} (h : ∀ i ∈ deepV hp x, find hp' i = find hp i) : argK hp' x K = argK hp x K := by
  unfold argK
  split
  · rename_i i
    have h1 := h i (by simp [deepV, A.cells, deepC])
    rw [h1]
    split
    · rename_i cs hf
      exact bcsK_fr fun c hc j hj => h j (by simp only [deepV, A.cells, List.flatMap_cons, List.flatMap_nil, List.append_nil, deepC, hf]; exact List.mem_cons_of_mem _ (List.mem_flatMap.2 ⟨c, hc, hj⟩))
    · rfl
  · rfl
  · rfl
  · rename_i k i v n
    have h1 := h i (by simp [deepV, A.cells, deepC, idC])
    exact bcK_fr (fun j hj => by simp only [idC, List.mem_singleton] at hj; subst hj; exact h1)
  · rename_i f i
    have h1 := h i (by simp [deepV, A.cells, deepC])
    rw [h1]
    split
    · rename_i cs hf
      exact bcsK_fr fun c hc j hj => h j (by simp only [deepV, A.cells, List.flatMap_cons, List.flatMap_nil, List.append_nil, deepC, hf]; exact List.mem_cons_of_mem _ (List.mem_flatMap.2 ⟨c, hc, hj⟩))
    · rfl
  · rename_i x _ _ _ _ _
    rw [readA_fr (hp := hp) fun c hc i hi => h i (deep_id hc hi)]
  · rfl
theorem argsK_fr : ∀ {l : List AV} {K : List AA → List Nat → Prop}, (∀ x ∈ l, ∀ i ∈ deepV hp x, find hp' i = find hp i) → argsK hp' l K = argsK hp l K
  | [], K, _ => rfl
  | c :: r, K, h => by
    have ih : ∀ K, argsK hp' r K = argsK hp r K := fun K => argsK_fr fun c hc => h c (by simp [hc])
    simp only [argsK, argK_fr (h c (by simp)), ih]
theorem freeze_fr : ∀ {l : List Nat}, (∀ i ∈ l, find hp' i = find hp i) → freeze hp' l = freeze hp l
  | [], _ => rfl
  | i :: r, h => by simp only [freeze, h i (by simp), freeze_fr (l := r) fun c hc => h c (by simp [hc])]
theorem outsK_fr {own : Bool} : ∀ {xs : List AV} {os : List (List BC)} {n : Nat}, (∀ x ∈ xs, ∀ i ∈ deepV hp x, find hp' i = find hp i) → outsK own hp' n xs os = outsK own hp n xs os
  | [], os, n, _ => by cases os <;> rfl
  | x :: xs, os, n, h => by
    have ih : ∀ n os, outsK own hp' n xs os = outsK own hp n xs os := fun n os => outsK_fr fun c hc => h c (by simp [hc])
    rcases x with ((c | g) | tt)
    · cases c with
      | ptr i o =>
        cases o with
        | zero =>
          cases os with
          | nil => simp only [outsK, ih]
          | cons o os => simp only [outsK, h (.a (.c (.ptr i 0))) (by simp) i (by simp [deepV, A.cells, deepC]), ih]
        | succ o => simp only [outsK, ih]
      | clo f i =>
        cases os with
        | nil => simp only [outsK, ih]
        | cons o os => simp only [outsK, h (.a (.c (.clo f i))) (by simp) i (by simp [deepV, A.cells, deepC]), ih]
      | mvo k i v n =>
        cases k with
        | true => cases os <;> simp only [outsK, ih]
        | false =>
          cases os with
          | nil => simp only [outsK, ih]
          | cons o os => rcases o with _ | ⟨(x | sz | ⟨sz, es⟩), _ | ⟨y, o⟩⟩ <;> simp only [outsK, ih]
      | _ => simp only [outsK, ih]
    · simp only [outsK, ih]
    · simp only [outsK, ih]
theorem ownsA_sub {x : AV} {i : Nat} (h : i ∈ ownsA x) : i ∈ deepV hp x := by
  cases x with
  | tup xs => simp [ownsA] at h
  | a x =>
    obtain ⟨c, hc, hi⟩ := List.mem_flatMap.1 h
    refine deep_id hc ?_
    cases c <;> simp only [ownsC] at hi <;> first | exact hi | simp at hi
theorem deepV_tag {hp : List (Nat × Blk)} {b k : Bool} {x : AV} {i : Nat} (h : i ∈ deepV hp (tagV b k x)) : i ∈ deepV hp x := by
  cases b with
  | false => cases x <;> exact h
  | true =>
    rcases x with ((c | g) | tt)
    · cases c with
      | own i v' o m => cases o <;> exact h
      | nil sz => cases k <;> simp [tagV, tagC, deepV, A.cells, deepC, idC] at h
      | _ => exact h
    · exact h
    · exact h
theorem tagL_mem {mv : List Nat} : ∀ {xs : List AV} {k : Nat} {y : AV}, y ∈ tagL mv k xs → ∃ x ∈ xs, ∃ b k, y = tagV b k x
  | [], _, _, h => by cases h
  | x :: r, k, y, h => by
    rcases List.mem_cons.1 h with rfl | h
    · exact ⟨x, by simp, _, _, rfl⟩
    · obtain ⟨x', h1, h2⟩ := tagL_mem h
      exact ⟨x', by simp [h1], h2⟩
theorem callK'_fr {P : Program} {md : Nat → Md} {f : FuncId} {n : Nat} {xs : List AV} {K : AV → List (Nat × Blk) → Prop} (h : ∀ x ∈ xs, ∀ i ∈ deepV hp x, find hp' i = find hp i) : callK' P md f hp' n xs K = callK' P md f hp n xs K := by
  have h2 : freeze hp' (xs.flatMap ownsA) = freeze hp (xs.flatMap ownsA) := freeze_fr fun i hi => by
    obtain ⟨x, hx, hi⟩ := List.mem_flatMap.1 hi
    exact h x hx i (ownsA_sub hi)
  have h3 : ∀ own n os, outsK own hp' n xs os = outsK own hp n xs os := fun own n os => outsK_fr h
  unfold callK'
  rw [argsK_fr h]
  simp only [h2, h3]
theorem callK_fr {P : Program} {md : Nat → Md} {f : FuncId} {n : Nat} {xs : List AV} {K : AV → List (Nat × Blk) → Prop} (h : ∀ x ∈ xs, ∀ i ∈ deepV hp x, find hp' i = find hp i) : callK P md f hp' n xs K = callK P md f hp n xs K :=
  callK'_fr fun y hy i hi => by
    obtain ⟨x, hx, b, k, rfl⟩ := tagL_mem hy
    exact h x hx i (deepV_tag hi)
end
section
variable {P : Program} {τ : Tab} {md : Nat → Md} {ops : Array Oper} {o : Oper} {s s' : St} {n : Nat} {K : AV → List (Nat × Blk) → Prop}
theorem agree_eval (hA : Agree ops o s s') {x : Operand} (hx : x ∈ opers o.op) (t : Nat) : s'.eval τ t x = s.eval τ t x := by
  cases x with
  | tmp i => exact hA.tm i (List.mem_append_right _ (List.mem_flatMap.2 ⟨_, hx, by simp [tmpO]⟩))
  | _ => rfl
theorem fillK_fr {d : TD} {K : List C → Prop} : ∀ {l : List (Nat × Operand)} {cs : List C}, (∀ x ∈ l, ∀ t, s'.eval τ t x.2 = s.eval τ t x.2) → fillK τ s' d l cs K = fillK τ s d l cs K
  | [], cs, h => rfl
  | (i, x) :: r, cs, h => by
    have ih : ∀ cs, fillK τ s' d r cs K = fillK τ s d r cs K := fun cs => fillK_fr fun y hy => h y (by simp [hy])
    have hx : ∀ t, s'.eval τ t x = s.eval τ t x := h (i, x) (by simp)
    simp only [fillK, hx, ih]
theorem litK_fr {e : Nat} {K : List T → Prop} : ∀ {l : List (Nat × Operand)} {cs : List T}, (∀ x ∈ l, ∀ t, s'.eval τ t x.2 = s.eval τ t x.2) → litK τ s' e l cs K = litK τ s e l cs K
  | [], cs, h => rfl
  | (i, x) :: r, cs, h => by
    have ih : ∀ cs, litK τ s' e r cs K = litK τ s e r cs K := fun cs => litK_fr fun y hy => h y (by simp [hy])
    have hx : ∀ t, s'.eval τ t x = s.eval τ t x := h (i, x) (by simp)
    simp only [litK, hx, ih]
theorem op_frame (hA : Agree ops o s s') : op P τ md o s' n K = op P τ md o s n K := by
  have hE : ∀ x ∈ opers o.op, ∀ t, s'.eval τ t x = s.eval τ t x := fun x hx t => agree_eval hA hx t
  have hV : ∀ x ∈ opers o.op, ((∀ c, o.op ≠ .call c) ∧ (∀ y, o.op ≠ .move y) ∧ ∀ y, o.op ≠ .assign y) → ∀ t, ∀ i ∈ idV (s.eval τ t x), find s'.hp i = find s.hp i := fun x hx hc t i hi => by
    refine hA.hp i ?_
    unfold rdO
    split
    · rename_i hh; exact absurd hh (hc.2.1 _)
    · rename_i hh; exact absurd hh (hc.2.2 _)
    · rename_i hh; exact absurd hh (hc.1 _)
    · exact List.mem_flatMap.2 ⟨x, hx, idEval hi⟩
  cases ho : o.op with
  | move x =>
    have hx := hE x (by simp [opers, ho])
    simp only [op, ho, hx]
  | assign x =>
    have hx := hE x (by simp [opers, ho])
    simp only [op, ho, hx]
  | pick c a b =>
    have hc := hE c (by simp [opers, ho])
    have ha := hE a (by simp [opers, ho])
    have hb := hE b (by simp [opers, ho])
    simp only [op, ho, hc, ha, hb]
  | alloc t =>
    simp only [op, ho]
  | box t x =>
    have hx := hE x (by simp [opers, ho])
    simp only [op, ho, hx]
  | load t x =>
    have hx := hE x (by simp [opers, ho])
    have hv := hV x (by simp [opers, ho]) (by simp [ho]) 0
    simp only [op, ho, hx]
    generalize s.eval τ 0 x = v at hv ⊢
    (repeat' split) <;> first | rfl | (have hq := vEq hv; simp only [idEq] at hq; simp_all; done) | (have hl := vList hv; simp_all; done) | skip
  | store t x y =>
    have hx := hE x (by simp [opers, ho])
    have hy := hE y (by simp [opers, ho])
    have hv := hV x (by simp [opers, ho]) (by simp [ho]) 0
    simp only [op, ho, hx, hy]
    generalize s.eval τ 0 x = v at hv ⊢
    split <;> first | rfl | (have hq := vEq hv; simp only [idEq] at hq; simp only [hq]; done) | (have hl := vList hv; simp only [hl]; done) | skip
  | nilCheck x =>
    have hx := hE x (by simp [opers, ho])
    have hv := hV x (by simp [opers, ho]) (by simp [ho]) 0
    simp only [op, ho, hx]
    generalize s.eval τ 0 x = v at hv ⊢
    (repeat' split) <;> first | rfl | (have hq := vEq hv; simp only [idEq] at hq; simp_all; done) | (have hl := vList hv; simp_all; done) | skip
  | binOp b t x y u =>
    have hx := hE x (by simp [opers, ho])
    have hy := hE y (by simp [opers, ho])
    simp only [op, ho, hx, hy]
  | unOp u t x =>
    have hx := hE x (by simp [opers, ho])
    simp only [op, ho, hx]
  | convert t u x =>
    have hx := hE x (by simp [opers, ho])
    have hv := hV x (by simp [opers, ho]) (by simp [ho]) t
    simp only [op, ho, hx]
    generalize s.eval τ t x = v at hv ⊢
    (repeat' split) <;> first | rfl | (have hq := vEq hv; simp only [idEq] at hq; simp_all; done) | (have hl := vList hv; simp_all; done) | skip
  | makeSlice t l c =>
    have hl := hE l (by simp [opers, ho])
    have hc := hE c (by simp [opers, ho])
    simp only [op, ho, hl, hc]
  | fieldAddr t x f =>
    have hx := hE x (by simp [opers, ho])
    have hv := hV x (by simp [opers, ho]) (by simp [ho]) 0
    simp only [op, ho, hx]
    generalize s.eval τ 0 x = v at hv ⊢
    (repeat' split) <;> first | rfl | (have hq := vEq hv; simp only [idEq] at hq; simp_all; done) | (have hl := vList hv; simp_all; done) | skip
  | field t x f =>
    have hx := hE x (by simp [opers, ho])
    simp only [op, ho, hx]
  | indexAddr t x i =>
    have hx := hE x (by simp [opers, ho])
    have hi := hE i (by simp [opers, ho])
    have hv := hV x (by simp [opers, ho]) (by simp [ho]) t
    simp only [op, ho, hx, hi]
    generalize s.eval τ t x = v at hv ⊢
    (repeat' split) <;> first | rfl | (have hq := vEq hv; simp only [idEq] at hq; simp_all; done) | (have hl := vList hv; simp_all; done) | skip
  | index t x i =>
    have hx := hE x (by simp [opers, ho])
    have hi := hE i (by simp [opers, ho])
    simp only [op, ho, hx, hi]
  | extract x i =>
    have hx := hE x (by simp [opers, ho])
    simp only [op, ho, hx]
  | build t ps =>
    simp only [op, ho, fun d cs K => fillK_fr (τ := τ) (s := s) (s' := s') (d := d) (K := K) (l := ps.toList) (cs := cs) fun x hx t => hE x.2 (by simp only [opers, ho]; exact List.mem_map.2 ⟨x, hx, rfl⟩) t]
  | buildSlice t l ps =>
    simp only [op, ho, fun d cs K => litK_fr (τ := τ) (s := s) (s' := s') (e := d) (K := K) (l := ps.toList) (cs := cs) fun x hx t => hE x.2 (by simp only [opers, ho]; exact List.mem_map.2 ⟨x, hx, rfl⟩) t]
  | slice t x lo hi mx =>
    cases mx with
    | some m => simp only [op, ho]
    | none =>
      have hx := hE x (by simp [opers, ho])
      have hv := hV x (by simp [opers, ho]) (by simp [ho]) t
      have hlo : lo.map (s'.eval τ 0) = lo.map (s.eval τ 0) := by cases lo with | none => rfl | some y => simp [hE y (by simp [opers, ho])]
      have hhi : hi.map (s'.eval τ 0) = hi.map (s.eval τ 0) := by cases hi with | none => rfl | some y => simp [hE y (by simp [opers, ho])]
      simp only [op, ho, hx, hlo, hhi]
      generalize s.eval τ t x = v at hv ⊢
      split <;> first | rfl | (have hq := vEq hv; simp only [idEq] at hq; simp only [hq]; done) | (have hl := vList hv; simp only [hl]; done) | skip
  | makeFunc f xs ys =>
    have hy := fun y hy => hE y (by simp only [opers, ho]; exact List.mem_append_right _ hy)
    have hvy := fun y hy => hV y (by simp only [opers, ho]; exact List.mem_append_right _ hy) (by simp [ho])
    cases f <;> simp only [op, ho]
    split
    · rfl
    · rename_i y hx1 hy1
      have h1 := hy y (by rw [hy1]; simp)
      have h2 := hvy y (by rw [hy1]; simp)
      rw [h1]
      split
      · rename_i i he
        have h3 := h2 0 i (by rw [he]; simp [idV, idA, A.cells, idC])
        rw [h3]
      · rfl
    · rfl
  | call c =>
    obtain ⟨f, xs, ts⟩ := c
    cases f with
    | value f =>
      have hf := hE f (by simp [opers, ho])
      have hxs : ∀ (l : List (Operand × TypeId)), (∀ x ∈ l, x.1 ∈ xs.toList) → l.map (fun x => s'.eval τ x.2 x.1) = l.map (fun x => s.eval τ x.2 x.1) := fun l hl =>
        List.map_congr_left fun x hx => hE x.1 (by simp only [opers, ho]; exact List.mem_append_right _ (hl x hx)) x.2
      simp only [op, ho, hf, hxs _ fun x hx => (List.of_mem_zip hx).1]
      split
      · split
        · refine callK_fr fun v hv i hi => ?_
          obtain ⟨x, hx, rfl⟩ := List.mem_map.1 hv
          refine hA.hp i ?_
          unfold rdO
          rw [ho]
          exact List.mem_append_right _ (List.mem_flatMap.2 ⟨x.1, (List.of_mem_zip hx).1, deepEval hi⟩)
        · rfl
      · rename_i g k he
        split
        · refine callK_fr fun v hv i hi => ?_
          refine hA.hp i ?_
          unfold rdO
          rw [ho]
          rcases List.mem_append.1 hv with hv | hv
          · obtain ⟨x, hx, rfl⟩ := List.mem_map.1 hv
            exact List.mem_append_right _ (List.mem_flatMap.2 ⟨x.1, (List.of_mem_zip hx).1, deepEval hi⟩)
          · obtain rfl := List.mem_singleton.1 hv
            refine List.mem_append_left _ (deepEval (τ := τ) (t := 0) ?_)
            rw [he]
            simpa [deepV, A.cells, deepC] using hi
        · rfl
      · rfl
    | invoke r m => simp only [op, ho]
    | builtin b =>
      have hE' : ∀ x ∈ xs.toList, ∀ t, s'.eval τ t x = s.eval τ t x := fun x hx => hE x (by simp only [opers, ho]; exact List.mem_append_right _ hx)
      have hV' : ∀ x ∈ xs.toList, ∀ t, ∀ i ∈ idV (s.eval τ t x), find s'.hp i = find s.hp i := fun x hx t i hi => by
        refine hA.hp i ?_
        unfold rdO
        rw [ho]
        exact List.mem_flatMap.2 ⟨x, by simp only [opers]; exact List.mem_append_right _ hx, idEval hi⟩
      cases b with
      | len =>
        simp only [op, ho]
        split
        · rename_i x t h1 h2
          have hx := hE' x (by simp [h1])
          have hv := hV' x (by simp [h1]) t
          simp only [hx]
          generalize s.eval τ t x = v at hv ⊢
          split <;> first | rfl | (have hq := vEq hv; simp only [idEq] at hq; simp only [hq]; done) | (have hl := vList hv; simp only [hl]; done) | skip
        · rfl
      | append =>
        simp only [op, ho]
        split
        · rename_i x y t u h1 h2
          have hx := hE' x (by simp [h1])
          have hy := hE' y (by simp [h1])
          have hv := hV' x (by simp [h1]) t
          have hw := hV' y (by simp [h1]) u
          simp only [hx, hy]
          generalize s.eval τ t x = v at hv ⊢
          generalize s.eval τ u y = v' at hw ⊢
          split
          · rfl
          · rename_i e a b _ _
            simp only [vSrc hw]
            (repeat' split) <;> first | rfl | (have hq := vEq hv; simp only [idEq] at hq; simp_all; done) | skip
          · rfl
        · rfl
      | cap =>
        simp only [op, ho]
        split
        · rename_i x t h1 h2
          simp only [hE' x (by simp [h1])]
        · rfl
      | min =>
        simp only [op, ho]
        split
        · rename_i x y t u h1 h2
          simp only [hE' x (by simp [h1]), hE' y (by simp [h1])]
        · rfl
      | max =>
        simp only [op, ho]
        split
        · rename_i x y t u h1 h2
          simp only [hE' x (by simp [h1]), hE' y (by simp [h1])]
        · rfl
      | copy =>
        simp only [op, ho]
        split
        · rename_i x y t u h1 h2
          have hx := hE' x (by simp [h1])
          have hy := hE' y (by simp [h1])
          have hv := hV' x (by simp [h1]) t
          have hw := hV' y (by simp [h1]) u
          simp only [hx, hy]
          generalize s.eval τ t x = v at hv ⊢
          generalize s.eval τ u y = v' at hw ⊢
          split
          · rename_i e i v off len b _
            have hq := vEq hv
            simp only [idEq] at hq
            simp only [vList hw, hq.1]
          · rfl
        · rfl
      | _ => simp only [op, ho]
  | _ => simp only [op, ho]
end
end Go.Proofs.YtbmibaopkfenbaaDoor.M

/- A machine of values: regions that draw their order, part 1: the states. No condition. -/
namespace Go.Proofs.YtbmibaopkfenbaaDoor.M
open Go
set_option linter.unusedSimpArgs false
set_option linter.unusedVariables false
set_option linter.unusedSectionVars false

/-- What one operation has brought. -/
structure Out where
  v : AV
  u : List (Nat × Blk)
  rd : List Nat
def step (s : St) (d : Option Nat) (e : Out) : St := (s.upd e.u).set d e.v
/-- The state behind some of the operations, in the text's order. -/
def stD : (Nat → Bool) → List (Oper × Out) → St → St
  | _, [], s => s
  | D, x :: r, s => stD (fun i => D (i + 1)) r (if D 0 = true then step s x.1.dst x.2 else s)

theorem set_N (s : St) (d : Option Nat) (v : AV) : (s.set d v).N = s.N := by unfold St.set; cases d <;> simp; split <;> rfl
theorem set_hp (s : St) (d : Option Nat) (v : AV) : (s.set d v).hp = s.hp := by unfold St.set; cases d <;> simp; split <;> rfl
theorem step_N (s : St) (d : Option Nat) (e : Out) : (step s d e).N = s.N := by rw [step, set_N, upd_N]
theorem step_get (s : St) (d : Option Nat) (e : Out) (t : Nat) : (step s d e).get t = if d = some t ∧ t < s.N then e.v else s.get t := by rw [step, get_set, upd_N, upd_get]
theorem step_hp (s : St) (d : Option Nat) (e : Out) : (step s d e).hp = updH s.hp e.u := by rw [step, set_hp, upd_hp]
theorem step_find_out {s : St} {d : Option Nat} {e : Out} {i : Nat} (h : i ∉ e.u.map (·.1)) : find (step s d e).hp i = find s.hp i := by
  rw [step_hp]; exact updH_none _ _ _ fun x hx hi => h (List.mem_map.2 ⟨x, hx, hi⟩)
theorem updH_same : ∀ (u : List (Nat × Blk)) (hp hp' : List (Nat × Blk)) (i : Nat), i ∈ u.map (·.1) ∨ find hp i = find hp' i → find (updH hp u) i = find (updH hp' u) i
  | [], hp, hp', i, h => by rcases h with h | h; · simp at h
                            · exact h
  | (j, b) :: r, hp, hp', i, h => by
    rw [updH, updH]
    refine updH_same r _ _ i ?_
    by_cases hr : i ∈ r.map (·.1)
    · exact .inl hr
    · refine .inr ?_
      rw [find_put, find_put]
      by_cases hj : j = i
      · rw [if_pos hj, if_pos hj]
      · rw [if_neg hj, if_neg hj]
        rcases h with h | h
        · simp only [List.map_cons, List.mem_cons] at h
          rcases h with h | h
          · exact absurd h.symm hj
          · exact absurd h hr
        · exact h
theorem step_find_in {s s' : St} {d d' : Option Nat} {e : Out} {i : Nat} (h : i ∈ e.u.map (·.1)) : find (step s d e).hp i = find (step s' d' e).hp i := by
  rw [step_hp, step_hp]; exact updH_same _ _ _ _ (.inl h)
theorem step_find_same {s s' : St} {d d' : Option Nat} {e : Out} {i : Nat} (h : find s.hp i = find s'.hp i) : find (step s d e).hp i = find (step s' d' e).hp i := by
  rw [step_hp, step_hp]; exact updH_same _ _ _ _ (.inr h)

theorem stD_N : ∀ (L : List (Oper × Out)) (D : Nat → Bool) (s : St), (stD D L s).N = s.N
  | [], D, s => rfl
  | x :: r, D, s => by rw [stD, stD_N r]; split; · exact step_N ..
                       · rfl
theorem stD_get_congr : ∀ (L : List (Oper × Out)) (D D' : Nat → Bool) (s s' : St) (t : Nat), s.N = s'.N → s.get t = s'.get t → (∀ (j : Nat) x, L[j]? = some x → x.1.dst = some t → D j = D' j) → (stD D L s).get t = (stD D' L s').get t
  | [], D, D', s, s', t, hN, h, _ => h
  | x :: r, D, D', s, s', t, hN, h, hD => by
    rw [stD, stD]
    refine stD_get_congr r _ _ _ _ t ?_ ?_ fun j y hy hd => hD (j + 1) y (by simpa using hy) hd
    · split <;> split <;> simp only [step_N, hN]
    · by_cases hd : x.1.dst = some t
      · rw [hD 0 x (by simp) hd]
        split
        · rw [step_get, step_get, hN, h]
        · exact h
      · have e : ∀ s : St, (step s x.1.dst x.2).get t = s.get t := fun s => by rw [step_get, if_neg fun hh => hd hh.1]
        split <;> split <;> simp only [e, h]
theorem stD_find_congr : ∀ (L : List (Oper × Out)) (D D' : Nat → Bool) (s s' : St) (t : Nat), find s.hp t = find s'.hp t → (∀ (j : Nat) x, L[j]? = some x → t ∈ x.2.u.map (·.1) → D j = D' j) → find (stD D L s).hp t = find (stD D' L s').hp t
  | [], D, D', s, s', t, h, _ => h
  | x :: r, D, D', s, s', t, h, hD => by
    rw [stD, stD]
    refine stD_find_congr r _ _ _ _ t ?_ fun j y hy hd => hD (j + 1) y (by simpa using hy) hd
    by_cases hd : t ∈ x.2.u.map (·.1)
    · rw [hD 0 x (by simp) hd]
      split
      · exact step_find_same h
      · exact h
    · have e : ∀ s : St, find (step s x.1.dst x.2).hp t = find s.hp t := fun s => step_find_out hd
      split <;> split <;> simp only [e, h]
theorem stD_none : ∀ (L : List (Oper × Out)) {s : St}, stD (fun _ => false) L s = s
  | [], s => rfl
  | x :: r, s => by rw [stD]; exact stD_none r
theorem stD_get_last : ∀ (L : List (Oper × Out)) (D : Nat → Bool) (s : St) (i : Nat) (x : Oper × Out) (t : Nat), L[i]? = some x → D i = true → x.1.dst = some t → t < s.N → (∀ (j : Nat) y, i < j → L[j]? = some y → D j = true → y.1.dst ≠ some t) → (stD D L s).get t = x.2.v
  | [], D, s, i, x, t, h, _, _, _, _ => by simp at h
  | y :: r, D, s, 0, x, t, h, hD, hd, hN, hl => by
    obtain rfl : y = x := by simpa using h
    rw [stD, if_pos hD]
    have : (stD (fun i => D (i + 1)) r (step s y.1.dst y.2)).get t = (stD (fun _ => false) r (step s y.1.dst y.2)).get t := stD_get_congr r _ _ _ _ t rfl rfl fun j z hz hdz => by
      cases hh : D (j + 1) with
      | false => rfl
      | true => exact absurd hdz (hl (j + 1) z (by omega) (by simpa using hz) hh)
    rw [this, stD_none r, step_get, if_pos ⟨hd, hN⟩]
  | y :: r, D, s, i + 1, x, t, h, hD, hd, hN, hl => by
    rw [stD]
    refine stD_get_last r _ _ i x t (by simpa using h) hD hd ?_ fun j z hj hz hDz => hl (j + 1) z (by omega) (by simpa using hz) hDz
    split
    · rw [step_N]; exact hN
    · exact hN
theorem stD_find_last : ∀ (L : List (Oper × Out)) (D : Nat → Bool) (s s0 : St) (i : Nat) (x : Oper × Out) (t : Nat), L[i]? = some x → D i = true → t ∈ x.2.u.map (·.1) → (∀ (j : Nat) y, i < j → L[j]? = some y → D j = true → t ∉ y.2.u.map (·.1)) → find (stD D L s).hp t = find (step s0 x.1.dst x.2).hp t
  | [], D, s, s0, i, x, t, h, _, _, _ => by simp at h
  | y :: r, D, s, s0, 0, x, t, h, hD, hd, hl => by
    obtain rfl : y = x := by simpa using h
    rw [stD, if_pos hD]
    have : find (stD (fun i => D (i + 1)) r (step s y.1.dst y.2)).hp t = find (stD (fun _ => false) r (step s y.1.dst y.2)).hp t := stD_find_congr r _ _ _ _ t rfl fun j z hz hdz => by
      cases hh : D (j + 1) with
      | false => rfl
      | true => exact absurd hdz (hl (j + 1) z (by omega) (by simpa using hz) hh)
    rw [this, stD_none r]
    exact step_find_in hd
  | y :: r, D, s, s0, i + 1, x, t, h, hD, hd, hl => by
    rw [stD]
    exact stD_find_last r _ _ s0 i x t (by simpa using h) hD hd fun j z hj hz hDz => hl (j + 1) z (by omega) (by simpa using hz) hDz

/-! ### States that look alike -/
structure Like (s s' : St) : Prop where
  N : s.N = s'.N
  tm : ∀ t, s.get t = s'.get t
  hp : ∀ i, find s.hp i = find s'.hp i
section
variable {Γ : Ctx} {al : Nat → Prop} {s s' : St} {a : Act} {w : World} {μ : Nat → Option Pl} {hp hp' : List (Nat × Blk)} {S : Addr → Option Value}
theorem COk.like (h : ∀ i, find hp i = find hp' i) {c : C} {v : Value} (hc : COk al hp S μ c v) : COk al hp' S μ c v := by
  have h1 : ∀ i v, arrOf hp i v = arrOf hp' i v := fun i v => by simp [arrOf, h i]
  have h2 : ∀ i, verOf hp i = verOf hp' i := fun i => by simp [verOf, h i]
  cases c <;> first | exact hc | (simp only [COk, h1, h2, h] at hc ⊢; exact hc)
theorem CsOk.like (h : ∀ i, find hp i = find hp' i) {c : List C} {v : List Value} (hc : CsOk al hp S μ c v) : CsOk al hp' S μ c v := ⟨hc.1, hc.2.1, fun j c v a b => (hc.2.2 j c v a b).like h⟩
theorem AOk.like (h : ∀ i, find hp i = find hp' i) {c : A} {v : Value} (hc : AOk al hp S μ c v) : AOk al hp' S μ c v := by
  cases c with
  | c c => exact COk.like h hc
  | g cs => obtain ⟨vs, h1, h2⟩ := hc; exact ⟨vs, h1, h2.like h⟩
theorem AVOk.like (h : ∀ i, find hp i = find hp' i) {c : AV} {v : Value} (hc : AVOk al hp S μ c v) : AVOk al hp' S μ c v := by
  cases c with
  | a c => exact AOk.like h hc
  | tup cs => obtain ⟨vs, h1, h2, h3⟩ := hc; exact ⟨vs, h1, h2, fun j x v a b => (h3 j x v a b).like h⟩
theorem live_like (h : ∀ i, find hp i = find hp' i) : live hp = live hp' := by funext i; simp [live, h i]
theorem Sv_like (h : ∀ i, find hp i = find hp' i) {G : Nat → Prop} : Sv G hp μ w = Sv G hp' μ w := by
  have e := live_like h
  unfold Sv
  generalize live hp = L at e ⊢
  subst e
  rfl
theorem Rel.like (R : Rel Γ al s a w μ) (h : Like s s') : Rel Γ al s' a w μ := by
  have hl := live_like h.hp
  have hS : Sv Γ.G s.hp μ w = Sv Γ.G s'.hp μ w := Sv_like h.hp
  refine ⟨⟨R.mem.fr, R.mem.gd, fun i b hb => ⟨(R.mem.pin i b hb).1, fun cs hcs => (R.mem.pin i b hb).2.1 cs (by rw [h.hp]; exact hcs), fun sz es hA => (R.mem.pin i b hb).2.2 sz es (by rw [← hA]; simp [arrOf, h.hp])⟩, fun i b hb => R.mem.used i b (by rw [h.hp]; exact hb), fun i p hi hp => R.mem.mine i p (by rw [hl]; exact hi) hp,
    fun i j p q hi hj => R.mem.inj i j p q (by rw [hl]; exact hi) (by rw [hl]; exact hj), fun i b hb => ?_⟩, by rw [← h.N]; exact R.size, fun t => ?_, R.defers⟩
  · have hB := R.mem.blk i b (by rw [h.hp]; exact hb)
    rw [hS] at hB
    cases b with
    | arr sz es v => cases hp : μ i <;> rw [hp] at hB <;> exact hB
    | froz sz es v => cases hp : μ i <;> rw [hp] at hB <;> exact hB
    | box cs =>
      cases hp : μ i with
      | none => rw [hp] at hB; exact hB
      | some p =>
        rw [hp] at hB
        obtain ⟨g0, vs, g1, g2⟩ := hB
        exact ⟨g0, vs, g1.like h.hp, g2⟩
  · have := R.tmp t
    rw [hS, h.tm] at this
    exact this.like h.hp
end
end Go.Proofs.YtbmibaopkfenbaaDoor.M

/- A machine of values: regions that draw their order, part 2: every order does the same. No condition. -/
namespace Go.Proofs.YtbmibaopkfenbaaDoor.M
open Go
set_option linter.unusedSimpArgs false
set_option linter.unusedVariables false
set_option linter.unusedSectionVars false

/-- i must come ahead of o: a way of edges. -/
inductive Path (ops : Array Oper) (i : Nat) : Oper → Prop where
  | one (o : Oper) (e : Edge) (h : e ∈ o.after) (hb : Region.binds .any e = true) (hi : e.on = i) : Path ops i o
  | step (o o' : Oper) (e : Edge) (h : e ∈ o.after) (hb : Region.binds .any e = true) (ho : ops[e.on]? = some o') (k : Path ops i o') : Path ops i o
theorem Path.listed {ops : Array Oper} {listed : Nat → Bool} (hcl : ∀ (j : Nat) o, ops[j]? = some o → listed j = true → ∀ e ∈ o.after, Region.binds .any e = true → listed e.on = true) {i : Nat} {o : Oper} (h : Path ops i o)
    (ha : ∀ e ∈ o.after, Region.binds .any e = true → listed e.on = true) : listed i = true := by
  induction h with
  | one o e h hb hi => rw [← hi]; exact ha e h hb
  | step o o' e h hb ho k ih => exact ih (hcl _ _ ho (ha e h hb))
structure Apart (ops : Array Oper) (x y : Oper × Out) : Prop where
  a : ∀ t, x.1.dst = some t → t ∉ looks ops y.1 ∧ y.1.dst ≠ some t
  b : ∀ t, y.1.dst = some t → t ∉ looks ops x.1
  c : ∀ k ∈ x.2.u.map (·.1), k ∉ y.2.rd ∧ k ∉ y.2.u.map (·.1)
  d : ∀ k ∈ y.2.u.map (·.1), k ∉ x.2.rd
def Fact (P : Program) (τ : Tab) (md : Nat → Md) (ops : Array Oper) (x : Oper × Out) (s : St) (n : Nat) : Prop :=
  (wantA ops s x.1 = some true ∧ x.2.rd = rdO s x.1 ∧ ∀ K' : AV → List (Nat × Blk) → Prop, K' x.2.v x.2.u → op P τ md x.1 s n K') ∨ (wantA ops s x.1 = some false ∧ x.2.v = .tup [] ∧ x.2.u = [])
def alD (n : Nat) (D : Nat → Bool) : Nat → Prop := fun i => i < n ∨ ∃ j, D j = true ∧ n + 16 * j ≤ i ∧ i < n + 16 * j + 16

theorem wantA_eq {ops : Array Oper} {o : Oper} {s s' : St} (h : ∀ t ∈ looks ops o, s'.get t = s.get t) : wantA ops s' o = wantA ops s o := by
  unfold wantA
  cases hg : o.guard with
  | none => rfl
  | some g =>
    obtain ⟨j, w⟩ := g
    simp only
    congr 1
    unfold yieldA
    cases ho : ops[j]? with
    | none => rfl
    | some x =>
      simp only [Option.bind_some]
      cases hd : x.dst with
      | none => rfl
      | some d =>
        simp only
        rw [h d (by simp [looks, hg, ho, hd])]

section
variable {P : Program} {τ : Tab} {Γ : Ctx} {md : Nat → Md} {ops : Array Oper} {Q : Exit → Act → World → Prop} {L : List (Oper × Out)} {n : Nat} {s0 : St}

theorem any_out : ∀ (L : List (Oper × Out)) (D : Nat → Bool) (s : St) (t : Nat), ¬ t < s.N → (stD D L s).get t = s.get t
  | [], D, s, t, _ => rfl
  | x :: r, D, s, t, h => by
    rw [stD]
    split
    · rw [any_out r _ _ t (by rw [step_N]; exact h), step_get, if_neg fun hh => h hh.2]
    · exact any_out r _ _ t h
theorem any_fin {L : List (Oper × Out)} {n : Nat} {s0 : St} {ops : Array Oper} {Γ : Ctx} {Q : Exit → Act → World → Prop} (hops : ops.size = L.length) (hL : ∀ j : Nat, ops[j]? = (L[j]?).map (·.1))
    (hdep : ∀ (i : Nat) x, L[i]? = some x → ∀ e ∈ x.1.after, Region.binds .any e = true → e.on < i)
    (hQ : ∀ a w μ, Rel Γ (alD n fun j => decide (j < L.length)) (stD (fun _ => true) L s0) a w μ → Q .normal a w)
    {listed : Array Bool} {a : Act} {w : World} {μ : Nat → Option Pl} (hsz : listed.size = ops.size) (hr : Region.ready .any ops listed = [])
    (R : Rel Γ (alD n fun j => listed.getD j false) (stD (fun j => listed.getD j false) L s0) a w μ) : Q .normal a w := by
  have hall : ∀ j, j < ops.size → listed.getD j false = true := fun j => by
    induction j using Nat.strongRecOn with
    | _ j ihj =>
      intro hj
      cases hh : listed.getD j false with
      | true => rfl
      | false =>
        exfalso
        have hjl : j < listed.size := by omega
        have : j ∈ Region.ready .any ops listed := by
          rw [mem_ready]
          refine ⟨by simpa [hjl] using hh, ops[j], by simp [hj], fun e he hb => ?_⟩
          have hx := hL j
          rw [Array.getElem?_eq_getElem hj] at hx
          obtain ⟨x, hx1, hx2⟩ := Option.map_eq_some_iff.1 hx.symm
          have := hdep j x hx1 e (by rw [hx2]; exact he) hb
          exact ihj _ this (by omega)
        rw [hr] at this
        cases this
  have hD : (fun j => listed.getD j false) = fun j => decide (j < L.length) := by
    funext j
    by_cases hj : j < ops.size
    · rw [hall j hj, decide_eq_true (by omega)]
    · rw [decide_eq_false (by omega)]
      have : ¬ j < listed.size := by omega
      simp [this]
  rw [hD] at R
  refine hQ a w μ (R.like ⟨by rw [stD_N, stD_N], fun t => ?_, fun k => ?_⟩)
  · exact stD_get_congr L _ _ s0 s0 t rfl rfl fun j y hy _ => decide_eq_true (List.getElem?_eq_some_iff.1 hy).1
  · exact stD_find_congr L _ _ s0 s0 k rfl fun j y hy _ => decide_eq_true (List.getElem?_eq_some_iff.1 hy).1

theorem any_sound (hτ : TOk P τ) (hops : ops.size = L.length) (hL : ∀ j : Nat, ops[j]? = (L[j]?).map (·.1))
    (hF : ∀ (i : Nat) x, L[i]? = some x → Fact P τ md ops x (stD (fun j => decide (j < i)) L s0) (n + 16 * i))
    (hdep : ∀ (i : Nat) x, L[i]? = some x → ∀ e ∈ x.1.after, Region.binds .any e = true → e.on < i)
    (hap : ∀ (i j : Nat) x y, i < j → L[i]? = some x → L[j]? = some y → Path ops i y.1 ∨ Apart ops x y)
    (hQ : ∀ a w μ, Rel Γ (alD n fun j => decide (j < L.length)) (stD (fun _ => true) L s0) a w μ → Q .normal a w) :
    ∀ (fuel : Nat) (listed : Array Bool) (a : Act) (w : World) (μ : Nat → Option Pl), listed.size = ops.size →
      (∀ (j : Nat) x, L[j]? = some x → listed.getD j false = true → ∀ e ∈ x.1.after, Region.binds .any e = true → listed.getD e.on false = true) →
      listed.toList.count false ≤ fuel → Rel Γ (alD n fun j => listed.getD j false) (stD (fun j => listed.getD j false) L s0) a w μ → wpAny P .any ops Q fuel listed a w := by
  intro fuel
  induction fuel with
  | zero =>
    intro listed a w μ hsz hcl hct R
    have hr : Region.ready .any ops listed = [] := by
      rw [List.eq_nil_iff_forall_not_mem]
      intro i hi
      rw [mem_ready] at hi
      have h0 := hi.1
      have hlt : i < listed.size := by
        rcases Nat.lt_or_ge i listed.size with h | h
        · exact h
        · simp [Array.getElem?_eq_none h] at h0
      have hmem : false ∈ listed.toList := by
        simp [hlt] at h0
        rw [← h0]; simp
      have := List.count_pos_iff.2 hmem
      omega
    exact ⟨hr, any_fin hops hL hdep hQ hsz hr R⟩
  | succ fuel ih =>
    intro listed a w μ hsz hcl hct R
    refine ⟨fun hr => any_fin hops hL hdep hQ hsz hr R, fun i hi => ?_⟩
    rw [mem_ready] at hi
    obtain ⟨h0, o, ho, haft⟩ := hi
    have hlt : i < listed.size := by
      rcases Nat.lt_or_ge i listed.size with h | h
      · exact h
      · simp [Array.getElem?_eq_none h] at h0
    have hDi : listed.getD i false = false := by simpa [hlt] using h0
    have hclO : ∀ (j : Nat) o, ops[j]? = some o → listed.getD j false = true → ∀ e ∈ o.after, Region.binds .any e = true → listed.getD e.on false = true := fun j o' ho' => by
      have := hL j
      rw [ho'] at this
      obtain ⟨x, h1, h2⟩ := Option.map_eq_some_iff.1 this.symm
      subst h2
      exact hcl j x h1
    obtain ⟨x, hx, hxo⟩ : ∃ x, L[i]? = some x ∧ x.1 = o := by
      have := hL i
      rw [ho] at this
      obtain ⟨x, h1, h2⟩ := Option.map_eq_some_iff.1 this.symm
      exact ⟨x, h1, h2⟩
    subst hxo
    have hD' : ∀ j, (listed.setIfInBounds i true).getD j false = if j = i then true else listed.getD j false := fun j => by
      by_cases hj : j = i
      · subst hj; simp [hlt]
      · rw [if_neg hj]; exact getD_set_ne false (Ne.symm hj)
    have tmA : ∀ t ∈ looks ops x.1, (stD (fun j => listed.getD j false) L s0).get t = (stD (fun j => decide (j < i)) L s0).get t := fun t ht =>
      stD_get_congr L _ _ s0 s0 t rfl rfl fun j y hy hd => by
        rcases Nat.lt_trichotomy j i with hji | hji | hji
        · rw [decide_eq_true hji]
          rcases hap j i y x hji hy hx with hP | hA
          · exact hP.listed hclO haft
          · exact absurd ht (hA.a t hd).1
        · subst hji; simpa using hDi
        · rw [decide_eq_false (by omega)]
          cases hj : listed.getD j false with
          | false => rfl
          | true =>
            rcases hap i j x y hji hx hy with hP | hA
            · have := hP.listed hclO (hcl j y hy hj)
              rw [hDi] at this; cases this
            · exact absurd ht (hA.b t hd)
    have hpA : ∀ k ∈ x.2.rd, find (stD (fun j => listed.getD j false) L s0).hp k = find (stD (fun j => decide (j < i)) L s0).hp k := fun k hk =>
      stD_find_congr L _ _ s0 s0 k rfl fun j y hy hd => by
        rcases Nat.lt_trichotomy j i with hji | hji | hji
        · rw [decide_eq_true hji]
          rcases hap j i y x hji hy hx with hP | hA
          · exact hP.listed hclO haft
          · exact absurd hk (hA.c k hd).1
        · subst hji; simpa using hDi
        · rw [decide_eq_false (by omega)]
          cases hj : listed.getD j false with
          | false => rfl
          | true =>
            rcases hap i j x y hji hx hy with hP | hA
            · have := hP.listed hclO (hcl j y hy hj)
              rw [hDi] at this; cases this
            · exact absurd hk (hA.d k hd)
    have hlater : ∀ (j : Nat) y, i < j → L[j]? = some y → (listed.setIfInBounds i true).getD j false = true → Apart ops x y := fun j y hj hy hDj => by
      rw [hD', if_neg (by omega)] at hDj
      rcases hap i j x y hj hx hy with hP | hA
      · have := hP.listed hclO (hcl j y hy hDj)
        rw [hDi] at this; cases this
      · exact hA
    have hLike : Like (step (stD (fun j => listed.getD j false) L s0) x.1.dst x.2) (stD (fun j => (listed.setIfInBounds i true).getD j false) L s0) := by
      refine ⟨by rw [step_N, stD_N, stD_N], fun t => ?_, fun k => ?_⟩
      · rw [step_get, stD_N]
        have hne : x.1.dst ≠ some t → (stD (fun j => listed.getD j false) L s0).get t = (stD (fun j => (listed.setIfInBounds i true).getD j false) L s0).get t := fun hd =>
          stD_get_congr L _ _ s0 s0 t rfl rfl fun j y hy hdj => by
            rw [hD']
            by_cases hj : j = i
            · subst hj; rw [hx] at hy; cases hy; exact absurd hdj hd
            · rw [if_neg hj]
        by_cases hd : x.1.dst = some t
        · by_cases hN : t < s0.N
          · rw [if_pos ⟨hd, hN⟩]
            exact (stD_get_last L _ s0 i x t hx (by rw [hD', if_pos rfl]) hd hN fun j y hj hy hDj => ((hlater j y hj hy hDj).a t hd).2).symm
          · rw [if_neg fun h => hN h.2, any_out L _ s0 t hN, any_out L _ s0 t hN]
        · rw [if_neg fun h => hd h.1]
          exact hne hd
      · by_cases hk : k ∈ x.2.u.map (·.1)
        · exact (stD_find_last L _ s0 _ i x k hx (by rw [hD', if_pos rfl]) hk fun j y hj hy hDj => ((hlater j y hj hy hDj).c k hk).2).symm
        · rw [step_find_out hk]
          refine stD_find_congr L _ _ s0 s0 k rfl fun j y hy hdj => ?_
          rw [hD']
          by_cases hj : j = i
          · subst hj; rw [hx] at hy; cases hy; exact absurd hdj hk
          · rw [if_neg hj]
    have hal : al16 (alD n fun j => listed.getD j false) (n + 16 * i) = alD n fun j => (listed.setIfInBounds i true).getD j false := by
      funext k
      simp only [al16, alD, eq_iff_iff]
      constructor
      · rintro ((h | ⟨j, h1, h2⟩) | h)
        · exact .inl h
        · exact .inr ⟨j, by rw [hD']; split; · rfl
                            · exact h1, h2⟩
        · exact .inr ⟨i, by rw [hD', if_pos rfl], h⟩
      · rintro (h | ⟨j, h1, h2⟩)
        · exact .inl (.inl h)
        · rw [hD'] at h1
          by_cases hj : j = i
          · subst hj; exact .inr h2
          · rw [if_neg hj] at h1; exact .inl (.inr ⟨j, h1, h2⟩)
    have go : ∀ a' w' μ', Rel Γ (al16 (alD n fun j => listed.getD j false) (n + 16 * i)) (step (stD (fun j => listed.getD j false) L s0) x.1.dst x.2) a' w' μ' → wpAny P .any ops Q fuel (listed.setIfInBounds i true) a' w' := fun a' w' μ' R' => by
      rw [hal] at R'
      refine ih _ a' w' μ' (by simpa using hsz) (fun j y hy hj e he hb => ?_) ?_ (R'.like hLike)
      · rw [hD'] at hj
        by_cases hji : j = i
        · subst hji; rw [hx] at hy; cases hy; exact getD_set_true (haft e he hb)
        · rw [if_neg hji] at hj; exact getD_set_true (hcl j y hy hj e he hb)
      · rw [Array.toList_setIfInBounds, List.count_set (by simpa using hlt)]
        have : listed.toList[i]'(by simpa using hlt) = false := by simpa [hlt] using h0
        rw [this]
        have e : ((true == false) = true) = False := by simp
        simp only [beq_self_eq_true, if_true, e, if_false]
        omega
    unfold wpOp
    rw [ho]
    simp only
    have hw0 : wantA ops (stD (fun j => listed.getD j false) L s0) x.1 = wantA ops (stD (fun j => decide (j < i)) L s0) x.1 := wantA_eq tmA
    rcases hF i x hx with ⟨h1, h2, h3⟩ | ⟨h1, h2, h3⟩
    · rw [← hw0] at h1
      rw [want_ok R h1, if_pos rfl]
      left
      have hA : Agree ops x.1 (stD (fun j => decide (j < i)) L s0) (stD (fun j => listed.getD j false) L s0) := ⟨tmA, fun k hk => hpA k (by rw [h2]; exact hk)⟩
      refine op_sound (md := md) hτ R (n := n + 16 * i) (K := fun v u => v = x.2.v ∧ u = x.2.u) (fun k hk hh => ?_) (by rw [op_frame hA]; exact h3 _ ⟨rfl, rfl⟩) (fun v u val w' μ' hk hm he hv => ?_)
      · rcases hh with hh | ⟨j, hj1, hj2⟩
        · omega
        · have : j = i := by omega
          subst this; dsimp only at hj1; rw [hDi] at hj1; cases hj1
      · obtain ⟨rfl, rfl⟩ := hk
        have R' : Rel Γ (al16 (alD n fun j => listed.getD j false) (n + 16 * i)) ((stD (fun j => listed.getD j false) L s0).upd x.2.u) a w' μ' := ⟨hm, by rw [upd_N]; exact R.size, fun t => by rw [upd_get]; exact (R.tmp t).mono he, R.defers⟩
        exact go _ _ _ (R'.set x.1.dst x.2.v val hv)
    · rw [← hw0] at h1
      rw [want_ok R h1, if_neg (by simp)]
      have hm := R.mem.grow (Fr.refl [] w) (al' := al16 (alD n fun j => listed.getD j false) (n + 16 * i)) (fun i hi => .inl hi)
      have R' : Rel Γ (al16 (alD n fun j => listed.getD j false) (n + 16 * i)) (stD (fun j => listed.getD j false) L s0) a w μ := ⟨hm.1, R.size, fun t => (R.tmp t).mono hm.2, R.defers⟩
      refine go _ _ μ ?_
      have e : step (stD (fun j => listed.getD j false) L s0) x.1.dst x.2 = (stD (fun j => listed.getD j false) L s0).set x.1.dst (.tup []) := by rw [step, h2, h3]; rfl
      rw [e]
      exact R'.set x.1.dst (.tup []) undef tup0_ok
end
end Go.Proofs.YtbmibaopkfenbaaDoor.M

/- A machine of values: regions that draw their order, part 3: how one is reckoned. No condition. -/
namespace Go.Proofs.YtbmibaopkfenbaaDoor.M
open Go
set_option linter.unusedSimpArgs false
set_option linter.unusedVariables false
set_option linter.unusedSectionVars false

abbrev Log := List (List Nat × List Nat)
/-- As WOps; with a list of what each operation has looked at and changed. -/
def DOps (P : Program) (τ : Tab) (md : Nat → Md) (ops : Array Oper) : List Oper → Nat → St → Log → (Log → St → Prop) → Prop
  | [], n, s, lg, K => K lg { s with nx := n }
  | o :: r, n, s, lg, K => match wantA ops s o with
    | some b => (b = true → op P τ md o s n fun v u => DOps P τ md ops r (n + 16) ((s.upd u).set o.dst v) ((rdO s o, u.map (·.1)) :: lg) K) ∧ (b = false → DOps P τ md ops r (n + 16) (s.set o.dst (.tup [])) (([], []) :: lg) K)
    | none => False
def entry (e : Out) : List Nat × List Nat := (e.rd, e.u.map (·.1))

def depB (o : Oper) (i : Nat) : Bool := o.after.toList.any fun e => Region.binds .any e && e.on == i
/-- By ways of no more than so many steps. -/
def depF (ops : Array Oper) : Nat → Oper → Nat → Bool
  | 0, o, i => depB o i
  | f + 1, o, i => depB o i || o.after.toList.any fun e => Region.binds .any e && match ops[e.on]? with | some o' => depF ops f o' i | none => false
def apartB (ops : Array Oper) (x y : Oper × List Nat × List Nat) : Bool :=
  (match x.1.dst with | some t => !(looks ops y.1).contains t && (match y.1.dst with | some t' => !(t' == t) | none => true) | none => true) &&
  (match y.1.dst with | some t => !(looks ops x.1).contains t | none => true) &&
  x.2.2.all (fun k => !y.2.1.contains k && !y.2.2.contains k) && y.2.2.all (fun k => !x.2.1.contains k)
def drawB (ops : Array Oper) : Nat → List (Oper × List Nat × List Nat) → Bool
  | _, [] => true
  | k, x :: r => x.1.after.toList.all (fun e => !Region.binds .any e || decide (e.on < k)) && r.all (fun y => apartB ops x y || depF ops 4 y.1 k) && drawB ops (k + 1) r

section
variable {P : Program} {τ : Tab} {Γ : Ctx} {md : Nat → Md} {ops : Array Oper}

theorem apartB_ok {x y : Oper × Out} (h : apartB ops (x.1, entry x.2) (y.1, entry y.2) = true) : Apart ops x y := by
  simp only [apartB, entry, Bool.and_eq_true] at h
  obtain ⟨⟨⟨h1, h2⟩, h3⟩, h4⟩ := h
  refine ⟨fun t ht => ?_, fun t ht => ?_, fun k hk => ?_, fun k hk => ?_⟩
  · rw [ht] at h1
    simp only [Bool.and_eq_true, Bool.not_eq_true', List.contains_eq_mem, decide_eq_false_iff_not] at h1
    refine ⟨h1.1, fun hy => ?_⟩
    rw [hy] at h1
    simp at h1
  · rw [ht] at h2
    simpa using h2
  · have := List.all_eq_true.1 h3 k hk
    simp only [Bool.and_eq_true, Bool.not_eq_true', List.contains_eq_mem, decide_eq_false_iff_not] at this
    exact this
  · have := List.all_eq_true.1 h4 k hk
    simpa using this
theorem depB_ok {o : Oper} {i : Nat} (h : depB o i = true) : Path ops i o := by
  obtain ⟨e, he, hh⟩ := List.any_eq_true.1 h
  simp only [Bool.and_eq_true, beq_iff_eq] at hh
  exact .one o e (by simpa using he) hh.1 hh.2
theorem depF_ok : ∀ {f : Nat} {o : Oper} {i : Nat}, depF ops f o i = true → Path ops i o
  | 0, o, i, h => depB_ok h
  | f + 1, o, i, h => by
    simp only [depF, Bool.or_eq_true] at h
    rcases h with h | h
    · exact depB_ok h
    · obtain ⟨e, he, hh⟩ := List.any_eq_true.1 h
      rw [Bool.and_eq_true] at hh
      obtain ⟨h1, h2⟩ := hh
      split at h2
      · rename_i o' ho; exact .step o o' e (by simpa using he) h1 ho (depF_ok h2)
      · cases h2
theorem drawB_ok : ∀ {L : List (Oper × Out)} {k : Nat}, drawB ops k (L.map fun x => (x.1, entry x.2)) = true →
    (∀ (i : Nat) x, L[i]? = some x → ∀ e ∈ x.1.after, Region.binds .any e = true → e.on < k + i) ∧
    (∀ (i j : Nat) x y, i < j → L[i]? = some x → L[j]? = some y → Path ops (k + i) y.1 ∨ Apart ops x y)
  | [], k, _ => ⟨by simp, by simp⟩
  | z :: r, k, h => by
    simp only [List.map_cons, drawB, Bool.and_eq_true] at h
    obtain ⟨⟨h1, h2⟩, h3⟩ := h
    obtain ⟨a, b⟩ := drawB_ok h3
    constructor
    · intro i x hx e he hb
      cases i with
      | zero =>
        obtain rfl : z = x := by simpa using hx
        have := List.all_eq_true.1 h1 e (by simpa using he)
        simp only [hb, Bool.not_true, Bool.false_or, decide_eq_true_eq] at this
        exact this
      | succ i => have := a i x (by simpa using hx) e he hb; omega
    · intro i j x y hij hx hy
      cases j with
      | zero => omega
      | succ j =>
        cases i with
        | zero =>
          obtain rfl : z = x := by simpa using hx
          have hy' : r[j]? = some y := by simpa using hy
          have := List.all_eq_true.1 h2 (y.1, entry y.2) (List.mem_map.2 ⟨y, List.mem_of_getElem? hy', rfl⟩)
          rw [Bool.or_eq_true] at this
          rcases this with ha | hd
          · exact .inr (apartB_ok ha)
          · exact .inl (depF_ok hd)
        | succ i =>
          have := b i j x y (by omega) (by simpa using hx) (by simpa using hy)
          rwa [show k + 1 + i = k + (i + 1) by omega] at this

theorem DOps_run : ∀ (l : List Oper) (n : Nat) (s : St) (lg : Log) (K : Log → St → Prop), DOps P τ md ops l n s lg K →
    ∃ es : List Out, es.length = l.length ∧ (∀ (i : Nat) x, (l.zip es)[i]? = some x → Fact P τ md ops x (stD (fun j => decide (j < i)) (l.zip es) s) (n + 16 * i)) ∧
      K ((es.map entry).reverse ++ lg) { stD (fun _ => true) (l.zip es) s with nx := n + 16 * l.length }
  | [], n, s, lg, K, h => ⟨[], rfl, by simp, h⟩
  | o :: r, n, s, lg, K, h => by
    simp only [DOps] at h
    have key : ∀ e : Out, Fact P τ md ops (o, e) s n → DOps P τ md ops r (n + 16) (step s o.dst e) (entry e :: lg) K →
        ∃ es : List Out, es.length = (o :: r).length ∧ (∀ (i : Nat) x, ((o :: r).zip es)[i]? = some x → Fact P τ md ops x (stD (fun j => decide (j < i)) ((o :: r).zip es) s) (n + 16 * i)) ∧
          K ((es.map entry).reverse ++ lg) { stD (fun _ => true) ((o :: r).zip es) s with nx := n + 16 * (o :: r).length } := fun e hf hK => by
      obtain ⟨es, h1, h2, h3⟩ := DOps_run r (n + 16) _ _ K hK
      refine ⟨e :: es, by simp [h1], fun i x hx => ?_, ?_⟩
      · rw [List.zip_cons_cons] at hx ⊢
        cases i with
        | zero =>
          obtain rfl : (o, e) = x := by simpa using hx
          have : (fun j => decide (j < 0)) = fun _ : Nat => false := by funext j; simp
          rw [this, stD_none]
          exact hf
        | succ i =>
          have := h2 i x (by simpa using hx)
          rw [stD]
          have e1 : (fun j => decide (j + 1 < i + 1)) = fun j => decide (j < i) := by funext j; simp
          dsimp only
          rw [e1, if_pos (by simp)]
          have e2 : n + 16 * (i + 1) = n + 16 + 16 * i := by omega
          rw [e2]
          exact this
      · rw [List.zip_cons_cons, stD, if_pos rfl, List.map_cons, List.reverse_cons, List.append_assoc, List.singleton_append]
        have e2 : n + 16 * (o :: r).length = n + 16 + 16 * r.length := by simp only [List.length_cons]; omega
        rw [e2]
        exact h3
    split at h
    · rename_i b hb
      cases b with
      | true =>
        obtain ⟨v, u, h1, h2⟩ := op_det (h.1 rfl)
        exact key ⟨v, u, rdO s o⟩ (.inl ⟨hb, rfl, h2⟩) h1
      | false => exact key ⟨.tup [], [], []⟩ (.inr ⟨hb, rfl, rfl⟩) (h.2 rfl)
    · exact h.elim

theorem WW_draw (hτ : TOk P τ) (hm : P.follows .mixedOrders = true) {id : Nat} {l : List Oper} {s : St} {Q : X → St → Prop}
    (h : DOps P τ md l.toArray l s.nx s [] fun lg s' => drawB l.toArray 0 (l.zip lg.reverse) = true ∧ Q .normal s') : WW P (.region id l.toArray true) s Q := fun Γ a w μ R => by
  obtain ⟨es, h1, h2, h3, h4⟩ := DOps_run l s.nx s [] _ h
  have hz : l.zip (((es.map entry).reverse ++ []).reverse) = (l.zip es).map fun x => (x.1, entry x.2) := by
    rw [List.append_nil, List.reverse_reverse, List.zip_map_right]; rfl
  rw [hz] at h3
  obtain ⟨hd, ha⟩ := drawB_ok h3
  have hlen : (l.zip es).length = l.length := by simp [h1]
  refine wp_region_any hm ?_
  have hm0 := R.mem.grow (w' := { w with drawn := w.drawn + 1 }) (Fr.of _ _ _ rfl rfl rfl (Nat.le_refl _) fun _ _ => rfl) (al' := (· < s.nx)) (fun i hi => hi)
  have R0 : Rel Γ (· < s.nx) s a { w with drawn := w.drawn + 1 } μ := ⟨hm0.1, R.size, fun t => (R.tmp t).mono hm0.2, R.defers⟩
  refine any_sound (Γ := Γ) (md := md) (L := l.zip es) (n := s.nx) (s0 := s) hτ (by simp [h1]) (fun j => ?_) (fun i x hx => h2 i x hx) (fun i x hx e he hb => by have := hd i x hx e he hb; omega)
    (fun i j x y hij hx hy => by have := ha i j x y hij hx hy; rwa [Nat.zero_add] at this) (fun a' w' μ' R' => ?_) _ _ a _ μ (by simp) (fun j x _ hj => ?_) (by simp [Array.toList_replicate]) ?_
  · rw [List.getElem?_toArray]
    rcases Nat.lt_or_ge j l.length with hj | hj
    · rw [List.getElem?_eq_getElem hj, List.getElem?_eq_getElem (by omega)]; simp
    · rw [List.getElem?_eq_none hj, List.getElem?_eq_none (by omega)]; rfl
  · refine ⟨.normal, _, μ', trivial, h4, ?_⟩
    have hal : (alD s.nx fun j => decide (j < (l.zip es).length)) = (· < s.nx + 16 * l.length) := by
      funext k
      simp only [alD, eq_iff_iff, hlen, decide_eq_true_eq]
      constructor
      · rintro (h | ⟨j, h1, h2⟩) <;> omega
      · intro h
        rcases Nat.lt_or_ge k s.nx with hk | hk
        · exact .inl hk
        · exact .inr ⟨(k - s.nx) / 16, by omega, by omega, by omega⟩
    rw [hal] at R'
    exact ⟨R'.mem, R'.size, R'.tmp, R'.defers⟩
  · exfalso
    by_cases hjl : j < l.length <;> simp [hjl] at hj
  · have e1 : (fun j => (Array.replicate l.toArray.size false).getD j false) = fun _ : Nat => false := by
      funext j; by_cases hj : j < l.length <;> simp [hj]
    rw [e1, stD_none]
    have hal : (alD s.nx fun _ => false) = (· < s.nx) := by
      funext k; simp [alD]
    rw [hal]
    exact R0
end
end Go.Proofs.YtbmibaopkfenbaaDoor.M

/- A machine of values: regions that draw their order, in the engine's form. No condition. -/
namespace Go.Proofs.YtbmibaopkfenbaaDoor.M
open Go
set_option linter.unusedSimpArgs false
set_option linter.unusedVariables false

def DrawOk (l : List Oper) (lg : Log) : Prop := drawB l.toArray 0 (l.zip lg.reverse) = true
theorem drawOk_of {l : List Oper} {lg : Log} (h : drawB l.toArray 0 (l.zip lg.reverse) = true) : DrawOk l lg := h
def drawQ (l : List Oper) (Q : X → St → Prop) (lg : Log) (s : St) : Prop := DrawOk l lg ∧ Q .normal s
section
variable {P : Program} {τ : Tab} {md : Nat → Md} {n : Nat} {s : St} {lg : Log} {ops : Array Oper}
theorem act_dnil {K : Log → St → Prop} : act (DOps P τ md ops [] n s lg K) = act (K lg { s with nx := n }) := (rfl)
theorem act_dcons {o : Oper} {r : List Oper} {K : Log → St → Prop} : act (DOps P τ md ops (o :: r) n s lg K) =
    act (wK (wantA ops s o) (op P τ md o s n fun v u => DOps P τ md ops r (n + 16) ((s.upd u).set o.dst v) ((rdO s o, u.map (·.1)) :: lg) K) (DOps P τ md ops r (n + 16) (s.set o.dst (.tup [])) (([], []) :: lg) K)) := (rfl)
theorem act_drawQ {l : List Oper} {Q : X → St → Prop} : act (drawQ l Q lg s) = (DrawOk l lg ∧ act (Q .normal s)) := (rfl)
theorem act_draw_of (hτ : TOk P τ) (hm : P.follows .mixedOrders = true) (md : Nat → Md) {id : Nat} {l : List Oper} {Q : X → St → Prop} {x : Shut (Code.region id l.toArray true)} {y : Shut Q}
    (h : act (DOps P τ md l.toArray l s.nx s [] (drawQ l Q))) : WWE P (.region id l.toArray true) s Q x y := WW_draw hτ hm h
end
attribute [go_sem] act_dnil act_dcons act_drawQ rdO rdO.tmpV opers idV idA idC deepV deepC Option.toList_some Option.toList_none
end Go.Proofs.YtbmibaopkfenbaaDoor.M

/- A machine of values: contracts out of the kit's own, and what a contract gives back. No condition. -/
namespace Go.Proofs.YtbmibaopkfenbaaDoor.M
open Go
set_option linter.unusedSimpArgs false
set_option linter.unusedVariables false
set_option linter.unusedSectionVars false

/-- A plain number, bool or string as Go's value. -/
def T.val : T → Value
  | .int k n => .int k n
  | .bool b => .bool b
  | .str s => .string s
  | .raw x => x.v
  | _ => undef
theorem hold_val {S : Addr → Option Value} {x : T} {v : Value} (hx : x.scal = true) (h : Hold S x v) : v = x.val := by
  cases h <;> first | rfl | (simp [T.scal] at hx; done)
theorem val_hold {S : Addr → Option Value} {x : T} (hx : x.scal = true) : Hold S x x.val := by
  cases x <;> first | (simp [T.scal] at hx; done) | constructor
theorem argsOk_scal {S : Addr → Option Value} {w : World} : ∀ {xs : List T} {vs : List Value} {bs : List Nat}, (∀ x ∈ xs, x.scal = true) → ArgsOk S w (xs.map AA.v) vs bs → vs = xs.map T.val ∧ bs = []
  | [], vs, bs, _, h => ⟨h.1, h.2⟩
  | x :: xs, vs, bs, hx, ⟨v, vs', r1, r2, h1, h2, h3, h4⟩ => by
    obtain ⟨h5, h6⟩ := argsOk_scal (fun x hx' => hx x (by simp [hx'])) h4
    obtain ⟨h7, h8⟩ := h3
    rw [h1, h2, h5, h6, h7, hold_val (hx x (by simp)) h8]
    exact ⟨rfl, rfl⟩
theorem scal_argsOk {S : Addr → Option Value} {w : World} : ∀ {xs : List T}, (∀ x ∈ xs, x.scal = true) → ArgsOk S w (xs.map AA.v) (xs.map T.val) []
  | [], _ => ⟨rfl, rfl⟩
  | x :: xs, hx => ⟨x.val, xs.map T.val, [], [], rfl, rfl, ⟨rfl, val_hold (hx x (by simp))⟩, scal_argsOk fun x hx' => hx x (by simp [hx'])⟩
theorem outsOk_none {S : Addr → Option Value} {w : World} : ∀ (xs : List T) (vs : List Value), vs.length = xs.length → OutsOk S w (xs.map AA.v) vs [] []
  | [], vs, _ => ⟨rfl, rfl⟩
  | x :: xs, [], h => by simp at h
  | x :: xs, v :: vs, h => outsOk_none xs vs (by simpa using h)
theorem resOk_scal {own : Bool} {S : Addr → Option Value} {w : World} {x : T} (hx : x.scal = true) : ResOk own S w [x] x.val [] := by
  show ResA own S w x x.val []
  cases x <;> first | (simp [T.scal] at hx; done) | (cases own <;> exact ⟨rfl, by constructor⟩)
theorem scal_resOk {own : Bool} {S : Addr → Option Value} {w : World} {x : T} {v : Value} {r : List Nat} (hx : x.scal = true) (h : ResOk own S w [x] v r) : v = x.val ∧ r = [] := by
  have h : ResA own S w x v r := h
  cases x <;> first | (simp [T.scal] at hx; done) | (cases own <;> exact ⟨hold_val rfl h.2, h.1⟩)

section
variable {P : Program} {own : Bool} {f : FuncId} {fn : Func}
/-- A contract of the kit: plain values in, one plain value out, the world as it was. -/
theorem CS_of_calls {c : Code} (hf : P.funcs[f]? = some fn) (hb : fn.body = some c) (hname : (fn.name == "runtime.NumGoroutine") = false) {xs : List T} {r : T} (hx : ∀ x ∈ xs, x.scal = true) (hr : r.scal = true)
    (h : ∀ w, Calls P f (xs.map T.val).toArray w fun e w' => e = .returned r.val ∧ w' = w) : CS P own f (xs.map AA.v) [r] [] := by
  intro G w vals bs hA hnd hbs hG
  obtain ⟨rfl, rfl⟩ := argsOk_scal hx hA
  have hname' : ¬ fn.name = "runtime.NumGoroutine" := by simpa using hname
  refine .inl ⟨by simp [callFunc, hf, hname', hb], (h w).mono fun e w' ⟨he, hw⟩ => ⟨_, he, [], [], ?_, resOk_scal hr, outsOk_none _ _ (by simp), by simp, by simp⟩⟩
  subst hw
  exact Fr.refl [] w'
/-- A function for which the model stands in. -/
theorem CS_of_value {xs : List T} {r : T} (hx : ∀ x ∈ xs, x.scal = true) (hr : r.scal = true) (h : ∀ w, (callFunc f (xs.map T.val).toArray).run P w = .ok (.value r.val) w) : CS P own f (xs.map AA.v) [r] [] := by
  intro G w vals bs hA hnd hbs hG
  obtain ⟨rfl, rfl⟩ := argsOk_scal hx hA
  exact .inr ⟨_, w, h w, [], [], Fr.refl [] w, resOk_scal hr, outsOk_none _ _ (by simp), by simp, by simp⟩
theorem CS_indexByteString (hf : P.funcs[f]? = some fn) (hname : (fn.name == "runtime.NumGoroutine") = false) (hb : fn.body.isNone = true) (hn : Extern.findNext fn = none) (he : Extern.find fn = some Extern.BytealgIndexByte.indexByte)
    (s : ByteArray) (c : Int) : CS P own f [.v (.str s), .v (.int .u8 c)] [.int .i64 (Lib.indexByte s.data.toList c.toNat.toUInt8)] [] := by
  refine CS_of_value (xs := [.str s, .int .u8 c]) (by simp [T.scal]) rfl fun w => ?_
  show (callFunc f #[.string s, .int .u8 c]).run P w = _
  rw [run_callFunc_extern hf hname hb hn he, Lib.run_indexByteString]
  rfl
/-- What a contract of a function with a body gives: a call that hands back. -/
theorem CS.calls {c : Code} (hf : P.funcs[f]? = some fn) (hb : fn.body = some c) (hname : (fn.name == "runtime.NumGoroutine") = false) {args : List AA} {r : T} (hr : r.scal = true) (h : CS P own f args [r] []) {w : World} {vals : List Value}
    (hA : ArgsOk (inV (· < w.heap.size) w) w args vals []) (hI : GInv w := by intro b hb; simp [GB, gno] at hb) : Calls P f vals.toArray w fun e w' => e = .returned r.val ∧ RowKit.Below w.heap.size w w' := by
  have hname' : ¬ fn.name = "runtime.NumGoroutine" := by simpa using hname
  rcases h (· < w.heap.size) w vals [] hA (by simp) (by simp) ⟨fun b hb => hb, hI, fun b hb => hI.lt hb⟩ with ⟨_, h⟩ | ⟨v, w', h, _⟩
  · refine h.mono fun e w' ⟨v, he, r1, r2, hF, hR, _⟩ => ?_
    obtain ⟨rfl, _⟩ := scal_resOk hr hR
    exact ⟨he, hF.os, hF.tape, hF.output, hF.size, fun k hk => hF.block k hk (by simp)⟩
  · simp [callFunc, hf, hname', hb] at h
end
end Go.Proofs.YtbmibaopkfenbaaDoor.M

/- A machine of values: cuts: code behind code, a state that is forgotten in part, a piece of a function's code. No condition. -/
namespace Go.Proofs.YtbmibaopkfenbaaDoor.M
open Go
set_option linter.unusedSimpArgs false
set_option linter.unusedVariables false

def contK (P : Program) (b : Code) (Q : X → St → Prop) (x : X) (s : St) : Prop :=
  match x with
  | .normal => WWE P b s Q .one .one
  | .exit i => Q (.exit i) s
  | .ret => Q .ret s
/-- A piece of code: true: behind, false: ahead (or within). -/
def subC : Option Code → List Bool → Option Code
  | some (.seq _ b), true :: r => subC (some b) r
  | some (.seq a _), false :: r => subC (some a) r
  | some (.block _ a), _ :: r => subC (some a) r
  | some (.loop a), _ :: r => subC (some a) r
  | some (.cond _ a _), false :: r => subC (some a) r
  | some (.cond _ _ b), true :: r => subC (some b) r
  | c, [] => c
  | _, _ => none
section
variable {P : Program} {τ : Tab} {md : Nat → Md} {own : Bool} {a b c : Code} {s : St} {Q : X → St → Prop}
theorem act_contK_normal : act (contK P b Q .normal s) = WWE P b s Q .one .one := (rfl)
theorem act_contK_exit {i : Nat} : act (contK P b Q (.exit i) s) = act (Q (.exit i) s) := (rfl)
theorem act_contK_ret : act (contK P b Q .ret s) = act (Q .ret s) := (rfl)
theorem CS_WW (hτ : TOk P τ) {f : FuncId} {fn : Func} {N : Nat} (hf : P.funcs[f]? = some fn) (hb : fn.body = some c) (hname : (fn.name == "runtime.NumGoroutine") = false) (hN : fn.ntmps = N) {rl : List ResultVar} (hrl : fn.results.toList = rl)
    {args : List AA} {rs : List T} {os : List (List BC)} (hlen : args.length ≤ N) (h : WWE P c (initS N args) (endK τ own rl args rs os) .one .one) : CS P own f args rs os := by
  subst hrl hN
  have e : (endK τ own fn.results.toList args rs os) = fun x s => x ≠ .exit 0 ∧ (match x with | .exit _ => False | _ => retK τ own fn args s fun rs' os' => rs' = rs ∧ os' = os) := by
    funext x s
    cases x <;> simp [endK, retE, retK]
  have h' : WW P c (initS fn.ntmps args) (endK τ own fn.results.toList args rs os) := h
  rw [e] at h'
  exact CS_of_WW hτ hf hb hname hlen h'
theorem WWE_of_act (hτ : TOk P τ) (md : Nat → Md) {x : Shut c} {y : Shut Q} (h : act (W P τ md c s Q)) : WWE P c s Q x y := W_sound hτ c s Q h
theorem WWE_seq (hτ : TOk P τ) (md : Nat → Md) {x : Shut (Code.seq a b)} {y : Shut Q} (h : act (W P τ md a s (contK P b Q))) : WWE P (.seq a b) s Q x y := fun Γ ac w μ R => by
  refine wp_seq (wp_mono (W_sound hτ a s _ h Γ ac w μ R) fun e a' w' ⟨x, s', μ', hx, hq, R'⟩ => ?_)
  cases x with
  | normal =>
    obtain rfl : e = .normal := by cases e <;> first | rfl | exact hx.elim
    exact hq Γ a' w' μ' R'
  | exit i =>
    obtain rfl : e = .exit i := by cases e <;> first | exact hx.elim | exact congrArg _ hx.symm
    exact ⟨_, s', μ', hx, hq, R'⟩
  | ret =>
    obtain rfl : e = .ret := by cases e <;> first | rfl | exact hx.elim
    exact ⟨_, s', μ', hx, hq, R'⟩
theorem WWE_cut {x : Shut c} {y : Shut Q} (ks hs : List Nat) (n : Nat) (S : St) (hsn : s.nx ≤ n) (h0 : tidyB hs n (tidy ks hs n s) = true) (h1 : tidy ks hs n s = S) (h : WWE P c S Q .one .one) : WWE P c s Q x y := fun Γ a w μ R => by
  have R0 := tidy_ok (n := n) R (fun i b hb => Nat.lt_of_lt_of_le (R.mem.pin i b hb).1 hsn) h0
  rw [h1] at R0
  have hn : S.nx = n := by rw [← h1]; rfl
  exact h Γ a w μ (by rw [hn]; exact R0)
end
attribute [go_sem] act_contK_normal act_contK_exit act_contK_ret
end Go.Proofs.YtbmibaopkfenbaaDoor.M

/- A machine of values: a list that is nil is told as a list of one's own without elements (so that a loop that appends to it has states of one shape). No condition. -/
namespace Go.Proofs.YtbmibaopkfenbaaDoor.M
open Go
set_option linter.unusedSimpArgs false
set_option linter.unusedVariables false
section
variable {P : Program} {c : Code} {s : St} {Q : X → St → Prop}
theorem own_new {al : Nat → Prop} {hp : List (Nat × Blk)} {S : Addr → Option Value} {μ : Nat → Option Pl} {K sz : Nat} {v : Value} (hal : al K) (hf : find hp K = some (.arr sz [] 0)) (hμ : μ K = none) (hv : v = .slice none 0 0) : COk al hp S μ (.own K 0 0 0) v := by
  subst hv
  refine ⟨⟨hal, Nat.zero_le _⟩, rfl, fun sz' es h => ?_⟩
  have : arrOf hp K 0 = some (sz, []) := by simp [arrOf, hf]
  rw [this] at h
  obtain ⟨rfl, rfl⟩ := Prod.mk.inj (Option.some.inj h)
  rw [hμ]
  exact ⟨Nat.le_refl _, rfl, rfl, none, rfl⟩
theorem WWE_nilslot {x : Shut c} {y : Shut Q} (t sz K : Nat) (hs : s.get t = .a (.c (.nil sz))) (hK : s.nx ≤ K) (h : WWE P c { s with tm := (t, .a (.c (.own K 0 0 0))) :: s.tm, hp := put s.hp K (.arr sz [] 0), nx := K + 1 } Q .one .one) : WWE P c s Q x y := fun Γ a w μ R => by
  obtain ⟨M, e⟩ := R.mem.new (Fr.refl [] w) (al' := (· < K + 1)) (fun i hi => by omega) (n := K) (by omega) (by omega) (.arr sz [] 0) none (by simp) rfl
  refine h Γ a w _ ⟨M, R.size, fun t' => ?_, R.defers⟩
  show AVOk _ _ _ _ ((find ((t, AV.a (.c (.own K 0 0 0))) :: s.tm) t').getD _) _
  simp only [find]
  by_cases ht : t = t'
  · subst ht
    rw [if_pos rfl]
    have := R.tmp t
    rw [hs] at this
    exact own_new (al := (· < K + 1)) (S := Sv Γ.G (put s.hp K (.arr sz [] 0)) (setμ μ K none) w) (K := K) (hp := put s.hp K (.arr sz [] 0)) (μ := setμ μ K none) (sz := sz) (Nat.lt_succ_self K) (by rw [find_put, if_pos rfl]) (by simp [setμ]) this
  · rw [if_neg ht]
    exact (R.tmp t').mono e
theorem nilbox_rel {Γ : Ctx} {a : Act} {w : World} {μ : Nat → Option Pl} (b j sz K : Nat) {cs : List C} (hb : find s.hp b = some (.box cs)) (hj : cs[j]? = some (.nil sz)) (hK : s.nx ≤ K) (R : Rel Γ (· < s.nx) s a w μ) :
    ∃ μ', Rel Γ (· < K + 1) { s with hp := put (put s.hp K (.arr sz [] 0)) b (.box (cs.set j (.own K 0 0 0))), nx := K + 1 } a w μ' := by
  obtain ⟨M, e⟩ := R.mem.new (Fr.refl [] w) (al' := (· < K + 1)) (fun i hi => by omega) (n := K) (by omega) (by omega) (.arr sz [] 0) none (by simp) rfl
  have hbK : K ≠ b := fun hh => by have := R.mem.used _ _ hb; omega
  have hb' : find (put s.hp K (.arr sz [] 0)) b = some (.box cs) := by rw [find_put, if_neg hbK]; exact hb
  have hB := M.blk _ _ hb'
  cases hp : setμ μ K none b with
  | none => rw [hp] at hB; exact hB.elim
  | some p =>
    rw [hp] at hB
    obtain ⟨h0, vs, hC, hc⟩ := hB
    have hw : ∀ w : World, w.setCells p.b 0 [] = w := fun w => rfl
    have hcs : CsOk (· < K + 1) (put s.hp K (.arr sz [] 0)) (Sv Γ.G (put s.hp K (.arr sz [] 0)) (setμ μ K none) w) (setμ μ K none) (cs.set j (.own K 0 0 0)) vs := by
      refine ⟨by rw [List.length_set]; exact hC.1, hC.2.1, fun i c' v hi hv => ?_⟩
      rw [List.getElem?_set] at hi
      by_cases hij : j = i
      · subst hij
        rw [if_pos rfl] at hi
        split at hi
        · obtain rfl := Option.some.inj hi
          exact own_new (al := (· < K + 1)) (S := Sv Γ.G (put s.hp K (.arr sz [] 0)) (setμ μ K none) w) (K := K) (hp := put s.hp K (.arr sz [] 0)) (μ := setμ μ K none) (sz := sz) (Nat.lt_succ_self K) (by rw [find_put, if_pos rfl]) (by simp [setμ]) (hC.2.2 _ _ _ hj hv)
        · cases hi
      · rw [if_neg hij] at hi
        exact hC.2.2 _ _ _ hi hv
    obtain ⟨M2, e2⟩ := M.write (al' := (· < K + 1)) (fun _ h => h) hb' rfl (b' := .box (cs.set j (.own K 0 0 0))) rfl hp 0 [] (by simp [verOf, find_put, hbK, hb]) (fun ver sz' es' _ hh => by simp [arrOf, find_put] at hh) (fun cs' _ => ⟨_, rfl⟩)
      ⟨h0, vs, hcs, fun i v hv => by rw [hw]; exact hc i v hv⟩
    rw [hw] at M2 e2
    exact ⟨_, M2, R.size, fun t => ((R.tmp t).mono e).mono e2, R.defers⟩
theorem WWE_nilbox {x : Shut c} {y : Shut Q} (b j sz K : Nat) {cs : List C} (hb : find s.hp b = some (.box cs)) (hj : cs[j]? = some (.nil sz)) (hK : s.nx ≤ K)
    (h : WWE P c { s with hp := put (put s.hp K (.arr sz [] 0)) b (.box (cs.set j (.own K 0 0 0))), nx := K + 1 } Q .one .one) : WWE P c s Q x y := fun Γ a w μ R => by
  obtain ⟨μ', R'⟩ := nilbox_rel b j sz K hb hj hK R
  exact h Γ a w μ' R'
end
attribute [go_sem] List.set_cons_zero List.set_cons_succ List.replicate_succ
end Go.Proofs.YtbmibaopkfenbaaDoor.M

/- A machine of values: a list of one's own is told under another number (so that a loop that puts a new list in the place of the old one has states of one shape). No condition. -/
namespace Go.Proofs.YtbmibaopkfenbaaDoor.M
open Go
set_option linter.unusedSimpArgs false
set_option linter.unusedVariables false
/-- The list N told as M, whose block is dead; t: the slot that holds it. -/
def ren (s : St) (t M N w v sz len : Nat) (es : List T) : St :=
  { s with tm := (t, .a (.c (.own M (v + 1) 0 len))) :: s.tm, hp := put (put s.hp M (.arr sz es (v + 1))) N (.froz 0 [] (w + 1)) }
theorem ren_ok {Γ : Ctx} {al : Nat → Prop} {s : St} {a : Act} {wo : World} {μ : Nat → Option Pl} (R : Rel Γ al s a wo μ) {t M N w v sz len : Nat} {es es0 : List T} {sz0 : Nat} (hMN : M ≠ N)
    (hs : s.get t = .a (.c (.own N w 0 len))) (hN : find s.hp N = some (.arr sz es w)) (hM : find s.hp M = some (.froz sz0 es0 v)) : ∃ μ', Rel Γ al (ren s t M N w v sz len es) a wo μ' := by
  have hfM : find (ren s t M N w v sz len es).hp M = some (.arr sz es (v + 1)) := by
    show find (put (put s.hp M _) N _) M = _
    rw [find_put, if_neg (Ne.symm hMN), find_put, if_pos rfl]
  have hfN : find (ren s t M N w v sz len es).hp N = some (.froz 0 [] (w + 1)) := by
    show find (put (put s.hp M _) N _) N = _
    rw [find_put, if_pos rfl]
  have hfo : ∀ i, i ≠ M → i ≠ N → find (ren s t M N w v sz len es).hp i = find s.hp i := fun i h1 h2 => by
    show find (put (put s.hp M _) N _) i = _
    rw [find_put, if_neg (Ne.symm h2), find_put, if_neg (Ne.symm h1)]
  generalize hhp : (ren s t M N w v sz len es).hp = hp2 at hfM hfN hfo
  obtain ⟨μ2, hμ⟩ : ∃ μ2 : Nat → Option Pl, μ2 = setμ (setμ μ M (μ N)) N none := ⟨_, rfl⟩
  have hμM : μ2 M = μ N := by rw [hμ]; simp [setμ, hMN]
  have hμN : μ2 N = none := by rw [hμ]; simp [setμ]
  have hμo : ∀ i, i ≠ M → i ≠ N → μ2 i = μ i := fun i h1 h2 => by rw [hμ]; simp [setμ, h1, h2]
  have hlM : ¬ live s.hp M := fun ⟨b, hb, hl⟩ => by rw [hM] at hb; obtain rfl := Option.some.inj hb; cases hl
  have hlN2 : ¬ live hp2 N := fun ⟨b, hb, hl⟩ => by rw [hfN] at hb; obtain rfl := Option.some.inj hb; cases hl
  have hlo : ∀ i, i ≠ M → i ≠ N → (live hp2 i ↔ live s.hp i) := fun i h1 h2 => by simp only [live, hfo i h1 h2]
  have hlN : live s.hp N := ⟨_, hN, rfl⟩
  have hlM2 : live hp2 M := ⟨_, hfM, rfl⟩
  have hS : Sv Γ.G hp2 μ2 wo = Sv Γ.G s.hp μ wo := by
    funext x
    have : (∃ i p, live hp2 i ∧ μ2 i = some p ∧ p.b = x.block) ↔ ∃ i p, live s.hp i ∧ μ i = some p ∧ p.b = x.block := by
      refine ⟨fun ⟨i, p, h1, h2, h3⟩ => ?_, fun ⟨i, p, h1, h2, h3⟩ => ?_⟩
      · by_cases hiM : i = M
        · subst hiM; exact ⟨N, p, hlN, by rw [← hμM]; exact h2, h3⟩
        · by_cases hiN : i = N
          · subst hiN; exact absurd h1 hlN2
          · exact ⟨i, p, (hlo i hiM hiN).1 h1, by rw [← hμo i hiM hiN]; exact h2, h3⟩
      · by_cases hiM : i = M
        · subst hiM; exact absurd h1 hlM
        · by_cases hiN : i = N
          · subst hiN; exact ⟨M, p, hlM2, by rw [hμM]; exact h2, h3⟩
          · exact ⟨i, p, (hlo i hiM hiN).2 h1, by rw [hμo i hiM hiN]; exact h2, h3⟩
    unfold Sv
    by_cases h : ∃ i p, live s.hp i ∧ μ i = some p ∧ p.b = x.block
    · rw [if_neg (fun hh => hh.2 (this.2 h)), if_neg (fun hh => hh.2 h)]
    · by_cases hg : Γ.G x.block
      · rw [if_pos ⟨hg, fun hh => h (this.1 hh)⟩, if_pos ⟨hg, h⟩]
      · rw [if_neg (fun hh => hg hh.1), if_neg (fun hh => hg hh.1)]
  have e : Ext al al s.hp hp2 (Sv Γ.G s.hp μ wo) (Sv Γ.G hp2 μ2 wo) μ μ2 := by
    refine ⟨fun _ h => h, fun x v hv => by rw [hS]; exact hv, fun i hi => ?_, fun i ver sz' es' hi hver h' => ?_, fun i cs' hi h' => ?_⟩
    · by_cases hiM : i = M
      · subst hiM; simp [verOf, hfM, hM]
      · by_cases hiN : i = N
        · subst hiN; simp [verOf, hfN, hN]
        · simp [verOf, hfo i hiM hiN]
    · by_cases hiM : i = M
      · subst hiM
        have h1 : verOf s.hp i = v := by simp [verOf, hM]
        have : (ver == v + 1) = false := by simp; omega
        simp [arrOf, hfM, this] at h'
      · by_cases hiN : i = N
        · subst hiN
          have h1 : verOf s.hp i = w := by simp [verOf, hN]
          have : (ver == w + 1) = false := by simp; omega
          simp [arrOf, hfN, this] at h'
        · refine ⟨es', by simpa only [arrOf, hfo i hiM hiN] using h', Nat.le_refl _, hμo i hiM hiN⟩
    · by_cases hiM : i = M
      · subst hiM; rw [hfM] at h'; cases h'
      · by_cases hiN : i = N
        · subst hiN; rw [hfN] at h'; cases h'
        · exact ⟨cs', by rw [← hfo i hiM hiN]; exact h', hμo i hiM hiN⟩
  have hM0 := R.mem
  have mem : Mem Γ al hp2 wo μ2 := by
    refine ⟨hM0.fr, hM0.gd, hM0.pin' e, fun i b hb => ?_, fun i p hi hp => ?_, fun i j p q hi hj hp hq hpq => ?_, fun i b hb => ?_⟩
    · by_cases hiM : i = M
      · subst hiM; exact hM0.used _ _ hM
      · by_cases hiN : i = N
        · subst hiN; exact hM0.used _ _ hN
        · rw [hfo i hiM hiN] at hb; exact hM0.used _ _ hb
    · by_cases hiM : i = M
      · subst hiM; exact hM0.mine N p hlN (by rw [← hμM]; exact hp)
      · by_cases hiN : i = N
        · subst hiN; exact absurd hi hlN2
        · exact hM0.mine i p ((hlo i hiM hiN).1 hi) (by rw [← hμo i hiM hiN]; exact hp)
    · have key : ∀ i p, live hp2 i → μ2 i = some p → ∃ i', live s.hp i' ∧ μ i' = some p ∧ ((i = M ∧ i' = N) ∨ (i ≠ M ∧ i' ≠ N ∧ i = i')) := fun i p hi hp => by
        by_cases hiM : i = M
        · exact ⟨N, hlN, by rw [← hμM, ← hiM]; exact hp, .inl ⟨hiM, rfl⟩⟩
        · by_cases hiN : i = N
          · subst hiN; exact absurd hi hlN2
          · exact ⟨i, (hlo i hiM hiN).1 hi, by rw [← hμo i hiM hiN]; exact hp, .inr ⟨hiM, hiN, rfl⟩⟩
      obtain ⟨i', a1, a2, a3⟩ := key i p hi hp
      obtain ⟨j', b1, b2, b3⟩ := key j q hj hq
      have hij := hM0.inj i' j' p q a1 b1 a2 b2 hpq
      rcases a3 with ⟨a3, a4⟩ | ⟨a3, a4, a5⟩ <;> rcases b3 with ⟨b3, b4⟩ | ⟨b3, b4, b5⟩
      · rw [a3, b3]
      · exact absurd (by rw [← hij, a4]) b4
      · exact absurd (by rw [hij, b4]) a4
      · rw [a5, b5, hij]
    · by_cases hiM : i = M
      · subst hiM
        rw [hfM] at hb
        obtain rfl := Option.some.inj hb
        rw [hμM]
        have hB := BlkOk.mono e (w' := wo) (fun _ _ _ _ => ⟨rfl, rfl⟩) (hM0.blk N _ hN)
        cases hp : μ N with
        | none => rw [hp] at hB; exact hB
        | some p => rw [hp] at hB; exact hB
      · by_cases hiN : i = N
        · subst hiN
          rw [hfN] at hb
          obtain rfl := Option.some.inj hb
          rw [hμN]; rfl
        · rw [hfo i hiM hiN] at hb
          rw [hμo i hiM hiN]
          exact BlkOk.mono e (fun _ _ _ _ => ⟨rfl, rfl⟩) (hM0.blk i b hb)
  refine ⟨μ2, by rw [hhp]; exact mem, R.size, fun t' => ?_, R.defers⟩
  rw [hhp]
  show AVOk _ _ _ _ ((find ((t, AV.a (.c (.own M (v + 1) 0 len))) :: s.tm) t').getD _) _
  simp only [find]
  by_cases ht : t = t'
  · subst ht
    rw [if_pos rfl]
    have h := R.tmp t
    rw [hs] at h
    have hA : arrOf s.hp N w = some (sz, es) := by simp [arrOf, hN]
    obtain ⟨g1, g2⟩ := h.2.2 _ _ hA
    refine ⟨⟨hM0.used _ _ hM, by simp [verOf, hfM]⟩, h.2.1, fun sz' es' hA' => ?_⟩
    have : arrOf hp2 M (v + 1) = some (sz, es) := by simp [arrOf, hfM]
    rw [this] at hA'
    obtain ⟨rfl, rfl⟩ := Prod.mk.inj (Option.some.inj hA')
    exact ⟨g1, by rw [hμM]; exact g2⟩
  · rw [if_neg ht]
    exact (R.tmp t').mono e
section
variable {ι : Type} {ks hs : List Nat} {n : Nat} {S : ι → St} {m : ι → Nat} {i : ι} {s : St}
theorem nextK_ren (j : ι) (t M N w v sz len : Nat) (es : List T) {sz0 : Nat} {es0 : List T} (hMN : (M == N) = false) (hs1 : s.get t = .a (.c (.own N w 0 len))) (hN : find s.hp N = some (.arr sz es w)) (hM : find s.hp M = some (.froz sz0 es0 v))
    (h1 : tidyB hs n (tidy ks hs n (ren s t M N w v sz len es)) = true) (h2 : tidy ks hs n (ren s t M N w v sz len es) = S j) (h3 : m j < m i) : nextK ks hs n S m i s :=
  ⟨j, h3, by rw [← h2]; rfl, fun Γ a w' μ R hpn => by
    obtain ⟨μ2, R2⟩ := ren_ok (M := M) (v := v) (es0 := es0) (sz0 := sz0) R (by simpa using hMN) hs1 hN hM
    exact (Reach.tidy (ks := ks) (hs := hs) h1 h2) Γ a w' μ2 R2 hpn⟩
end
attribute [go_sem] ren
end Go.Proofs.YtbmibaopkfenbaaDoor.M

/- A machine of values: trees whose lists all lie in blocks of their own. Definitions and first lemmas. No condition. -/
namespace Go.Proofs.YtbmibaopkfenbaaDoor.M
open Go
set_option linter.unusedSimpArgs false
set_option linter.unusedVariables false
set_option linter.unusedSectionVars false

/-- A value that holds a tree, each of whose lists lies in a block of its own; these blocks. -/
inductive DH (w : World) : T → Value → List Nat → Prop where
  | sc (x : T) (v : Value) (hx : x.scal = true) (h : Hold (fun _ => none) x v) : DH w x v []
  | nil (sz : Nat) (q : Option Addr) : DH w (.list sz []) (.slice q 0 0) []
  | list (sz : Nat) (es : List T) (b base cap room : Nat) (vs : List Value) (rs : List (List Nat)) (hcap : es.length ≤ cap) (hroom : cap * sz ≤ room) (hsz : ∀ e ∈ es, e.cells.length = sz) (hvr : vs.length ≤ room)
      (hv : ∀ (j : Nat) v, vs[j]? = some v → w.cell? ⟨b, base + j, none⟩ = some v)
      (hf : ∀ j, j < room → (w.cell? ⟨b, base + j, none⟩).isSome = true ∧ w.frozen? ⟨b, base + j, none⟩ = false)
      (hl : vs.length = (flat es).length) (hl2 : rs.length = (flat es).length)
      (hd : ∀ (j : Nat) t v r, (flat es)[j]? = some t → vs[j]? = some v → rs[j]? = some r → DH w t v r) : DH w (.list sz es) (.slice (some ⟨b, base, none⟩) es.length cap) (b :: rs.flatten)
def DHL (w : World) : List T → List Value → List Nat → Prop
  | [], vs, r => vs = [] ∧ r = []
  | x :: xs, vs, r => ∃ v vs' r1 r2, vs = v :: vs' ∧ r = r1 ++ r2 ∧ DH w x v r1 ∧ DHL w xs vs' r2
/-- Slices that hold trees. -/
abbrev De := List (Sl × T)
def DD (w : World) : De → List Nat → Prop
  | [], r => r = []
  | x :: d, r => ∃ r1 r2, r = r1 ++ r2 ∧ DH w x.2 x.1.v r1 ∧ DD w d r2
/-- A whole value. -/
def DA (w : World) (x : T) (v : Value) (r : List Nat) : Prop :=
  match x with
  | .agg cs => ∃ vs : List Value, v = .agg vs.toArray ∧ DHL w cs vs r
  | x => DH w x v r
def DAL (w : World) : List T → List Value → List Nat → Prop
  | [], vs, r => vs = [] ∧ r = []
  | x :: xs, vs, r => ∃ v vs' r1 r2, vs = v :: vs' ∧ r = r1 ++ r2 ∧ DA w x v r1 ∧ DAL w xs vs' r2
def DRes (w : World) (rs : List T) (v : Value) (r : List Nat) : Prop :=
  match rs with
  | [x] => DA w x v r
  | rs => ∃ vs : List Value, v = .tuple vs.toArray ∧ DAL w rs vs r

section
variable {w w' : World} {bs : List Nat} {G : Nat → Prop}
theorem DH.one {x : T} {v : Value} {r : List Nat} (h : DH w x v r) : v.oneCell' = true := by
  cases h with
  | sc _ _ hx h => cases h <;> first | rfl | (simp [T.scal] at hx; done)
  | nil => rfl
  | list => rfl
theorem DHL_of : ∀ {ts : List T} {vs : List Value} {rs : List (List Nat)}, vs.length = ts.length → rs.length = ts.length → (∀ (j : Nat) t v r, ts[j]? = some t → vs[j]? = some v → rs[j]? = some r → DH w t v r) → DHL w ts vs rs.flatten
  | [], [], [], _, _, _ => ⟨rfl, rfl⟩
  | t :: ts, v :: vs, r :: rs, h1, h2, h => ⟨v, vs, r, rs.flatten, rfl, rfl, h 0 t v r rfl rfl rfl, DHL_of (by simpa using h1) (by simpa using h2) fun j t v r a b c => h (j + 1) t v r (by simpa using a) (by simpa using b) (by simpa using c)⟩
theorem DHL.rs : ∀ {ts : List T} {vs : List Value} {r : List Nat}, DHL w ts vs r → ∃ rs : List (List Nat), r = rs.flatten ∧ vs.length = ts.length ∧ rs.length = ts.length ∧ ∀ (j : Nat) t v r, ts[j]? = some t → vs[j]? = some v → rs[j]? = some r → DH w t v r
  | [], _, _, ⟨rfl, rfl⟩ => ⟨[], rfl, rfl, rfl, by simp⟩
  | t :: ts, _, _, ⟨v, vs, r1, r2, rfl, rfl, h1, h2⟩ => by
    obtain ⟨rs, rfl, g1, g2, g3⟩ := DHL.rs h2
    refine ⟨r1 :: rs, rfl, by simp [g1], by simp [g2], fun j t v r a b c => ?_⟩
    cases j with
    | zero => simp at a b c; subst a b c; exact h1
    | succ j => exact g3 j t v r (by simpa using a) (by simpa using b) (by simpa using c)
theorem mem_flat {rs : List (List Nat)} {j : Nat} {r : List Nat} {b : Nat} (h : rs[j]? = some r) (hb : b ∈ r) : b ∈ rs.flatten := List.mem_flatten.2 ⟨r, List.mem_of_getElem? h, hb⟩
theorem DH.frame (hf : Fr bs w w') {x : T} {v : Value} {r : List Nat} (h : DH w x v r) (hb : ∀ b ∈ r, b < w.heap.size ∧ b ∉ bs) : DH w' x v r := by
  induction h with
  | sc x v hx h => exact .sc x v hx h
  | nil sz q => exact .nil sz q
  | list sz es b base cap room vs rs hcap hroom hsz hvr hv hfz hl hl2 hd ih =>
    have h0 := hb b (by simp)
    have hc : ∀ j, w'.cell? ⟨b, base + j, none⟩ = w.cell? ⟨b, base + j, none⟩ := fun j => hf.cell h0.1 h0.2
    refine .list sz es b base cap room vs rs hcap hroom hsz hvr (fun j v h => by rw [hc]; exact hv j v h) (fun j hj => ?_) hl hl2 fun j t v r a b c => ih j t v r a b c fun k hk => hb k (by simp only [List.mem_cons]; exact .inr (mem_flat c hk))
    rw [hc, hf.frozen h0.1 h0.2]
    exact hfz j hj
theorem DHL.frame (hf : Fr bs w w') : ∀ {ts : List T} {vs : List Value} {r : List Nat}, DHL w ts vs r → (∀ b ∈ r, b < w.heap.size ∧ b ∉ bs) → DHL w' ts vs r
  | [], _, _, h, _ => h
  | t :: ts, _, _, ⟨v, vs, r1, r2, rfl, rfl, h1, h2⟩, hb => ⟨v, vs, r1, r2, rfl, rfl, h1.frame hf fun b h => hb b (by simp [h]), DHL.frame hf h2 fun b h => hb b (by simp [h])⟩
theorem DD.frame (hf : Fr bs w w') : ∀ {d : De} {r : List Nat}, DD w d r → (∀ b ∈ r, b < w.heap.size ∧ b ∉ bs) → DD w' d r
  | [], _, h, _ => h
  | x :: d, _, ⟨r1, r2, rfl, h1, h2⟩, hb => ⟨r1, r2, rfl, h1.frame hf fun b h => hb b (by simp [h]), DD.frame hf h2 fun b h => hb b (by simp [h])⟩
theorem DH.hold {x : T} {v : Value} {r : List Nat} (h : DH w x v r) (hG : ∀ b ∈ r, G b) : Hold (inV G w) x v := by
  induction h with
  | sc x v hx h => exact h.scal hx
  | nil sz q =>
    cases q with
    | none => exact .nil sz
    | some a => exact .list sz [] a 0 0 [] rfl (Nat.le_refl _) (by simp) rfl (by simp) (by simp) (by simp)
  | list sz es b base cap room vs rs hcap hroom hsz hvr hv hfz hl hl2 hd ih =>
    have hr : ∀ j, j < (flat es).length → ∃ r, rs[j]? = some r := fun j hj => ⟨_, List.getElem?_eq_getElem (by omega)⟩
    refine .list sz es _ _ cap vs rfl hcap hsz hl (fun j v h => ?_) (fun v hv => ?_) fun j t v a b => ?_
    · rw [add_mk, inV_some]; exact ⟨hG b (by simp), hv j v h⟩
    · obtain ⟨j, hj⟩ := List.getElem?_of_mem hv
      have hj' : j < (flat es).length := by rw [← hl]; exact (List.getElem?_eq_some_iff.1 hj).1
      obtain ⟨r, hr⟩ := hr j hj'
      exact (hd j _ v r (List.getElem?_eq_getElem hj') hj hr).one
    · obtain ⟨r, hr⟩ := hr j (List.getElem?_eq_some_iff.1 a).1
      exact ih j t v r a b hr fun k hk => hG k (by simp only [List.mem_cons]; exact .inr (mem_flat hr hk))
theorem DD.app : ∀ {d e : De} {r : List Nat}, DD w (d ++ e) r → ∃ r1 r2, r = r1 ++ r2 ∧ DD w d r1 ∧ DD w e r2
  | [], e, r, h => ⟨[], r, rfl, rfl, h⟩
  | x :: d, e, _, ⟨r1, r2, rfl, h1, h2⟩ => by
    obtain ⟨r3, r4, rfl, g1, g2⟩ := DD.app h2
    exact ⟨r1 ++ r3, r4, by simp, ⟨r1, r3, rfl, h1, g1⟩, g2⟩
theorem DD.join : ∀ {d e : De} {r1 r2 : List Nat}, DD w d r1 → DD w e r2 → DD w (d ++ e) (r1 ++ r2)
  | [], e, r1, r2, h1, h2 => by obtain rfl := h1; exact h2
  | x :: d, e, _, r2, ⟨r3, r4, rfl, g1, g2⟩, h2 => ⟨r3, r4 ++ r2, by simp, g1, DD.join g2 h2⟩
theorem DD.perm {d e : De} (p : d.Perm e) : ∀ {r : List Nat}, DD w d r → ∃ r', r.Perm r' ∧ DD w e r' := by
  induction p with
  | nil => exact fun h => ⟨_, .refl _, h⟩
  | cons x _ ih =>
    rintro _ ⟨r1, r2, rfl, h1, h2⟩
    obtain ⟨r', g1, g2⟩ := ih h2
    exact ⟨r1 ++ r', g1.append_left _, r1, r', rfl, h1, g2⟩
  | swap x y d =>
    rintro _ ⟨r1, _, rfl, h1, r2, r3, rfl, h2, h3⟩
    refine ⟨r2 ++ (r1 ++ r3), ?_, r2, _, rfl, h2, r1, r3, rfl, h1, h3⟩
    rw [← List.append_assoc, ← List.append_assoc]
    exact List.perm_append_comm.append_right _
  | trans _ _ ih1 ih2 =>
    intro r h
    obtain ⟨r1, g1, g2⟩ := ih1 h
    obtain ⟨r2, g3, g4⟩ := ih2 g2
    exact ⟨r2, g1.trans g3, g4⟩
theorem DD.mem : ∀ {d : De} {r : List Nat}, DD w d r → ∀ x ∈ d, ∃ r1, DH w x.2 x.1.v r1 ∧ ∀ b ∈ r1, b ∈ r
  | y :: d, _, ⟨r1, r2, rfl, h1, h2⟩, x, hx => by
    rcases List.mem_cons.1 hx with rfl | hx
    · exact ⟨r1, h1, fun b h => by simp [h]⟩
    · obtain ⟨r3, g1, g2⟩ := DD.mem h2 x hx
      exact ⟨r3, g1, fun b h => by simp [g2 b h]⟩

/-! ### Results: slices told as what they hold -/
def RC (x t : T) (d : De) : Prop :=
  match x with
  | .raw y => d = [(y, t)]
  | x => t = x ∧ x.scal = true ∧ d = []
def RCL : List T → List T → De → Prop
  | [], ts, d => ts = [] ∧ d = []
  | x :: xs, ts, d => ∃ t ts' d1 d2, ts = t :: ts' ∧ d = d1 ++ d2 ∧ RC x t d1 ∧ RCL xs ts' d2
def RT (x t : T) (d : De) : Prop :=
  match x with
  | .list sz es => ∃ es', t = .list sz es' ∧ es'.length = es.length ∧ (∀ e ∈ es', e.cells.length = sz) ∧ RCL (flat es) (flat es') d
  | x => RC x t d
def RTL : List T → List T → De → Prop
  | [], ts, d => ts = [] ∧ d = []
  | x :: xs, ts, d => ∃ t ts' d1 d2, ts = t :: ts' ∧ d = d1 ++ d2 ∧ RT x t d1 ∧ RTL xs ts' d2
def RA (x t : T) (d : De) : Prop :=
  match x with
  | .agg cs => ∃ cs', t = .agg cs' ∧ RTL cs cs' d
  | x => RT x t d
def RAL : List T → List T → De → Prop
  | [], ts, d => ts = [] ∧ d = []
  | x :: xs, ts, d => ∃ t ts' d1 d2, ts = t :: ts' ∧ d = d1 ++ d2 ∧ RA x t d1 ∧ RAL xs ts' d2
variable {S : Addr → Option Value}
theorem RC_deep {x t : T} {d : De} {v : Value} {r : List Nat} (hH : Hold S x v) (h : RC x t d) (hd : DD w d r) : DH w t v r := by
  unfold RC at h
  split at h
  · rename_i y
    subst h
    obtain ⟨r1, _, rfl, h1, rfl⟩ := hd
    cases hH
    simpa using h1
  · obtain ⟨rfl, hs, rfl⟩ := h
    obtain rfl := hd
    exact .sc _ _ hs (hH.scal hs)
theorem RCL_deep : ∀ {xs ts : List T} {d : De} {vs : List Value} {r : List Nat}, HoldL S xs vs → RCL xs ts d → DD w d r → DHL w ts vs r
  | [], _, _, vs, r, hH, ⟨rfl, rfl⟩, hd => by
    obtain rfl : vs = [] := List.eq_nil_of_length_eq_zero hH.1
    exact ⟨rfl, hd⟩
  | x :: xs, _, _, [], r, hH, ⟨t, ts, d1, d2, rfl, rfl, h1, h2⟩, hd => by simp [HoldL] at hH
  | x :: xs, _, _, v :: vs, r, hH, ⟨t, ts, d1, d2, rfl, rfl, h1, h2⟩, hd => by
    obtain ⟨r1, r2, rfl, g1, g2⟩ := hd.app
    exact ⟨v, vs, r1, r2, rfl, rfl, RC_deep (hH.2.2 0 x v rfl rfl) h1 g1, RCL_deep ⟨by simpa using hH.1, fun u hu => hH.2.1 u (by simp [hu]), fun j t v a b => hH.2.2 (j + 1) t v (by simpa using a) (by simpa using b)⟩ h2 g2⟩
theorem perm4 {a b c d e f : List Nat} (h1 : e.Perm (a ++ c)) (h2 : f.Perm (b ++ d)) : (e ++ f).Perm ((a ++ b) ++ (c ++ d)) := by
  refine (h1.append h2).trans ?_
  rw [List.append_assoc, List.append_assoc]
  refine List.Perm.append_left _ ?_
  rw [← List.append_assoc, ← List.append_assoc]
  exact List.perm_append_comm.append_right _
theorem RT_deep {x t : T} {d : De} {v : Value} {r1 r2 : List Nat} (hH : ResC true S w x v r1) (h : RT x t d) (hd : DD w d r2) : ∃ r, r.Perm (r1 ++ r2) ∧ DH w t v r := by
  unfold RT at h
  split at h
  · rename_i sz es
    obtain ⟨es', rfl, hl, hsz, h⟩ := h
    have hH : BCOk S w (.arr sz es) v r1 := hH
    rcases hH with ⟨rfl, rfl, q, rfl⟩ | ⟨b, base, room, cap, rfl, rfl, h1, h2, _, vs, g1, g2, g3, g4, g5⟩
    · obtain rfl : es' = [] := List.eq_nil_of_length_eq_zero hl
      obtain ⟨_, rfl⟩ := h
      obtain rfl := hd
      exact ⟨[], .refl _, .nil sz q⟩
    · obtain ⟨rs, rfl, k1, k2, k3⟩ := (RCL_deep g1 h hd).rs
      refine ⟨b :: rs.flatten, .refl _, ?_⟩
      rw [← hl]
      exact .list sz es' b base cap room vs rs (by omega) h2 hsz g4 g2 g5 k1 k2 k3
  · rename_i hno
    have hH2 : r1 = [] ∧ Hold S x v := by
      cases x <;> first | exact hH | exact (hno _ _ rfl).elim
    obtain ⟨h0, h3⟩ := hH2
    subst h0
    exact ⟨r2, .refl _, RC_deep h3 h hd⟩
theorem RTL_deep : ∀ {xs ts : List T} {d : De} {vs : List Value} {r1 r2 : List Nat}, ResCs true S w xs vs r1 → RTL xs ts d → DD w d r2 → ∃ r, r.Perm (r1 ++ r2) ∧ DHL w ts vs r
  | [], ts, d, vs, r1, r2, hH, h, hd => by
    obtain ⟨h1, h2⟩ := hH
    obtain ⟨h3, h4⟩ := h
    subst h1 h2 h3 h4
    obtain rfl := hd
    exact ⟨[], .refl _, rfl, rfl⟩
  | x :: xs, _, _, _, _, r, ⟨v, vs, a1, a2, rfl, rfl, h3, _, h4⟩, ⟨t, ts, d1, d2, rfl, rfl, h1, h2⟩, hd => by
    obtain ⟨b1, b2, rfl, g1, g2⟩ := hd.app
    obtain ⟨c1, p1, q1⟩ := RT_deep h3 h1 g1
    obtain ⟨c2, p2, q2⟩ := RTL_deep h4 h2 g2
    exact ⟨c1 ++ c2, perm4 p1 p2, v, vs, c1, c2, rfl, rfl, q1, q2⟩
theorem resA_C {x : T} {v : Value} {r1 : List Nat} (h1 : ∀ cs, x ≠ .agg cs) (h2 : ∀ cs, x ≠ .bx cs) (h : ResA true S w x v r1) : ResC true S w x v r1 := by
  cases x <;> first | exact h | exact (h1 _ rfl).elim | exact (h2 _ rfl).elim
theorem RA_deep {x t : T} {d : De} {v : Value} {r1 r2 : List Nat} (hH : ResA true S w x v r1) (h : RA x t d) (hd : DD w d r2) : ∃ r, r.Perm (r1 ++ r2) ∧ DA w t v r := by
  unfold RA at h
  split at h
  · obtain ⟨cs', rfl, h⟩ := h
    obtain ⟨vs, rfl, hH⟩ := hH
    obtain ⟨r, p, q⟩ := RTL_deep hH h hd
    exact ⟨r, p, vs, rfl, q⟩
  · rename_i hno
    cases x with
    | agg cs => exact (hno _ rfl).elim
    | bx cs => exact absurd h.2.1 (by simp [T.scal])
    | _ =>
      obtain ⟨r, p, q⟩ := RT_deep (resA_C (by simp) (by simp) hH) h hd
      refine ⟨r, p, ?_⟩
      unfold DA
      cases t with
      | agg cs => cases q with
        | sc _ _ hx _ => simp [T.scal] at hx
      | _ => exact q
theorem RAL_deep : ∀ {xs ts : List T} {d : De} {vs : List Value} {r1 r2 : List Nat}, ResL true S w xs vs r1 → RAL xs ts d → DD w d r2 → ∃ r, r.Perm (r1 ++ r2) ∧ DAL w ts vs r
  | [], ts, d, vs, r1, r2, hH, h, hd => by
    obtain ⟨h1, h2⟩ := hH
    obtain ⟨h3, h4⟩ := h
    subst h1 h2 h3 h4
    obtain rfl := hd
    exact ⟨[], .refl _, rfl, rfl⟩
  | x :: xs, _, _, _, _, r, ⟨v, vs, a1, a2, rfl, rfl, h3, h4⟩, ⟨t, ts, d1, d2, rfl, rfl, h1, h2⟩, hd => by
    obtain ⟨b1, b2, rfl, g1, g2⟩ := hd.app
    obtain ⟨c1, p1, q1⟩ := RA_deep h3 h1 g1
    obtain ⟨c2, p2, q2⟩ := RAL_deep h4 h2 g2
    exact ⟨c1 ++ c2, perm4 p1 p2, v, vs, c1, c2, rfl, rfl, q1, q2⟩
theorem Res_deep {xs ts : List T} {d : De} {v : Value} {r1 r2 : List Nat} (hH : ResOk true S w xs v r1) (h : RAL xs ts d) (hd : DD w d r2) : ∃ r, r.Perm (r1 ++ r2) ∧ DRes w ts v r := by
  unfold ResOk at hH
  split at hH
  · rename_i x
    obtain ⟨t, ts', d1, d2, rfl, rfl, h1, h2⟩ := h
    obtain ⟨rfl, rfl⟩ := h2
    exact RA_deep hH (by simpa using h1) hd
  · rename_i hne
    obtain ⟨vs, rfl, hH⟩ := hH
    obtain ⟨r, p, q⟩ := RAL_deep hH h hd
    refine ⟨r, p, ?_⟩
    unfold DRes
    split
    · rename_i x
      exfalso
      match xs, h with
      | [], h => obtain ⟨h, _⟩ := h; cases h
      | [y], _ => exact hne y rfl
      | _ :: _ :: _, ⟨_, _, _, _, e, _, _, h2⟩ =>
        obtain ⟨_, _, _, _, e2, _⟩ := h2
        rw [e2] at e; cases e
    · exact ⟨vs, rfl, q⟩
end
end Go.Proofs.YtbmibaopkfenbaaDoor.M

/- A machine of values: deep trees beside the machine: what a call has of them, and how it goes over. No condition. -/
namespace Go.Proofs.YtbmibaopkfenbaaDoor.M
open Go
set_option linter.unusedSimpArgs false
set_option linter.unusedVariables false
set_option linter.unusedSectionVars false

/-- How what a call was handed stands to what it has now: the deep trees that are its own, in blocks that no view lies in. -/
structure DInv (Γ0 Γ : Ctx) (d : De) (r : List Nat) : Prop where
  pin : Γ.pin = Γ0.pin
  fr : Fr Γ0.bs0 Γ0.w0 Γ.w0
  own : ∀ b ∈ Γ.bs0, b ∈ Γ0.bs0 ∨ Γ0.w0.heap.size ≤ b
  G : ∀ b, Γ.G b → Γ0.G b
  g0 : ∀ b, Γ0.w0.heap.size ≤ b → Γ0.G b
  dd : DD Γ.w0 d r
  nd : r.Nodup
  out : ∀ b ∈ r, b < Γ.w0.heap.size ∧ b ∉ Γ.bs0 ∧ ¬ Γ.G b ∧ (b ∈ Γ0.bs0 ∨ Γ0.w0.heap.size ≤ b)
  gb : ∀ b ∈ Γ0.bs0, Γ0.G b
def RelD (Γ0 : Ctx) (al : Nat → Prop) (s : St) (d : De) (a : Act) (w : World) : Prop := ∃ Γ r μ, Rel Γ al s a w μ ∧ DInv Γ0 Γ d r

theorem find_mem {α : Type} : ∀ {l : List (Nat × α)} {i : Nat} {v : α}, find l i = some v → (i, v) ∈ l
  | (k, x) :: r, i, v, h => by
    simp only [find] at h
    split at h
    · rename_i hk; subst hk; obtain rfl := Option.some.inj h; simp
    · exact List.mem_cons_of_mem _ (find_mem h)
open Classical in
theorem liveL (hp : List (Nat × Blk)) (μ : Nat → Option Pl) : ∃ L : List Nat, ∀ b, b ∈ L ↔ ∃ i p, live hp i ∧ μ i = some p ∧ p.b = b := by
  refine ⟨(hp.map (·.1)).filterMap fun i => if live hp i then bOf μ i else none, fun b => ?_⟩
  simp only [List.mem_filterMap]
  constructor
  · rintro ⟨i, _, h⟩
    split at h
    · rename_i hl
      simp only [bOf, Option.map_eq_some_iff] at h
      obtain ⟨p, h1, h2⟩ := h
      exact ⟨i, p, hl, h1, h2⟩
    · cases h
  · rintro ⟨i, p, hl, h1, h2⟩
    obtain ⟨bk, h3, h4⟩ := hl
    exact ⟨i, List.mem_map.2 ⟨(i, bk), find_mem h3, rfl⟩, by rw [if_pos ⟨bk, h3, h4⟩]; simp [bOf, h1, h2]⟩

section
variable {P : Program} {τ : Tab} {md : Nat → Md} {Γ0 Γ : Ctx} {al : Nat → Prop} {s : St} {a : Act} {w w' : World} {μ : Nat → Option Pl} {d dl dr : De} {r : List Nat}
/-- What comes behind a call that has been handed some of the deep trees. -/
theorem RelD.turn (R : Rel Γ al s a w μ) (D : DInv Γ0 Γ d r) (hp : d.Perm (dl ++ dr)) : ∃ rl rr, (rl ++ rr).Nodup ∧ (∀ b ∈ rl, b < w.heap.size ∧ ¬ Γ.G b) ∧ (∀ b ∈ rr, b < w.heap.size) ∧ DD w dl rl ∧ DD w dr rr ∧
    ∀ (w' : World) (dn : De) (rn : List Nat), Fr rl w w' → DD w' dn rn → rn.Nodup → (∀ b ∈ rn, b < w'.heap.size ∧ (b ∈ rl ∨ w.heap.size ≤ b)) →
      ∃ Γ', Rel Γ' al s a w' μ ∧ DInv Γ0 Γ' (dn ++ dr) (rn ++ rr) ∧ ∀ x v, Sv Γ.G s.hp μ w x = some v → Sv Γ'.G s.hp μ w' x = some v := by
  have hdw : DD w d r := D.dd.frame R.mem.fr fun b hb => ⟨(D.out b hb).1, (D.out b hb).2.1⟩
  obtain ⟨r', hr', hd'⟩ := hdw.perm hp
  obtain ⟨rl, rr, rfl, h1, h2⟩ := hd'.app
  have hnd : (rl ++ rr).Nodup := hr'.nodup_iff.1 D.nd
  have hout : ∀ b ∈ rl ++ rr, b < Γ.w0.heap.size ∧ b ∉ Γ.bs0 ∧ ¬ Γ.G b ∧ (b ∈ Γ0.bs0 ∨ Γ0.w0.heap.size ≤ b) := fun b hb => D.out b (hr'.mem_iff.2 hb)
  have hsz : Γ.w0.heap.size ≤ w.heap.size := R.mem.fr.size
  refine ⟨rl, rr, hnd, fun b hb => ⟨Nat.lt_of_lt_of_le (hout b (by simp [hb])).1 hsz, (hout b (by simp [hb])).2.2.1⟩, fun b hb => Nat.lt_of_lt_of_le (hout b (by simp [hb])).1 hsz, h1, h2, fun w' dn rn hf hdn hnn hn => ?_⟩
  obtain ⟨L, hL⟩ := liveL s.hp μ
  have hlive : ∀ i p, live s.hp i → μ i = some p → p.b < w.heap.size ∧ Γ.G p.b ∧ p.b ∉ rl := fun i p hi hm => by
    obtain ⟨g1, g2⟩ := R.mem.mine i p hi hm
    have g3 := R.mem.gd _ g2
    exact ⟨g1, g3, fun hb => (hout _ (by simp [hb])).2.2.1 g3⟩
  have hS : ∀ x v, Sv Γ.G s.hp μ w x = some v → Sv (fun b => (Γ.G b ∧ b < w.heap.size) ∨ w'.heap.size ≤ b) s.hp μ w' x = some v := fun x v hv => by
    rw [Sv_some] at hv ⊢
    have hlt := World.block_lt_of_cell? _ _ hv.2
    exact ⟨⟨.inl ⟨hv.1.1, hlt⟩, hv.1.2⟩, by rw [hf.cell hlt (fun hb => (hout _ (by simp [hb])).2.2.1 hv.1.1)]; exact hv.2⟩
  have e : Ext al al s.hp s.hp (Sv Γ.G s.hp μ w) (Sv (fun b => (Γ.G b ∧ b < w.heap.size) ∨ w'.heap.size ≤ b) s.hp μ w') μ μ :=
    ⟨fun _ h => h, hS, fun _ _ => Nat.le_refl _, fun i ver sz es' _ _ h => ⟨es', h, Nat.le_refl _, rfl⟩, fun i cs' _ h => ⟨cs', h, rfl⟩⟩
  have hgi : GInv w' ∧ ∀ b, GB b → ((Γ.G b ∧ b < w.heap.size) ∨ w'.heap.size ≤ b) ∧ b ∉ L := ⟨R.mem.ginv.stay fun b hb => hf.block b (R.mem.gb hb).2.1 fun h => (hout b (by simp [h])).2.2.1 (R.mem.gb hb).1, fun b hb => ⟨.inl ⟨(R.mem.gb hb).1, (R.mem.gb hb).2.1⟩, fun h => by
    obtain ⟨i, p, g1, g2, g3⟩ := (hL b).1 h
    exact (R.mem.gb hb).2.2 i p g1 g2 g3⟩⟩
  refine ⟨⟨fun b => (Γ.G b ∧ b < w.heap.size) ∨ w'.heap.size ≤ b, w', L, Γ.pin, hgi⟩, ⟨⟨Fr.refl _ _, fun b hb => ?_, R.mem.pin, R.mem.used, fun i p hi hm => ?_, R.mem.inj, fun i b hb => ?_⟩, R.size, fun t => (R.tmp t).mono e, R.defers⟩, ⟨D.pin, ?_, fun b hb => ?_, fun b hb => ?_, D.g0, hdn.join (h2.frame hf fun b hb => ?_), ?_, fun b hb => ?_, D.gb⟩, hS⟩
  · rcases hb with hb | hb
    · obtain ⟨i, p, g1, g2, g3⟩ := (hL b).1 hb
      obtain ⟨k1, k2, _⟩ := hlive i p g1 g2
      subst g3; exact .inl ⟨k2, k1⟩
    · exact .inr hb
  · exact ⟨Nat.lt_of_lt_of_le (hlive i p hi hm).1 hf.size, .inl ((hL _).2 ⟨i, p, hi, hm, rfl⟩)⟩
  · refine BlkOk.mono e (fun hl p hm j => ?_) (R.mem.blk i b hb)
    obtain ⟨k1, _, k3⟩ := hlive i p ⟨b, hb, hl⟩ hm
    exact ⟨hf.cell k1 k3, hf.frozen k1 k3⟩
  · refine (D.fr.trans R.mem.fr fun k hk hlt => ?_).trans hf fun k hk hlt => ?_
    · rcases D.own k hk with h | h
      · exact h
      · omega
    · rcases (hout k (by simp [hk])).2.2.2 with h | h
      · exact h
      · omega
  · obtain ⟨i, p, g1, g2, g3⟩ := (hL b).1 hb
    subst g3
    rcases (R.mem.mine i p g1 g2).2 with h | h
    · exact D.own _ h
    · exact .inr (Nat.le_trans D.fr.size h)
  · rcases hb with hb | hb
    · exact D.G b hb.1
    · exact D.g0 b (Nat.le_trans D.fr.size (Nat.le_trans hsz (Nat.le_trans hf.size hb)))
  · exact ⟨Nat.lt_of_lt_of_le (hout b (by simp [hb])).1 hsz, fun h => (List.nodup_append.1 hnd).2.2 b h b hb rfl⟩
  · refine List.nodup_append.2 ⟨hnn, (List.nodup_append.1 hnd).2.1, fun x hx y hy hxy => ?_⟩
    subst hxy
    rcases (hn x hx).2 with h | h
    · exact (List.nodup_append.1 hnd).2.2 x h x hy rfl
    · have := (hout x (by simp [hy])).1; omega
  · rcases List.mem_append.1 hb with hb | hb
    · obtain ⟨k1, k2⟩ := hn b hb
      have hG : ¬ (Γ.G b ∧ b < w.heap.size) := fun ⟨h3, h4⟩ => by
        rcases k2 with h | h
        · exact (hout b (by simp [h])).2.2.1 h3
        · omega
      refine ⟨k1, fun h => ?_, fun h => ?_, ?_⟩
      · obtain ⟨i, p, g1, g2, g3⟩ := (hL b).1 h
        obtain ⟨q1, q2, _⟩ := hlive i p g1 g2
        subst g3; exact hG ⟨q2, q1⟩
      · rcases h with h | h
        · exact hG h
        · omega
      · rcases k2 with h | h
        · exact (hout b (by simp [h])).2.2.2
        · exact .inr (Nat.le_trans D.fr.size (Nat.le_trans hsz h))
    · obtain ⟨q1, q2, q3, q4⟩ := hout b (by simp [hb])
      have hlt : b < w'.heap.size := Nat.lt_of_lt_of_le (Nat.lt_of_lt_of_le q1 hsz) hf.size
      refine ⟨hlt, fun h => ?_, fun h => ?_, q4⟩
      · obtain ⟨i, p, g1, g2, g3⟩ := (hL b).1 h
        subst g3; exact q3 (hlive i p g1 g2).2.1
      · rcases h with h | h
        · exact q3 h.1
        · omega
/-- Some of the deep trees may be forgotten. -/
theorem RelD.weak (h : RelD Γ0 al s d a w) (hp : d.Perm (dl ++ dr)) : RelD Γ0 al s dl a w := by
  obtain ⟨Γ, r, μ, R, D⟩ := h
  obtain ⟨r', hr', hd'⟩ := D.dd.perm hp
  obtain ⟨rl, rr, rfl, h1, h2⟩ := hd'.app
  exact ⟨Γ, rl, μ, R, ⟨D.pin, D.fr, D.own, D.G, D.g0, h1, (List.nodup_append.1 (hr'.nodup_iff.1 D.nd)).1, fun b hb => D.out b (hr'.mem_iff.2 (by simp [hb])), D.gb⟩⟩
end
end Go.Proofs.YtbmibaopkfenbaaDoor.M
