/- A machine of values: a call does on the machine what is told of it. No condition. -/
import Derived.Test.YtbmdncjnnlajnaaM19
namespace Go.Proofs.Ytbmdncjnnlajnaa.M
open Go
set_option linter.unusedSimpArgs false
set_option linter.unusedVariables false
set_option linter.unusedSectionVars false

section
variable {P : Program} {τ : Tab} {Γ : Ctx} {al al' al'' : Nat → Prop} {s : St} {a : Act} {w w' : World} {μ μ' μ'' : Nat → Option Pl} {n : Nat} {K : AV → List (Nat × Blk) → Prop} {next : Act → World → Prop}
variable {o : Oper} {Q : Exit → Act → World → Prop} {md : Nat → Bool} {hp hp' hp'' : List (Nat × Blk)} {S S0 S' S'' : Addr → Option Value}

theorem nodup_of_B : ∀ {l : List Nat}, nodupB l = true → l.Nodup
  | [], _ => List.nodup_nil
  | x :: r, h => by
    simp only [nodupB, Bool.and_eq_true, Bool.not_eq_true', List.contains_eq_mem, decide_eq_false_iff_not] at h
    exact List.nodup_cons.2 ⟨h.1, nodup_of_B h.2⟩

theorem bOf_nodup (M : Mem Γ al hp w μ) : ∀ {is : List Nat}, is.Nodup → (∀ i ∈ is, live hp i) → (is.filterMap (bOf μ)).Nodup
  | [], _, _ => by simp
  | i :: is, h, hl => by
    obtain ⟨h1, h2⟩ := List.nodup_cons.1 h
    have ih := bOf_nodup M h2 (fun j hj => hl j (by simp [hj]))
    cases hb : bOf μ i with
    | none => rw [List.filterMap_cons_none hb]; exact ih
    | some b =>
      rw [List.filterMap_cons_some hb]
      refine List.nodup_cons.2 ⟨fun hm => ?_, ih⟩
      obtain ⟨j, hj, hjb⟩ := List.mem_filterMap.1 hm
      simp only [bOf, Option.map_eq_some_iff] at hb hjb
      obtain ⟨p, hp1, hp2⟩ := hb
      obtain ⟨q, hq1, hq2⟩ := hjb
      have := M.inj i j p q (hl i (by simp)) (hl j (by simp [hj])) hp1 hq1 (by rw [hp2, hq2])
      exact h1 (this ▸ hj)

/-- The memory behind a call, and its results. -/
theorem call_after {own : Bool} (MF : Mem Γ al hp' w μ) (eF : Ext al al hp hp' (Sv Γ.G hp μ w) (Sv Γ.G hp' μ w) μ μ) (M : Mem Γ al hp w μ) (hn : ∀ k, k < 16 → ¬ al (n + k)) {G : Nat → Prop} {bs is : List Nat} {xs : List AV} {ys : List AA} {vs : List Value} {rs : List T} {os : List (List BC)} {v : Value} {r1 r2 : List Nat}
    (hnd : is.Nodup) (hlive : ∀ i ∈ is, live hp i) (hsame : ∀ i ∈ is, find hp' i = find hp i) (hbs : ∀ b ∈ bs, b ∈ is.filterMap (bOf μ)) (hG : ∀ b, G b → b < w.heap.size ∧ b ∉ bs)
    (hG2 : own = false → ∀ b, G b → Γ.G b ∧ ¬ ∃ i p, live hp' i ∧ μ i = some p ∧ p.b = b)
    (hgave : Gaves hp xs ys is) (hx : ∀ (j : Nat) x v, xs[j]? = some x → vs[j]? = some v → AVOk al hp (Sv Γ.G hp μ w) μ x v) (hvl : vs.length = xs.length)
    (hf : Fr bs w w') (hR : ResOk own (inV (fun b => G b ∨ (w.heap.size ≤ b ∨ b ∈ bs) ∧ b ∉ r1 ++ r2) w') w' rs v r1) (hO : OutsOk (inV (fun b => G b ∨ (w.heap.size ≤ b ∨ b ∈ bs) ∧ b ∉ r1 ++ r2) w') w' ys vs os r2)
    (hrn : (r1 ++ r2).Nodup) (hrb : ∀ b ∈ r1 ++ r2, b < w'.heap.size ∧ (b ∈ bs ∨ w.heap.size ≤ b))
    (hlen : ((impR own n rs).2 ++ outsK own hp (n + (impR own n rs).2.length) xs os).length ≤ 16) :
    ∃ μ', Mem Γ (al16 al n) (updH hp' ((impR own n rs).2 ++ outsK own hp (n + (impR own n rs).2.length) xs os)) w' μ' ∧
      Ext al (al16 al n) hp (updH hp' ((impR own n rs).2 ++ outsK own hp (n + (impR own n rs).2.length) xs os)) (Sv Γ.G hp μ w) (Sv Γ.G (updH hp' ((impR own n rs).2 ++ outsK own hp (n + (impR own n rs).2.length) xs os)) μ' w') μ μ' ∧
      AVOk (al16 al n) (updH hp' ((impR own n rs).2 ++ outsK own hp (n + (impR own n rs).2.length) xs os)) (Sv Γ.G (updH hp' ((impR own n rs).2 ++ outsK own hp (n + (impR own n rs).2.length) xs os)) μ' w') μ' (impR own n rs).1 v := by
  obtain ⟨L1, a1, a2, a3, a4, a5⟩ := impR_ok hR n
  have hl1 : (impR own n rs).2.length = L1.length := by rw [← a1]; simp
  rw [List.length_append, hl1] at hlen
  rw [hl1]
  have hal : ∀ i ∈ is, al i := fun i hi => by obtain ⟨b, hb, _⟩ := hlive i hi; exact M.used i b hb
  have hno : ∀ i ∈ is, ¬ (n ≤ i ∧ i < n + 16) := fun i hi hh => hn (i - n) (by omega) (by rw [show n + (i - n) = i by omega]; exact hal i hi)
  obtain ⟨L2, m2, b1, b2, b3, b4, b5⟩ := outsK_ok (own := own) M (n + L1.length) (16 - L1.length) hgave hO hx hvl (fun i hi hh => hno i hi ⟨by omega, by omega⟩) (by omega)
  have hl2 : (outsK own hp (n + L1.length) xs os).length = L2.length := by rw [← b1]; simp
  have hmap : (impR own n rs).2 ++ outsK own hp (n + L1.length) xs os = (L1 ++ L2).map (fun e => (e.1, e.2.1)) := by rw [List.map_append, a1, b1]
  rw [hmap]
  have hid : ((L1 ++ L2).map (·.1)).Nodup := by
    rw [List.map_append, a4]
    refine List.nodup_append.2 ⟨List.nodup_range', b3.nd hnd (fun i hi hh => hno i hi ⟨by omega, by omega⟩), fun x hx y hy hxy => ?_⟩
    subst hxy
    rw [List.mem_range'_1] at hx
    obtain ⟨e, he, rfl⟩ := List.mem_map.1 hy
    rcases b3.mem e he with h | h
    · exact hno _ h ⟨by omega, by omega⟩
    · omega
  have hids : ∀ e ∈ L1 ++ L2, e.1 ∈ is ∨ (n ≤ e.1 ∧ e.1 < n + 16) := fun e he => by
    rcases List.mem_append.1 he with he | he
    · have : e.1 ∈ L1.map (·.1) := List.mem_map.2 ⟨e, he, rfl⟩
      rw [a4, List.mem_range'_1] at this
      exact .inr ⟨by omega, by omega⟩
    · rcases b3.mem e he with h | h
      · exact .inl h
      · exact .inr ⟨by omega, by omega⟩
  -- the places behind
  let μ' : Nat → Option Pl := fun i => match (L1 ++ L2).find? (fun e => e.1 == i) with | some e => e.2.2 | none => μ i
  have hone : ∀ {L : List E}, (L.map (·.1)).Nodup → ∀ e ∈ L, L.find? (fun e' => e'.1 == e.1) = some e := fun {L} => by
    induction L with
    | nil => intro _ e he; cases he
    | cons x r ih =>
      intro hnd e he
      simp only [List.map_cons, List.nodup_cons] at hnd
      rcases List.mem_cons.1 he with h1 | h1
      · subst h1; simp
      · have : (x.1 == e.1) = false := by
          simp only [beq_eq_false_iff_ne]; exact fun hh => hnd.1 (List.mem_map.2 ⟨e, h1, hh.symm⟩)
        rw [List.find?_cons, this]
        exact ih hnd.2 e h1
  have hμ : ∀ e ∈ L1 ++ L2, μ' e.1 = e.2.2 := fun e he => by
    show (match (L1 ++ L2).find? (fun e' => e'.1 == e.1) with | some e => e.2.2 | none => μ e.1) = e.2.2
    rw [hone hid e he]
  have hμno : ∀ i, (∀ e ∈ L1 ++ L2, e.1 ≠ i) → μ' i = μ i := fun i hh => by
    have : (L1 ++ L2).find? (fun e' => e'.1 == i) = none := List.find?_eq_none.2 (fun e he => by simpa using hh e he)
    show (match (L1 ++ L2).find? (fun e' => e'.1 == i) with | some e => e.2.2 | none => μ i) = μ i
    rw [this]
  have hfit : Fits (al16 al n) (updH hp' ((L1 ++ L2).map (fun e => (e.1, e.2.1)))) μ' (L1 ++ L2) := fun e he => by
    refine ⟨?_, ?_, hμ e he⟩
    · rcases hids e he with h | h
      · exact .inl (hal _ h)
      · exact .inr h
    · exact updH_mem _ _ (by rw [List.map_map]; exact hid) (e.1, e.2.1) (List.mem_map.2 ⟨e, he, rfl⟩)
  have hblks : (L1 ++ L2).filterMap E.blk = r1 ++ r2 := by rw [List.filterMap_append, a2, b2]
  have hbs' : ∀ b ∈ bs, ∃ i ∈ is, live hp' i ∧ bOf μ i = some b := fun b hb => by
    obtain ⟨i, hi, hib⟩ := List.mem_filterMap.1 (hbs b hb)
    obtain ⟨bk, h1, h2⟩ := hlive i hi
    exact ⟨i, hi, ⟨bk, by rw [hsame i hi]; exact h1, h2⟩, hib⟩
  have hSub : own = false → (∀ i p, live (updH hp' ((L1 ++ L2).map (fun e => (e.1, e.2.1)))) i → μ' i = some p → (∃ e ∈ L1 ++ L2, e.1 = i ∧ e.blk = some p.b) ∨ (live hp' i ∧ μ i = some p ∧ p.b ∉ bs ∧ ∀ e ∈ L1 ++ L2, e.1 ≠ i)) →
      ∀ a v, inV (fun b => G b ∨ (w.heap.size ≤ b ∨ b ∈ bs) ∧ b ∉ r1 ++ r2) w' a = some v → Sv Γ.G (updH hp' ((L1 ++ L2).map (fun e => (e.1, e.2.1)))) μ' w' a = some v := fun ho hlv a v hv => by
    rw [inV_some] at hv
    rw [Sv_some]
    refine ⟨⟨?_, fun ⟨i, p, h1, h2, h3⟩ => ?_⟩, hv.2⟩
    · rcases hv.1 with h | ⟨h | h, _⟩
      · exact (hG2 ho _ h).1
      · exact MF.gd _ (.inr (Nat.le_trans MF.fr.size h))
      · obtain ⟨i, hi, hil, hib⟩ := hbs' _ h
        simp only [bOf, Option.map_eq_some_iff] at hib
        obtain ⟨p, hp1, hp2⟩ := hib
        rw [← hp2]; exact MF.gd _ (MF.mine i p hil hp1).2
    · rcases hlv i p h1 h2 with ⟨e, he, _, heb⟩ | ⟨h4, h5, h6, _⟩
      · have hr : a.block ∈ r1 ++ r2 := by rw [← h3, ← hblks]; exact List.mem_filterMap.2 ⟨e, he, heb⟩
        rcases hv.1 with h | h
        · obtain ⟨g1, g2⟩ := hG _ h
          rcases (hrb _ hr).2 with h7 | h7
          · exact g2 h7
          · omega
        · exact h.2 hr
      · rcases hv.1 with h | ⟨h | h, _⟩
        · exact (hG2 ho _ h).2 ⟨i, p, h4, h5, h3⟩
        · have := (MF.mine i p h4 h5).1; omega
        · exact h6 (h3 ▸ h)
  obtain ⟨M', e', hlv⟩ := MF.many (al' := al16 al n) (hp' := updH hp' ((L1 ++ L2).map (fun e => (e.1, e.2.1)))) (μ' := μ') hf (fun _ h => .inl h) hbs' (L := L1 ++ L2)
    (fun i hi => ⟨updH_none _ _ _ (fun e he => by obtain ⟨e', he', rfl⟩ := List.mem_map.1 he; exact hi e' he'), hμno i hi⟩) hfit
    (fun i hi => by obtain ⟨e, he, h⟩ := b3.all i hi; exact ⟨e, List.mem_append.2 (.inr he), h⟩) (by rw [hblks]; exact hrn) hid (fun b hb => by rw [hblks] at hb; exact hrb b hb)
    (fun e he hale => by
      have hmem : e.1 ∈ is := by
        rcases hids e he with h | h
        · exact h
        · exact absurd hale (by rw [show e.1 = n + (e.1 - n) by omega]; exact hn _ (by omega))
      have he2 : e ∈ L2 := by
        rcases List.mem_append.1 he with h | h
        · have : e.1 ∈ L1.map (·.1) := List.mem_map.2 ⟨e, h, rfl⟩
          rw [a4, List.mem_range'_1] at this
          exact absurd ⟨by omega, by omega⟩ (hno _ hmem)
        · exact h
      rcases b3.old e he2 hmem with ⟨cs, cs', h1, h2, h3⟩ | ⟨h1, h2⟩
      · exact .inl ⟨cs, cs', h1, by rw [hsame _ hmem]; exact h2, h3⟩
      · refine .inr ⟨h1, fun i => ?_⟩
        have : verOf hp' e.1 = verOf hp e.1 := by simp [verOf, hsame _ hmem]
        rw [this]; exact h2 i)
    (fun _ hlv e he => by
      rcases List.mem_append.1 he with h | h
      · exact (a3 e h).blk
      · exact b5 _ _ _ _ hfit.app.2 (fun ho => hSub ho hlv) e h)
  exact ⟨μ', M', eF.trans e', a5 _ _ _ _ hfit.app.1 (fun ho => hSub ho hlv)⟩

theorem zip_eval : ∀ (xs : List Operand) (ts : List TypeId), xs.length = ts.length → ∀ (j : Nat) x v, ((xs.zip ts).map fun x => s.eval τ x.2 x.1)[j]? = some x → (xs.map a.eval)[j]? = some v →
    ∃ t y, x = s.eval τ t y ∧ v = a.eval y
  | [], _, _, j, x, v, h1, h2 => by simp at h2
  | y :: xs, [], h, _, _, _, _, _ => by simp at h
  | y :: xs, t :: ts, h, 0, x, v, h1, h2 => by simp at h1 h2; exact ⟨t, y, h1.symm, h2.symm⟩
  | y :: xs, t :: ts, h, j + 1, x, v, h1, h2 => zip_eval xs ts (by simpa using h) j x v (by simpa using h1) (by simpa using h2)

theorem op_call (R : Rel Γ al s a w μ) (hn : ∀ k, k < 16 → ¬ al (n + k)) {f : Operand} {xs : Array Operand} {ts : Array TypeId} (ho : o.op = .call ⟨.value f, xs, ts⟩) (h : op P τ md o s n K) (N : Nxt Γ al s a w μ n o.dst K next) : o.wp P a w next Q := by
  have hf0 := eval_ok (τ := τ) R 0 f
  simp only [op, ho] at h
  split at h
  · rename_i g he
    rw [he] at hf0
    have hfv : a.eval f = .func (.func g) #[] #[] := hf0
    split at h
    · rename_i hlen
      have hlen' : xs.toList.length = ts.toList.length := by simpa using hlen
      have hvals : ∀ (j : Nat) x v, ((xs.toList.zip ts.toList).map fun x => s.eval τ x.2 x.1)[j]? = some x → (xs.toList.map a.eval)[j]? = some v → AVOk al s.hp (Sv Γ.G s.hp μ w) μ x v := fun j x v p q => by
        obtain ⟨t, y, rfl, rfl⟩ := zip_eval (τ := τ) (s := s) (a := a) xs.toList ts.toList hlen' j x v p q
        exact eval_ok (τ := τ) R t y
      have hvl : (xs.toList.map a.eval).length = ((xs.toList.zip ts.toList).map fun x => s.eval τ x.2 x.1).length := by simp only [List.length_map, List.length_zip, hlen', Nat.min_self]
      have hrun0 : (execOp a.eval o).run P w = (callFunc g (xs.toList.map a.eval).toArray).run P w := by
        have e : xs.map a.eval = (xs.toList.map a.eval).toArray := by cases xs; simp
        simp [execOp, ho, resolve, hfv, Deferred.ofValue, invoke, e]
      generalize ((xs.toList.zip ts.toList).map fun x => s.eval τ x.2 x.1) = avs at h hvals hvl
      generalize (xs.toList.map a.eval) = vals at hvals hvl hrun0
      unfold callK at h
      obtain ⟨⟨ys0, hK0⟩, hlive0⟩ := argsK_ids h
      split at hK0
      · rename_i hck
        simp only [Bool.and_eq_true, List.all_eq_true, Bool.not_eq_true', List.contains_eq_mem, decide_eq_false_iff_not] at hck
        obtain ⟨hnd0, hdis⟩ := hck
        have hnd := nodup_of_B hnd0
        -- the state that is frozen where it must be
        obtain ⟨hpF, MF, eF, hsameF, hfrozF, hliveF, hpFeq⟩ : ∃ hpF, Mem Γ al hpF w μ ∧ Ext al al s.hp hpF (Sv Γ.G s.hp μ w) (Sv Γ.G hpF μ w) μ μ ∧ (∀ i, i ∉ avs.flatMap ownsA → find hpF i = find s.hp i) ∧
            (md g = false → ∀ i ∈ avs.flatMap ownsA, ∀ sz es v, find s.hp i = some (.arr sz es v) → find hpF i = some (.froz sz es v)) ∧ (∀ i, live hpF i → live s.hp i) ∧ hpF = updH s.hp (if md g then [] else freeze s.hp (avs.flatMap ownsA)) := by
          cases hmd : md g with
          | true => exact ⟨s.hp, R.mem, Ext.refl, fun _ _ => rfl, fun h => (by cases h), fun _ h => h, rfl⟩
          | false =>
            obtain ⟨m1, e1, h0, h1⟩ := freeze_ok s.hp (avs.flatMap ownsA) R.mem (fun i => .inl rfl)
            refine ⟨_, m1, e1, fun i hi => (h1 i).1 ⟨rfl, hi⟩, fun _ i hi sz es v hf => (h1 i).2 sz es v hf (.inl hi), fun i ⟨b, h2, h3⟩ => ?_, rfl⟩
            rcases h0 i with h4 | ⟨_, _, _, _, h4⟩
            · exact ⟨b, h4 ▸ h2, h3⟩
            · rw [h4] at h2; obtain rfl := Option.some.inj h2; cases h3
        -- what the callee may look at
        let G : Nat → Prop := fun b => b < w.heap.size ∧ (∀ i ∈ avs.flatMap (boxId s.hp), bOf μ i ≠ some b) ∧ (md g = false → Γ.G b ∧ ¬ ∃ i p, live hpF i ∧ μ i = some p ∧ p.b = b)
        have hS : ∀ a v, Sv Γ.G s.hp μ w a = some v → inV G w a = some v := fun a v hv => by
          have hv' := eF.hS a v hv
          rw [Sv_some] at hv hv'
          rw [inV_some]
          refine ⟨⟨World.block_lt_of_cell? _ _ hv.2, fun i hi hb => ?_, fun _ => hv'.1⟩, hv.2⟩
          simp only [bOf, Option.map_eq_some_iff] at hb
          obtain ⟨p, hp1, hp2⟩ := hb
          exact hv.1.2 ⟨i, p, hlive0 i hi, hp1, hp2⟩
        have hown : ∀ i ∈ avs.flatMap ownsA, (∃ sz es v, find s.hp i = some (.arr sz es v)) → ∀ p, μ i = some p → ∀ a, a.block = p.b → ∀ v, w.cell? a = some v → inV G w a = some v := fun i hi ⟨sz, es, v, hb⟩ p hp a ha v hv => by
          have hli : live s.hp i := ⟨_, hb, rfl⟩
          rw [inV_some]
          refine ⟨⟨World.block_lt_of_cell? _ _ hv, fun j hj hjb => ?_, fun hmd => ⟨?_, fun ⟨j, q, h1, h2, h3⟩ => ?_⟩⟩, hv⟩
          · simp only [bOf, Option.map_eq_some_iff] at hjb
            obtain ⟨q, hq1, hq2⟩ := hjb
            have := R.mem.inj i j p q hli (hlive0 j hj) hp hq1 (by rw [hq2, ha])
            subst this
            exact hdis i hi hj
          · rw [ha]; exact R.mem.gd _ (R.mem.mine i p hli hp).2
          · have := R.mem.inj i j p q hli (hliveF j h1) hp h2 (by rw [h3, ha])
            subst this
            obtain ⟨bj, hbj, hbl⟩ := h1
            rw [hfrozF hmd i hi _ _ _ hb] at hbj
            obtain rfl := Option.some.inj hbj
            cases hbl
        obtain ⟨ys, is, r, hK1, hA, hrs, hlive, hgave⟩ := argsK_ok R.mem hS h hvl hvals hown
        have his := hgave.ids
        subst his
        rw [if_pos (by simp only [Bool.and_eq_true, List.all_eq_true, Bool.not_eq_true', List.contains_eq_mem, decide_eq_false_iff_not]; exact ⟨hnd0, hdis⟩)] at hK1
        obtain ⟨rs, os, hCS, hK2⟩ := hK1
        dsimp only at hK2
        by_cases hle : ((impR (md g) n rs).2 ++ outsK (md g) s.hp (n + (impR (md g) n rs).2.length) avs os).length ≤ 16
        · rw [if_pos (decide_eq_true hle)] at hK2
          have hnotown : ∀ i ∈ avs.flatMap (boxId s.hp), i ∉ avs.flatMap ownsA := fun i hi ho => hdis i ho hi
          have hrb : ∀ b ∈ r, b ∈ (avs.flatMap (boxId s.hp)).filterMap (bOf μ) := fun b hb => hrs.subset hb
          have hrlt : ∀ b ∈ r, b < w.heap.size ∧ ¬ G b := fun b hb => by
            obtain ⟨i, hi, hib⟩ := List.mem_filterMap.1 (hrb b hb)
            refine ⟨?_, fun hg => hg.2.1 i hi hib⟩
            simp only [bOf, Option.map_eq_some_iff] at hib
            obtain ⟨p, hp1, rfl⟩ := hib
            exact (R.mem.mine i p (hlive i hi) hp1).1
          have hC := hCS G w vals r hA (hrs.nodup (bOf_nodup R.mem hnd hlive)) hrlt (fun b hb => hb.1)
          have fin : ∀ v w', (∃ r1 r2, Fr r w w' ∧ ResOk (md g) (inV (fun b => G b ∨ (w.heap.size ≤ b ∨ b ∈ r) ∧ b ∉ r1 ++ r2) w') w' rs v r1 ∧
              OutsOk (inV (fun b => G b ∨ (w.heap.size ≤ b ∨ b ∈ r) ∧ b ∉ r1 ++ r2) w') w' ys vals os r2 ∧ (r1 ++ r2).Nodup ∧ ∀ b ∈ r1 ++ r2, b < w'.heap.size ∧ (b ∈ r ∨ w.heap.size ≤ b)) → next (a.put o.dst v) w' := fun v w' ⟨r1, r2, c1, c2, c3, c4, c5⟩ => by
            obtain ⟨μ', d1, d2, d3⟩ := call_after (own := md g) MF eF R.mem hn hnd hlive (fun i hi => hsameF i (hnotown i hi)) hrb (fun b hb => ⟨hb.1, fun hr => (hrlt b hr).2 hb⟩) (fun hmd b hb => hb.2.2 hmd) hgave hvals hvl c1 c2 c3 c4 c5 hle
            have e : updH hpF ((impR (md g) n rs).2 ++ outsK (md g) s.hp (n + (impR (md g) n rs).2.length) avs os) = (s.upd ((if md g then [] else freeze s.hp (avs.flatMap ownsA)) ++ ((impR (md g) n rs).2 ++ outsK (md g) s.hp (n + (impR (md g) n rs).2.length) avs os))).hp := by
              rw [hpFeq, ← updH_app, ← upd_hp]
            rw [e] at d1 d2 d3
            exact N _ _ v w' μ' hK2 d1 d2 d3
          rcases hC with ⟨hrun, hcalls⟩ | ⟨v, w', hrun, hv⟩
          · unfold Oper.wp
            rw [hrun0, hrun]
            refine hcalls.mono fun e w' ⟨v, he, hv⟩ => ?_
            subst he
            exact fin v w' hv
          · exact wp_val (by rw [hrun0]; exact hrun) (fin v w' hv)
        · rw [if_neg (by simpa using hle)] at hK2; exact hK2.elim
      · exact hK0.elim
    · exact h.elim
  · exact h.elim
end
end Go.Proofs.Ytbmdncjnnlajnaa.M
