/- Contracts for Entry, part 5: lists of trees that are marked, all the way down. No condition. -/
import Derived.Test.YtplhmfpbombjkaaKExactItemOf5
/- Contracts for Entry, part 5: lists of trees that are marked, all the way down. No condition. -/
namespace Go.Proofs.Ytplhmfpbombjkaa.M
open Go Go.Proofs
set_option maxRecDepth 100000
set_option maxHeartbeats 2000000
set_option linter.unusedSimpArgs false
set_option linter.unusedVariables false
theorem obDs_split : ∀ {l1 l2 : List Ob} {x : Ob} {p1 p2 : List (Sl × Sl)} {p : Sl × Sl}, p1.length = l1.length → obDs (l1 ++ x :: l2) (p1 ++ p :: p2) = obDs l1 p1 ++ (obD x p.1 p.2 ++ obDs l2 p2)
  | [], l2, x, [], p2, p, _ => rfl
  | o :: l1, l2, x, q :: p1, p2, p, h => by
    show obD o q.1 q.2 ++ obDs (l1 ++ x :: l2) (p1 ++ p :: p2) = _
    rw [obDs_split (by simpa using h)]
    simp [obDs]
theorem obRs_split : ∀ {l1 l2 : List Ob} {x : Ob} {p1 p2 : List (Sl × Sl)} {p : Sl × Sl}, p1.length = l1.length → obRs (l1 ++ x :: l2) (p1 ++ p :: p2) = obRs l1 p1 ++ (obR x p.1 p.2 :: obRs l2 p2)
  | [], l2, x, [], p2, p, _ => rfl
  | o :: l1, l2, x, q :: p1, p2, p, h => by
    show obR o q.1 q.2 :: obRs (l1 ++ x :: l2) (p1 ++ p :: p2) = _
    rw [obRs_split (by simpa using h)]
    simp [obRs]
/-- Marked so far. -/
def curK (a : List Ob) (k i : Nat) : List Ob := mkKs (a.take i) k ++ a.drop i
theorem curK_len {a : List Ob} {k i : Nat} : (curK a k i).length = a.length := by simp [curK, mkKs_len]; omega
def HB (o : Ob) : Prop := match o with | .mk _ _ _ ks kids => ks.length ≤ 1048576 ∧ ∀ m : Nat, 0 < m → m + nmK kids ≤ 274877906944 → D35 kids m
theorem nmK_le : ∀ (a : List Ob) (i : Nat), nmK (a.take i) ≤ nmK a := fun a i => by
  have := nmK_app (a.take i) (a.drop i)
  rw [List.take_append_drop] at this
  omega
set_option maxHeartbeats 4000000 in
theorem d35 (a : List Ob) (k : Nat) (ha : a.length ≤ 1048576) (h0 : 0 < k) (hk : k + nmK a ≤ 274877906944) (h : ∀ o ∈ a, HB o) : D35 a k := by
  unfold D35 obs
  refine CSD_open tab_ok Try.func35 rfl rfl Try.ntmps35 (rl := [.tmp 4]) rfl (Nat.le_of_ble_eq_true rfl) rfl (ι := {ps : List (Sl × Sl) // ps.length = a.length}) (fun ps => obRs a ps.1) (fun ps => obDs a ps.1) (fun xs d h => ?_) (fun ps => ?_) (fun he => ?_)
  · obtain ⟨ps, h1, h2, h3⟩ := RCrL_obs h
    refine ⟨⟨ps, h1⟩, h2, h3, by rw [obRs_len h1, List.length_map], fun e he => ?_⟩
    have key : ∀ {l : List Ob} {ps : List (Sl × Sl)}, ∀ e ∈ obRs l ps, e.cells.length = 5 := fun {l} => by
      induction l with
      | nil => intro ps e he; simp [obRs] at he
      | cons o r ih =>
        intro ps e he
        cases ps with
        | nil => simp [obRs] at he
        | cons p ps =>
          rcases List.mem_cons.1 he with rfl | he
          · exact obR_cells o _ _
          · exact ih e he
    exact key e he
  · obtain ⟨ps, hps⟩ := ps
    dsimp only
    refine WWD_seqB tab_ok mdE ?_
    simp only [go_sem]
    refine WWD_seq ?_
    refine WWD_seqB tab_ok mdE ?_
    simp only [go_sem]
    refine WWD_block ?_
    refine WWD_loop (ι := {i : Nat // i ≤ a.length}) [0,1,5] [0] 1000 (fun i => ⟨[(0, .a (.c (.own 0 0 0 a.length))), (1, .a (.c (.t (.int .i64 (k + nmK (a.take i.1) : Nat))))), (5, .a (.c (.t (.int .i64 i.1))))], [(0, .arr 5 (obRs (curK a k i.1) ps) 0)], 1000, 49⟩)
      (fun i => obDs (curK a k i.1) ps) (fun i => a.length - i.1) ⟨0, Nat.zero_le _⟩ [] (Nat.le_of_ble_eq_true rfl) (by simp only [go_sem]) (by simp only [go_sem, obRs_len hps]; simp [curK, mkKs, nmK]) (by simp [curK, mkKs]) fun i => ?_
    obtain ⟨i, hi⟩ := i
    dsimp only
    refine WWD_seqB tab_ok mdE ?_
    simp only [go_sem]
    by_cases hil : i < a.length
    · have e1 : decide ((i : Int) < a.length) = true := by simp; omega
      simp only [go_sem, e1]
      refine WWD_seq ?_
      refine WWD_block ?_
      obtain ⟨x, hx⟩ : ∃ x, a[i]? = some x := ⟨_, List.getElem?_eq_getElem hil⟩
      obtain ⟨⟨y, z⟩, hp⟩ : ∃ p, ps[i]? = some p := ⟨_, List.getElem?_eq_getElem (by omega)⟩
      have hH := h x (List.mem_of_getElem? hx)
      have hdr : a.drop i = x :: a.drop (i + 1) := by
        rw [List.drop_eq_getElem_cons hil]
        rw [List.getElem?_eq_getElem hil] at hx; rw [Option.some.inj hx]
      have htk : a.take (i + 1) = a.take i ++ [x] := by rw [List.take_add_one, hx]; rfl
      have hpd : ps = ps.take i ++ ((y, z) :: ps.drop (i + 1)) := by
        have : ps.drop i = (y, z) :: ps.drop (i + 1) := by
          rw [List.drop_eq_getElem_cons (by omega)]
          rw [List.getElem?_eq_getElem (by omega)] at hp; rw [Option.some.inj hp]
        rw [← this, List.take_append_drop]
      have hp1 : (ps.take i).length = (mkKs (a.take i) k).length := by rw [mkKs_len, List.length_take, List.length_take]; omega
      have hlr : (obRs (mkKs (a.take i) k) (ps.take i)).length = i := by rw [obRs_len hp1, mkKs_len, List.length_take]; omega
      have hnx : nmK (a.take (i + 1)) = nmK (a.take i) + nmE x := by rw [htk, nmK_app]; simp [nmK]
      have hbd := nmK_le a (i + 1)
      have hcur : curK a k i = mkKs (a.take i) k ++ x :: a.drop (i + 1) := by rw [curK, hdr]
      have hcur2 : curK a k (i + 1) = mkKs (a.take i) k ++ mkE x (k + nmK (a.take i)) :: a.drop (i + 1) := by
        rw [curK, htk, mkKs_app]; simp [mkKs]
      have hR : obRs (curK a k i) ps = obRs (mkKs (a.take i) k) (ps.take i) ++ (obR x y z :: obRs (a.drop (i + 1)) (ps.drop (i + 1))) := by
        rw [hcur]; conv => lhs; rw [hpd]
        exact obRs_split hp1
      have hR2 : obRs (curK a k (i + 1)) ps = obRs (mkKs (a.take i) k) (ps.take i) ++ (obR (mkE x (k + nmK (a.take i))) y z :: obRs (a.drop (i + 1)) (ps.drop (i + 1))) := by
        rw [hcur2]; conv => lhs; rw [hpd]
        exact obRs_split hp1
      have hD : obDs (curK a k i) ps = obDs (mkKs (a.take i) k) (ps.take i) ++ (obD x y z ++ obDs (a.drop (i + 1)) (ps.drop (i + 1))) := by
        rw [hcur]; conv => lhs; rw [hpd]
        exact obDs_split hp1
      have hD2 : obDs (curK a k (i + 1)) ps = obDs (mkKs (a.take i) k) (ps.take i) ++ (obD (mkE x (k + nmK (a.take i))) y z ++ obDs (a.drop (i + 1)) (ps.drop (i + 1))) := by
        rw [hcur2]; conv => lhs; rw [hpd]
        exact obDs_split hp1
      rw [hR, hD]
      generalize obRs (mkKs (a.take i) k) (ps.take i) = R1 at hR2 hlr
      generalize obRs (a.drop (i + 1)) (ps.drop (i + 1)) = R2 at hR2
      generalize obDs (mkKs (a.take i) k) (ps.take i) = D1 at hD2
      generalize obDs (a.drop (i + 1)) (ps.drop (i + 1)) = D2 at hD2
      generalize hq : k + nmK (a.take i) = q at hR2 hD2
      have hget : ∀ e, (R1 ++ (e :: R2))[i]? = some e := fun e => by rw [List.getElem?_append_right (by omega), hlr, Nat.sub_self]; rfl
      have hset : ∀ e e', (R1 ++ (e :: R2)).set i e' = R1 ++ (e' :: R2) := fun e e' => by simp [List.set_append, hlr]
      obtain ⟨kk, nn, ss, ks, kids⟩ := x
      obtain ⟨hH1, hH2⟩ := hH
      rw [nmE_mk] at hnx
      rw [mkE_mk] at hR2 hD2
      unfold obR at hR2 ⊢
      unfold obD at hD2 ⊢
      dsimp only at hR2 hD2 ⊢
      have w1 : ∀ m : Nat, m ≤ 549755813888 → IntKind.wrap .i64 ((m : Nat) + 1 : Int) = (m + 1 : Nat) := fun m hm => by rw [wrap64O (by omega) (by omega)]; rfl
      refine WWD_seqB tab_ok mdE ?_
      simp only [go_sem, hget, hset]
      refine ⟨by omega, by omega, ?_⟩
      refine WWD_seqB tab_ok mdE ?_
      simp only [go_sem, w1 q (by omega)]
      refine WWD_seqB tab_ok mdE ?_
      simp only [go_sem, hget, hset]
      refine ⟨by omega, by omega, ?_⟩
      refine WWD_seqB tab_ok mdE ?_
      simp only [go_sem, w1 (q + 1) (by omega)]
      refine WWD_seqB tab_ok mdE ?_
      simp only [go_sem]
      refine act_callE (e55 (q + 1 + 1) (by omega) (by omega)) ?_
      simp only [go_sem, hget, hset]
      refine ⟨by omega, by omega, ?_⟩
      refine WWD_seqB tab_ok mdE ?_
      simp only [go_sem, w1 (q + 1 + 1) (by omega)]
      refine WWD_seq ?_
      refine WWD_region tab_ok mdE 6 rfl rfl rfl ?_
      simp only [go_sem, hget, hset]
      refine ⟨by omega, by omega, ?_⟩
      have hc := d34 ks (q + 3) hH1 (by omega) (by omega)
      refine ⟨_, _, [(y, strs ks)], [(y, strs (mkL (q + 3) ks.length))], D1 ++ ((z, obs kids) :: D2), hc, ⟨.raw y, _, [(y, _)], [], [(y, _)], [], rfl, rfl, rfl, ⟨y, rfl, rfl⟩, ⟨y, rfl, rfl⟩, _, _, _, rfl, rfl, .inr rfl, rfl, rfl, rfl⟩, List.perm_middle, ?_⟩
      rintro _ _ ⟨_, rfl, rfl, _, rfl⟩
      unfold restD
      simp only [go_sem]
      refine WWD_region tab_ok mdE 6 rfl rfl rfl ?_
      simp only [go_sem, hget]
      refine ⟨by omega, by omega, ?_⟩
      have hc2 := hH2 (q + 3 + ks.length) (by omega) (by omega)
      refine ⟨_, _, [(z, obs kids)], [(z, obs (mkKs kids (q + 3 + ks.length)))], (y, strs (mkL (q + 3) ks.length)) :: (D1 ++ D2), hc2, ⟨.raw z, _, [(z, _)], [], [(z, _)], [], rfl, rfl, rfl, ⟨z, rfl, rfl⟩, ⟨z, rfl, rfl⟩, _, _, _, rfl, rfl, .inr rfl, rfl, rfl, rfl⟩, ?_, ?_⟩
      · exact (List.Perm.cons _ List.perm_middle).trans (.swap _ _ _)
      rintro _ _ ⟨_, rfl, rfl, _, rfl⟩
      unfold restD
      simp only [go_sem]
      refine WWD_act tab_ok mdE ?_
      simp only [go_sem]
      refine nextD_of (ks := [0,1,5]) (hs := [0]) ⟨i + 1, by omega⟩ [] (by simp only [go_sem]) ?_ (by dsimp only; omega) ?_
      · simp only [go_sem]
        rw [wrap64O (n := (i : Int) + 1) (by omega) (by omega), hR2]
        have e9 : k + nmK (a.take (i + 1)) = q + 3 + ks.length + nmK kids := by omega
        rw [e9]
        rfl
      · dsimp only
        rw [hD2, List.append_nil]
        simp only [List.nil_append, List.cons_append]
        refine (List.Perm.swap _ _ _).trans ?_
        exact (List.Perm.cons _ List.perm_middle.symm).trans List.perm_middle.symm
    · obtain rfl : i = a.length := by omega
      have e1 : decide ((a.length : Int) < a.length) = false := by simp
      have e2 : curK a k a.length = mkKs a k := by simp [curK]
      have e3 : a.take a.length = a := List.take_of_length_le (Nat.le_refl _)
      simp only [go_sem, e1, e2, e3]
      refine WWD_seqB tab_ok mdE ?_
      simp only [go_sem]
      refine WWD_act tab_ok mdE ?_
      simp only [go_sem]
      have hml : ps.length = (mkKs a k).length := by rw [mkKs_len]; exact hps
      refine ⟨[.int .i64 (k + nmK a : Nat)], [[.arr 5 (obRs (mkKs a k) ps)]], ?_, obRs (mkKs a k) ps, [], obDs (mkKs a k) ps, [], rfl, RAL_int _, RT_obs hml, by rw [List.nil_append, List.append_nil]⟩
      simp only [go_sem, obRs_len hml, obRs_len hps, mkKs_len]
      exact sc_obRs hml
  · have : a = [] := by simpa using he
    subst this
    refine ⟨rfl, ?_⟩
    refine WWD_act tab_ok mdE ?_
    simp only [go_sem]
    refine act_loop_of (md := mdE) tab_ok [0,1,5] [] 1000 (ι := Unit) (fun _ => ⟨[(0, .a (.c (.t (.list 5 [])))), (1, .a (.c (.t (.int .i64 k)))), (5, .a (.c (.t (.int .i64 0))))], [], 1000, 49⟩) (fun _ => 0) () (Nat.le_of_ble_eq_true rfl) (by simp only [go_sem]) (by simp only [go_sem]) fun _ => ?_
    have e1 : decide ((0 : Int) < (0 : Nat)) = false := rfl
    simp only [go_sem, e1]
    exact ⟨[.int .i64 k], [], by simp only [go_sem], rfl, [], [], by simp only [nmK, Nat.add_zero]; exact RAL_int _, .refl _⟩
theorem hb : ∀ o : Ob, Sm o → HB o
  | .mk k n s ks kids, h => by
    cases h with
    | mk _ _ _ _ _ h1 h2 h3 => exact ⟨h1, fun m hm hb' => d35 kids m h2 hm hb' fun o ho => hb o (h3 o ho)⟩
  decreasing_by
  have := List.sizeOf_lt_of_mem ho
  simp only [Ob.mk.sizeOf_spec]
  omega
end Go.Proofs.Ytplhmfpbombjkaa.M

/- Contracts for Entry, part 6: marked trees are held; a tree's lists, marked. No condition. -/
namespace Go.Proofs.Ytplhmfpbombjkaa.M
open Go Go.Proofs
set_option maxRecDepth 100000
set_option maxHeartbeats 2000000
set_option linter.unusedSimpArgs false
set_option linter.unusedVariables false
theorem mkKs_get : ∀ {a : List Ob} {k i : Nat} {x : Ob}, a[i]? = some x → (mkKs a k)[i]? = some (mkE x (k + nmK (a.take i)))
  | o :: r, k, 0, x, h => by
    obtain rfl : o = x := by simpa using h
    simp [mkKs, nmK]
  | o :: r, k, i + 1, x, h => by
    have := mkKs_get (a := r) (k := k + nmE o) (i := i) (x := x) (by simpa using h)
    rw [mkKs, List.getElem?_cons_succ, this, List.take_succ_cons, nmK, Nat.add_assoc]
def HH (o : Ob) : Prop := match o with | .mk _ _ _ ks kids => ks.length ≤ 1048576 ∧ ∀ m : Nat, 0 < m → m + nmK kids ≤ 274877906944 → CS Try.prog false 37 [.v (obs (mkKs kids m)), .v (.int .i64 m)] [.int .i64 (m + nmK kids : Nat)] []
theorem e37 (a : List Ob) (k : Nat) (ha : a.length ≤ 1048576) (h0 : 0 < k) (hk : k + nmK a ≤ 274877906944) (h : ∀ o ∈ a, HH o) : CS Try.prog false 37 [.v (obs (mkKs a k)), .v (.int .i64 k)] [.int .i64 (k + nmK a : Nat)] [] := by
  unfold obs
  refine CS_act tab_ok mdE Try.func37 rfl rfl Try.ntmps37 (rl := [.tmp 4]) rfl (Nat.le_of_ble_eq_true rfl) ?_
  simp only [go_sem]
  refine act_loop_of (md := mdE) tab_ok [0,1,5] [] 1000 (ι := {i : Nat // i ≤ a.length}) (fun i => ⟨[(0, .a (.c (.t (.list 5 ((mkKs a k).map Ob.t))))), (1, .a (.c (.t (.int .i64 (k + nmK (a.take i.1) : Nat))))), (5, .a (.c (.t (.int .i64 i.1))))], [], 1000, 59⟩) (fun i => a.length - i.1) ⟨0, by omega⟩ (Nat.le_of_ble_eq_true rfl) (by simp only [go_sem]) (by simp only [go_sem]; rfl) fun i => ?_
  obtain ⟨i, hi⟩ := i
  simp only [go_sem, List.length_map, mkKs_len]
  by_cases hil : i < a.length
  · have e1 : decide ((i : Int) < a.length) = true := by simp; omega
    obtain ⟨x, hx⟩ : ∃ x, a[i]? = some x := ⟨_, List.getElem?_eq_getElem hil⟩
    have hH := h x (List.mem_of_getElem? hx)
    have htk : a.take (i + 1) = a.take i ++ [x] := by rw [List.take_add_one, hx]; rfl
    have hnx : nmK (a.take (i + 1)) = nmK (a.take i) + nmE x := by rw [htk, nmK_app]; simp [nmK]
    have hbd := nmK_le a (i + 1)
    have hg : ((mkKs a k).map Ob.t)[i]? = some (mkE x (k + nmK (a.take i))).t := by rw [List.getElem?_map, mkKs_get hx]; rfl
    have hll : ((mkKs a k).map Ob.t).length = a.length := by rw [List.length_map, mkKs_len]
    generalize hq : k + nmK (a.take i) = q at hg
    obtain ⟨kk, nn, ss, ks, kids⟩ := x
    obtain ⟨hH1, hH2⟩ := hH
    rw [nmE_mk] at hnx
    rw [mkE_mk, Ob.t_mk] at hg
    have w1 : ∀ m : Nat, m ≤ 549755813888 → IntKind.wrap .i64 ((m : Nat) + 1 : Int) = (m + 1 : Nat) := fun m hm => by rw [wrap64O (by omega) (by omega)]; rfl
    have n1 : ∀ m : Nat, (((m : Nat) : Int) != (m : Nat)) = false := fun m => by simp
    have n2 : ∀ m : Nat, decide (((m : Nat) : Int) < 0) = false := fun m => by simp
    simp only [go_sem, e1, hg, hll, n1, w1 q (by omega), w1 (q + 1) (by omega)]
    refine ⟨by omega, by omega, by omega, by omega, ?_⟩
    refine act_draw_of tab_ok mix mdE ?_
    simp only [go_sem, hg, hll]
    refine ⟨by omega, by omega, ?_⟩
    refine act_callE (e55 (q + 1 + 1) (by omega) (by omega)) ?_
    simp only [go_sem, beq_self_eq_true, w1 (q + 1 + 1) (by omega), hg, hll]
    refine ⟨drawOk_of (by kernel_rfl), by omega, by omega, ?_⟩
    refine act_callE (e36 (q + 3) ks.length hH1 (by omega) (by omega)) ?_
    simp only [go_sem, n2, hg, hll]
    refine ⟨by omega, by omega, ?_⟩
    refine act_callE (hH2 (q + 3 + ks.length) (by omega) (by omega)) ?_
    simp only [go_sem, n2]
    refine nextK_of ⟨i + 1, by omega⟩ (by simp only [go_sem]) ?_ (by dsimp only; omega)
    simp only [go_sem]
    have e9 : k + nmK (a.take (i + 1)) = q + 3 + ks.length + nmK kids := by omega
    rw [wrap64O (n := (i : Int) + 1) (by omega) (by omega), e9]
    rfl
  · obtain rfl : i = a.length := by omega
    have e1 : decide ((a.length : Int) < a.length) = false := by simp
    have e3 : a.take a.length = a := List.take_of_length_le (Nat.le_refl _)
    simp only [go_sem, e1, e3]
theorem hh : ∀ o : Ob, Sm o → HH o
  | .mk k n s ks kids, h => by
    cases h with
    | mk _ _ _ _ _ h1 h2 h3 => exact ⟨h1, fun m hm hb' => e37 kids m h2 hm hb' fun o ho => hh o (h3 o ho)⟩
  decreasing_by
  have := List.sizeOf_lt_of_mem ho
  simp only [Ob.mk.sizeOf_spec]
  omega
/-- A tree whose lists are marked. -/
def mkTop (o : Ob) (k : Nat) : Ob := match o with | .mk kk n s ks kids => .mk kk n s (mkL k ks.length) (mkKs kids (k + ks.length))
def nmT (o : Ob) : Nat := match o with | .mk _ _ _ ks kids => ks.length + nmK kids
theorem e12 (o : Ob) (hS : Sm o) (k : Nat) (h0 : 0 < k) (hk : k + nmT o ≤ 274877906944) : CS Try.prog false 12 [.v (mkTop o k).t, .v (.int .i64 k)] [.int .i64 (k + nmT o : Nat)] [] := by
  obtain ⟨kk, n, s, ks, kids⟩ := o
  obtain ⟨h1, h2⟩ := hh _ hS
  unfold nmT at hk ⊢
  unfold mkTop
  dsimp only at hk ⊢
  rw [Ob.t_mk]
  refine CS_act tab_ok mdE Try.func12 rfl rfl Try.ntmps12 (rl := [.tmp 4]) rfl (Nat.le_of_ble_eq_true rfl) ?_
  have n2 : ∀ m : Nat, decide (((m : Nat) : Int) < 0) = false := fun m => by simp
  simp only [go_sem]
  refine act_callE (e36 k ks.length h1 h0 (by omega)) ?_
  simp only [go_sem, n2]
  refine act_callE (h2 (k + ks.length) (by omega) (by omega)) ?_
  simp only [go_sem, n2, Nat.add_assoc]
theorem RAr_mk (o : Ob) (y z : Sl) : RAr o.t (obR o y z) (obD o y z) := by
  obtain ⟨k, n, s, ks, kids⟩ := o
  rw [Ob.t_mk]
  exact ⟨_, rfl, _, _, [], _, rfl, rfl, ⟨rfl, rfl, rfl⟩, _, _, [], _, rfl, rfl, ⟨rfl, rfl, rfl⟩, _, _, [], _, rfl, rfl, ⟨rfl, rfl, rfl⟩, _, _, [(y, _)], _, rfl, rfl, ⟨y, rfl, rfl⟩, _, _, [(z, _)], [], rfl, rfl, ⟨z, rfl, rfl⟩, rfl, rfl⟩
theorem d11 (o : Ob) (hS : Sm o) (k : Nat) (h0 : 0 < k) (hk : k + nmT o ≤ 274877906944) : CSD Try.prog 11 [.l o.t (mkTop o k).t, .b (.v (.int .i64 k))] [.int .i64 (k + nmT o : Nat)] [] := by
  have hHB := hb o hS
  refine CSD_of_WWD tab_ok Try.func11 rfl rfl Try.ntmps11 (rl := [.tmp 4]) rfl (Nat.le_of_ble_eq_true rfl) fun ags din hln => ?_
  obtain ⟨xr, as', e1, e2, rfl, rfl, hRA, as'', rfl, rfl, rfl⟩ := hln
  obtain ⟨y, z, rfl, rfl⟩ := RAr_ob (o := o) hRA
  obtain ⟨kk, n, s, ks, kids⟩ := o
  obtain ⟨h1, h2⟩ := hHB
  have hm := RAr_mk (mkTop (.mk kk n s ks kids) k) y z
  refine ⟨_, ⟨_, _, _, [], rfl, (List.append_nil _).symm, hm, _, rfl, rfl, rfl⟩, ?_⟩
  unfold nmT at hk ⊢
  unfold mkTop obR obD
  dsimp only at hk ⊢
  show WWDE _ _ _ _ _ .one .one .one
  refine WWD_seqB tab_ok mdE ?_
  simp only [go_sem]
  refine WWD_seq ?_
  refine WWD_region tab_ok mdE 3 rfl rfl rfl ?_
  simp only [go_sem]
  have hc := d34 ks k h1 h0 (by omega)
  refine ⟨_, _, [(y, strs ks)], [(y, strs (mkL k ks.length))], [(z, obs kids)], hc, ⟨.raw y, _, [(y, _)], [], [(y, _)], [], rfl, rfl, rfl, ⟨y, rfl, rfl⟩, ⟨y, rfl, rfl⟩, _, _, _, rfl, rfl, .inr rfl, rfl, rfl, rfl⟩, .refl _, ?_⟩
  rintro _ _ ⟨_, rfl, rfl, _, rfl⟩
  unfold restD
  simp only [go_sem]
  refine WWD_seq ?_
  refine WWD_region tab_ok mdE 3 rfl rfl rfl ?_
  simp only [go_sem]
  have hc2 := h2 (k + ks.length) (by omega) (by omega)
  refine ⟨_, _, [(z, obs kids)], [(z, obs (mkKs kids (k + ks.length)))], [(y, strs (mkL k ks.length))], hc2, ⟨.raw z, _, [(z, _)], [], [(z, _)], [], rfl, rfl, rfl, ⟨z, rfl, rfl⟩, ⟨z, rfl, rfl⟩, _, _, _, rfl, rfl, .inr rfl, rfl, rfl, rfl⟩, .swap _ _ _, ?_⟩
  rintro _ _ ⟨_, rfl, rfl, _, rfl⟩
  unfold restD
  simp only [go_sem]
  refine WWD_seqB tab_ok mdE ?_
  simp only [go_sem]
  refine WWD_act tab_ok mdE ?_
  simp only [go_sem]
  refine ⟨[.int .i64 (k + (ks.length + nmK kids) : Nat)], [], by simp only [go_sem, Nat.add_assoc], rfl, [], [], RAL_int _, .swap _ _ _⟩
end Go.Proofs.Ytplhmfpbombjkaa.M

/- Contracts for Entry, part 7: contracts turned; how many marks there are. No condition. -/
namespace Go.Proofs.Ytplhmfpbombjkaa.M
open Go Go.Proofs
set_option maxRecDepth 100000
set_option maxHeartbeats 2000000
set_option linter.unusedSimpArgs false
set_option linter.unusedVariables false
section
variable {P : Program} {f : FuncId} {own : Bool} {w w' : World}
theorem bA_map : ∀ (xs : List AA), bA (xs.map DArg.b) = xs
  | [] => rfl
  | x :: r => by rw [List.map_cons, bA, bA_map r]
theorem DLs_map : ∀ {k : Bool} {xs : List AA} {vals : List Value} {r : List Nat}, DLs w k (xs.map DArg.b) vals r → r = [] ∧ bV (xs.map DArg.b) vals = vals ∧ ∀ (w' : World) (k' : Bool), DLs w' k' (xs.map DArg.b) vals []
  | k, [], vals, r, h => by
    obtain ⟨h1, h2⟩ := h
    subst h1 h2
    exact ⟨rfl, rfl, fun _ _ => ⟨rfl, rfl⟩⟩
  | k, x :: xs, vals, r, h => by
    obtain ⟨v, vs, rfl, h⟩ := h
    obtain ⟨h1, h2, h3⟩ := DLs_map h
    exact ⟨h1, by rw [List.map_cons, bV, h2], fun w' k' => ⟨v, vs, rfl, h3 w' k'⟩⟩
/-- A contract without deep trees, told with them. -/
theorem CSD_scal {xs : List AA} {x : T} (hx : x.scal = true) (h : CS P own f xs [x] []) : CSD P f (xs.map DArg.b) [x] [] := by
  intro G w vals rb rd hA hD hnd hbs hG
  obtain ⟨rfl, hv, hback⟩ := DLs_map hD
  rw [bA_map, hv] at hA
  rw [List.append_nil] at hnd hbs
  have imp : ∀ v w', (∃ r1 r2, Fr rb w w' ∧ ResOk own (inV (fun b => G b ∨ (w.heap.size ≤ b ∨ b ∈ rb) ∧ b ∉ r1 ++ r2) w') w' [x] v r1 ∧ OutsOk (inV (fun b => G b ∨ (w.heap.size ≤ b ∨ b ∈ rb) ∧ b ∉ r1 ++ r2) w') w' xs vals [] r2 ∧ (r1 ++ r2).Nodup ∧ ∀ b ∈ r1 ++ r2, b < w'.heap.size ∧ (b ∈ rb ∨ w.heap.size ≤ b)) →
      ∃ r1 r2 r3, Fr (rb ++ []) w w' ∧ DRes w' [x] v r1 ∧ OutsOk (inV (fun b => G b ∨ (w.heap.size ≤ b ∨ b ∈ rb ++ []) ∧ b ∉ r1 ++ (r2 ++ r3)) w') w' (bA (xs.map DArg.b)) (bV (xs.map DArg.b) vals) [] r2 ∧ DLs w' true (xs.map DArg.b) vals r3 ∧
        (r1 ++ (r2 ++ r3)).Nodup ∧ ∀ b ∈ r1 ++ (r2 ++ r3), b < w'.heap.size ∧ (b ∈ rb ++ [] ∨ w.heap.size ≤ b) := fun v w' ⟨r1, r2, c1, c2, c3, c4, c5⟩ => by
    obtain ⟨rfl, rfl⟩ := scal_resOk hx c2
    refine ⟨[], r2, [], by rw [List.append_nil]; exact c1, h_da (by intro ts h; subst h; simp [T.scal] at hx) (.sc _ _ hx (val_hold hx)), ?_, hback w' true, by simpa using c4, fun b hb => ?_⟩
    · rw [bA_map, hv]
      simpa using c3
    · have := c5 b (by simpa using hb)
      simpa using this
  rcases h G w vals rb hA hnd hbs hG with ⟨hrun, hcalls⟩ | ⟨v, w', hrun, hR⟩
  · exact .inl ⟨hrun, hcalls.mono fun e w' ⟨v, he, hR⟩ => ⟨v, he, imp v w' hR⟩⟩
  · exact .inr ⟨v, w', hrun, imp v w' hR⟩
/-- And back. -/
theorem CS_of_CSD {xs : List AA} {x : T} (hx : x.scal = true) (h : CSD P f (xs.map DArg.b) [x] []) : CS P own f xs [x] [] := by
  intro G w vals bs hA hnd hbs hG
  have hl : ∀ {xs : List AA} {vals : List Value} {bs : List Nat} {S : Addr → Option Value}, ArgsOk S w xs vals bs → DLs w false (xs.map DArg.b) vals [] := fun {xs} => by
    induction xs with
    | nil => intro vals bs S h; exact ⟨h.1, rfl⟩
    | cons x r ih => rintro _ _ S ⟨v, vs, r1, r2, rfl, rfl, _, h⟩; exact ⟨v, vs, rfl, ih h⟩
  have hD := hl hA
  obtain ⟨_, hv, _⟩ := DLs_map hD
  have imp : ∀ v w', (∃ r1 r2 r3, Fr (bs ++ []) w w' ∧ DRes w' [x] v r1 ∧ OutsOk (inV (fun b => G b ∨ (w.heap.size ≤ b ∨ b ∈ bs ++ []) ∧ b ∉ r1 ++ (r2 ++ r3)) w') w' (bA (xs.map DArg.b)) (bV (xs.map DArg.b) vals) [] r2 ∧ DLs w' true (xs.map DArg.b) vals r3 ∧
        (r1 ++ (r2 ++ r3)).Nodup ∧ ∀ b ∈ r1 ++ (r2 ++ r3), b < w'.heap.size ∧ (b ∈ bs ++ [] ∨ w.heap.size ≤ b)) →
      ∃ r1 r2, Fr bs w w' ∧ ResOk own (inV (fun b => G b ∨ (w.heap.size ≤ b ∨ b ∈ bs) ∧ b ∉ r1 ++ r2) w') w' [x] v r1 ∧ OutsOk (inV (fun b => G b ∨ (w.heap.size ≤ b ∨ b ∈ bs) ∧ b ∉ r1 ++ r2) w') w' xs vals [] r2 ∧ (r1 ++ r2).Nodup ∧ ∀ b ∈ r1 ++ r2, b < w'.heap.size ∧ (b ∈ bs ∨ w.heap.size ≤ b) := fun v w' ⟨r1, r2, r3, c1, c2, c3, c4, c5, c6⟩ => by
    obtain ⟨rfl, _, _⟩ := DLs_map c4
    have hH : DH w' x v r1 := da_H (by intro ts h; subst h; simp [T.scal] at hx) c2
    rw [bA_map, hv] at c3
    cases hH with
    | sc _ _ _ hH =>
      obtain rfl := hold_val hx hH
      rw [List.append_nil] at c1
      exact ⟨[], r2, c1, resOk_scal hx, by simpa using c3, by simpa using c5, fun b hb => by simpa using c6 b (by simpa using hb)⟩
    | nil => simp [T.scal] at hx
    | list => simp [T.scal] at hx
  have := h G w vals bs [] (by rw [bA_map, hv]; exact hA) hD (by simpa using hnd) (by simpa using hbs) hG
  rcases this with ⟨hrun, hcalls⟩ | ⟨v, w', hrun, hR⟩
  · exact .inl ⟨hrun, hcalls.mono fun e w' ⟨v, he, hR⟩ => ⟨v, he, imp v w' hR⟩⟩
  · exact .inr ⟨v, w', hrun, imp v w' hR⟩
end
theorem nmT_mk (k n : Int) (s : ByteArray) (ks : List ByteArray) (kids : List Ob) : nmT (.mk k n s ks kids) = ks.length + nmK kids := rfl
theorem nmE_T (o : Ob) : nmE o = 3 + nmT o := by
  cases o
  rw [nmE_mk, nmT_mk]; omega
theorem szF_head (x : Int) (m : Nat) (r : List Nat) (h : 0 ≤ szF x (m :: r)) : szF x (m :: r) ≤ x - m := by
  rw [szF] at h ⊢
  split at h
  · omega
  · rename_i h1
    rw [if_neg h1]
    exact szF_le r (x - m) (by omega)
theorem nmK_sz : ∀ (l : List Ob) (x : Int), (∀ o ∈ l, ∀ y : Int, 0 ≤ y → 0 ≤ szO o y → (nmT o : Int) ≤ 3 * (y - szO o y)) → 0 ≤ x → 0 ≤ szL l x → (nmK l : Int) ≤ 3 * (x - szL l x) + 3 * l.length
  | [], x, _, _, _ => by simp [nmK, szL]
  | o :: r, x, ho, h0, h => by
    rw [szL] at h ⊢
    split at h
    · omega
    · rename_i h1
      rw [if_neg h1]
      have h2 := ho o (by simp) x h0 (by omega)
      have h3 := nmK_sz r (szO o x) (fun o' h' => ho o' (by simp [h'])) (by omega) h
      have h4 := nmE_T o
      rw [nmK, h4, List.length_cons]
      omega
theorem nmT_sz : ∀ (o : Ob) (x : Int), 0 ≤ x → 0 ≤ szO o x → (nmT o : Int) ≤ 3 * (x - szO o x)
  | .mk k n s ks kids, x, h0, h => by
    rw [szO_mk] at h ⊢
    split at h
    · omega
    rename_i h1
    rw [if_neg h1]
    split at h
    · omega
    rename_i h2
    rw [if_neg h2]
    have h3 := szF_head (x - s.size) ks.length (ks.map (·.size)) (by omega)
    rw [szS] at h ⊢
    split at h
    · omega
    rename_i h4
    rw [if_neg h4]
    have h5 := nmK_sz kids (szF (x - s.size) (ks.length :: ks.map (·.size)) - kids.length) (fun o ho y hy0 hy => nmT_sz o y hy0 hy) (by omega) h
    rw [nmT_mk]
    omega
  decreasing_by
  have := List.sizeOf_lt_of_mem ho
  simp only [Ob.mk.sizeOf_spec]
  omega
theorem nmE_mem : ∀ {l : List Ob} {o : Ob}, o ∈ l → nmT o ≤ nmK l
  | a :: r, o, h => by
    have h4 := nmE_T a
    rw [nmK, h4]
    rcases List.mem_cons.1 h with rfl | h
    · omega
    · have := nmE_mem h; omega
end Go.Proofs.Ytplhmfpbombjkaa.M

/- Contracts for ItemOf, part 3: items that are marked. No condition. -/
namespace Go.Proofs.Ytplhmfpbombjkaa.M
open Go Go.Proofs
set_option maxRecDepth 100000
set_option maxHeartbeats 4000000
set_option linter.unusedSimpArgs false
set_option linter.unusedVariables false
def nmI (x : It) : Nat := 6 + x.ks.length + nmK x.kids
def mkI (x : It) (k : Nat) : It := ⟨((k : Nat) : Int), ((k + 1 : Nat) : Int), ((k + 2 : Nat) : Int), mkS (k + 3), mkL (k + 4) x.ks.length, mkKs x.kids (k + 4 + x.ks.length), decide ((k + 4 + x.ks.length + nmK x.kids) % 3 = 0), mkS (k + 4 + x.ks.length + nmK x.kids + 1)⟩
def nmIs : List It → Nat
  | [] => 0
  | o :: r => nmI o + nmIs r
def mkIs : List It → Nat → List It
  | [], _ => []
  | o :: r, k => mkI o k :: mkIs r (k + nmI o)
theorem nmIs_app : ∀ (a b : List It), nmIs (a ++ b) = nmIs a + nmIs b
  | [], b => by simp [nmIs]
  | o :: r, b => by rw [List.cons_append, nmIs, nmIs, nmIs_app r b]; omega
theorem mkIs_app : ∀ (a b : List It) (k : Nat), mkIs (a ++ b) k = mkIs a k ++ mkIs b (k + nmIs a)
  | [], b, k => by simp [mkIs, nmIs]
  | o :: r, b, k => by rw [List.cons_append, mkIs, mkIs, mkIs_app r b, nmIs, List.cons_append, Nat.add_assoc]
theorem mkIs_len : ∀ (a : List It) (k : Nat), (mkIs a k).length = a.length
  | [], k => by simp [mkIs]
  | o :: r, k => by rw [mkIs, List.length_cons, mkIs_len r, List.length_cons]
theorem nmIs_le (a : List It) (i : Nat) : nmIs (a.take i) ≤ nmIs a := by
  have := nmIs_app (a.take i) (a.drop i)
  rw [List.take_append_drop] at this
  omega
theorem RCrL_its : ∀ {a : List It} {xs : List T} {d : De}, RCrL (flat (a.map It.t)) xs d → ∃ ps : List (Sl × Sl), ps.length = a.length ∧ flat (itRs a ps) = xs ∧ itDs a ps = d
  | [], xs, d, h => by
    obtain ⟨h1, h2⟩ := h
    exact ⟨[], rfl, h1.symm, h2.symm⟩
  | x :: r, xs, d, h => by
    have e : flat ((x :: r).map It.t) = [.int .i64 x.num, .int .i64 x.k, .int .i64 x.n, .str x.s, strs x.ks, obs x.kids, .bool x.hd, .str x.data] ++ flat (r.map It.t) := by
      show x.t.cells ++ flat (r.map It.t) = _
      rw [It.t_def]; rfl
    rw [e] at h
    obtain ⟨x0, r0, d0, e0, rfl, rfl, ⟨rfl, _, rfl⟩, h⟩ := h
    obtain ⟨x1, r1, d1, e1, rfl, rfl, ⟨rfl, _, rfl⟩, h⟩ := h
    obtain ⟨x2, r2, d2, e2, rfl, rfl, ⟨rfl, _, rfl⟩, h⟩ := h
    obtain ⟨x3, r3, d3, e3, rfl, rfl, ⟨rfl, _, rfl⟩, h⟩ := h
    obtain ⟨x4, r4, d4, e4, rfl, rfl, ⟨y, rfl, rfl⟩, h⟩ := h
    obtain ⟨x5, r5, d5, e5, rfl, rfl, ⟨z, rfl, rfl⟩, h⟩ := h
    obtain ⟨x6, r6, d6, e6, rfl, rfl, ⟨rfl, _, rfl⟩, h⟩ := h
    obtain ⟨x7, r7, d7, e7, rfl, rfl, ⟨rfl, _, rfl⟩, h⟩ := h
    obtain ⟨ps, g1, rfl, rfl⟩ := RCrL_its h
    exact ⟨(y, z) :: ps, by simp [g1], rfl, rfl⟩
theorem itDs_split : ∀ {l1 l2 : List It} {x : It} {p1 p2 : List (Sl × Sl)} {p : Sl × Sl}, p1.length = l1.length → itDs (l1 ++ x :: l2) (p1 ++ p :: p2) = itDs l1 p1 ++ (itD x p.1 p.2 ++ itDs l2 p2)
  | [], l2, x, [], p2, p, _ => rfl
  | o :: l1, l2, x, q :: p1, p2, p, h => by
    show itD o q.1 q.2 ++ itDs (l1 ++ x :: l2) (p1 ++ p :: p2) = _
    rw [itDs_split (by simpa using h)]
    simp [itDs]
theorem itRs_split : ∀ {l1 l2 : List It} {x : It} {p1 p2 : List (Sl × Sl)} {p : Sl × Sl}, p1.length = l1.length → itRs (l1 ++ x :: l2) (p1 ++ p :: p2) = itRs l1 p1 ++ (itR x p.1 p.2 :: itRs l2 p2)
  | [], l2, x, [], p2, p, _ => rfl
  | o :: l1, l2, x, q :: p1, p2, p, h => by
    show itR o q.1 q.2 :: itRs (l1 ++ x :: l2) (p1 ++ p :: p2) = _
    rw [itRs_split (by simpa using h)]
    simp [itRs]
def curI (a : List It) (k i : Nat) : List It := mkIs (a.take i) k ++ a.drop i
abbrev D54 (a : List It) (k : Nat) : Prop := CSD Try.prog 54 [.l (its a) (its (mkIs a k)), .b (.v (.int .i64 k))] [.int .i64 (k + nmIs a : Nat)] []
theorem d54 (a : List It) (k : Nat) (ha : a.length ≤ 1048576) (h0 : 0 < k) (hk : k + nmIs a ≤ 274877906944) (h : ∀ o ∈ a, HB o.o) : D54 a k := by
  unfold D54 its
  refine CSD_open tab_ok Try.func54 rfl rfl Try.ntmps54 (rl := [.tmp 4]) rfl (Nat.le_of_ble_eq_true rfl) rfl (ι := {ps : List (Sl × Sl) // ps.length = a.length}) (fun ps => itRs a ps.1) (fun ps => itDs a ps.1) (fun xs d h => ?_) (fun ps => ?_) (fun he => ?_)
  · obtain ⟨ps, h1, h2, h3⟩ := RCrL_its h
    refine ⟨⟨ps, h1⟩, h2, h3, by rw [itRs_len h1, List.length_map], fun e he => ?_⟩
    have key : ∀ {l : List It} {ps : List (Sl × Sl)}, ∀ e ∈ itRs l ps, e.cells.length = 8 := fun {l} => by
      induction l with
      | nil => intro ps e he; simp [itRs] at he
      | cons o r ih =>
        intro ps e he
        cases ps with
        | nil => simp [itRs] at he
        | cons p ps =>
          rcases List.mem_cons.1 he with rfl | he
          · rfl
          · exact ih e he
    exact key e he
  · obtain ⟨ps, hps⟩ := ps
    dsimp only
    refine WWD_seqB tab_ok mdE ?_
    simp only [go_sem]
    refine WWD_seq ?_
    refine WWD_seqB tab_ok mdE ?_
    simp only [go_sem]
    refine WWD_block ?_
    refine WWD_loop (ι := {i : Nat // i ≤ a.length}) [0,1,5] [0] 1000 (fun i => ⟨[(0, .a (.c (.own 0 0 0 a.length))), (1, .a (.c (.t (.int .i64 (k + nmIs (a.take i.1) : Nat))))), (5, .a (.c (.t (.int .i64 i.1))))], [(0, .arr 8 (itRs (curI a k i.1) ps) 0)], 1000, 78⟩)
      (fun i => itDs (curI a k i.1) ps) (fun i => a.length - i.1) ⟨0, Nat.zero_le _⟩ [] (Nat.le_of_ble_eq_true rfl) (by simp only [go_sem]) (by simp only [go_sem, itRs_len hps]; simp [curI, mkIs, nmIs]) (by simp [curI, mkIs]) fun i => ?_
    obtain ⟨i, hi⟩ := i
    dsimp only
    refine WWD_seqB tab_ok mdE ?_
    simp only [go_sem]
    by_cases hil : i < a.length
    · have e1 : decide ((i : Int) < a.length) = true := by simp; omega
      simp only [go_sem, e1]
      refine WWD_seq ?_
      refine WWD_block ?_
      obtain ⟨x, hx⟩ : ∃ x, a[i]? = some x := ⟨_, List.getElem?_eq_getElem hil⟩
      obtain ⟨⟨y, z⟩, hp⟩ : ∃ p, ps[i]? = some p := ⟨_, List.getElem?_eq_getElem (by omega)⟩
      obtain ⟨hH1, hH2⟩ : HB x.o := h x (List.mem_of_getElem? hx)
      have hdr : a.drop i = x :: a.drop (i + 1) := by
        rw [List.drop_eq_getElem_cons hil]
        rw [List.getElem?_eq_getElem hil] at hx; rw [Option.some.inj hx]
      have htk : a.take (i + 1) = a.take i ++ [x] := by rw [List.take_add_one, hx]; rfl
      have hpd : ps = ps.take i ++ ((y, z) :: ps.drop (i + 1)) := by
        have : ps.drop i = (y, z) :: ps.drop (i + 1) := by
          rw [List.drop_eq_getElem_cons (by omega)]
          rw [List.getElem?_eq_getElem (by omega)] at hp; rw [Option.some.inj hp]
        rw [← this, List.take_append_drop]
      have hp1 : (ps.take i).length = (mkIs (a.take i) k).length := by rw [mkIs_len, List.length_take, List.length_take]; omega
      have hlr : (itRs (mkIs (a.take i) k) (ps.take i)).length = i := by rw [itRs_len hp1, mkIs_len, List.length_take]; omega
      have hnx : nmIs (a.take (i + 1)) = nmIs (a.take i) + nmI x := by rw [htk, nmIs_app]; simp [nmIs]
      have hbd := nmIs_le a (i + 1)
      have hcur : curI a k i = mkIs (a.take i) k ++ x :: a.drop (i + 1) := by rw [curI, hdr]
      have hcur2 : curI a k (i + 1) = mkIs (a.take i) k ++ mkI x (k + nmIs (a.take i)) :: a.drop (i + 1) := by
        rw [curI, htk, mkIs_app]; simp [mkIs]
      have hR : itRs (curI a k i) ps = itRs (mkIs (a.take i) k) (ps.take i) ++ (itR x y z :: itRs (a.drop (i + 1)) (ps.drop (i + 1))) := by
        rw [hcur]; conv => lhs; rw [hpd]
        exact itRs_split hp1
      have hR2 : itRs (curI a k (i + 1)) ps = itRs (mkIs (a.take i) k) (ps.take i) ++ (itR (mkI x (k + nmIs (a.take i))) y z :: itRs (a.drop (i + 1)) (ps.drop (i + 1))) := by
        rw [hcur2]; conv => lhs; rw [hpd]
        exact itRs_split hp1
      have hD : itDs (curI a k i) ps = itDs (mkIs (a.take i) k) (ps.take i) ++ (itD x y z ++ itDs (a.drop (i + 1)) (ps.drop (i + 1))) := by
        rw [hcur]; conv => lhs; rw [hpd]
        exact itDs_split hp1
      have hD2 : itDs (curI a k (i + 1)) ps = itDs (mkIs (a.take i) k) (ps.take i) ++ (itD (mkI x (k + nmIs (a.take i))) y z ++ itDs (a.drop (i + 1)) (ps.drop (i + 1))) := by
        rw [hcur2]; conv => lhs; rw [hpd]
        exact itDs_split hp1
      rw [hR, hD]
      generalize itRs (mkIs (a.take i) k) (ps.take i) = R1 at hR2 hlr
      generalize itRs (a.drop (i + 1)) (ps.drop (i + 1)) = R2 at hR2
      generalize itDs (mkIs (a.take i) k) (ps.take i) = D1 at hD2
      generalize itDs (a.drop (i + 1)) (ps.drop (i + 1)) = D2 at hD2
      generalize hq : k + nmIs (a.take i) = q at hR2 hD2
      have hget : ∀ e, (R1 ++ (e :: R2))[i]? = some e := fun e => by rw [List.getElem?_append_right (by omega), hlr, Nat.sub_self]; rfl
      have hset : ∀ e e', (R1 ++ (e :: R2)).set i e' = R1 ++ (e' :: R2) := fun e e' => by simp [List.set_append, hlr]
      unfold nmI at hnx
      unfold itR mkI at hR2
      unfold itD mkI at hD2
      unfold itR itD
      dsimp only at hR2 hD2 ⊢
      have w1 : ∀ m : Nat, m ≤ 549755813888 → IntKind.wrap .i64 ((m : Nat) + 1 : Int) = (m + 1 : Nat) := fun m hm => by rw [wrap64O (by omega) (by omega)]; rfl
      refine WWD_seqB tab_ok mdE ?_
      simp only [go_sem, hget, hset]
      refine ⟨by omega, by omega, ?_⟩
      refine WWD_seqB tab_ok mdE ?_
      simp only [go_sem, w1 q (by omega)]
      refine WWD_seqB tab_ok mdE ?_
      simp only [go_sem, hget, hset]
      refine ⟨by omega, by omega, ?_⟩
      refine WWD_seqB tab_ok mdE ?_
      simp only [go_sem, w1 (q + 1) (by omega)]
      refine WWD_seqB tab_ok mdE ?_
      simp only [go_sem, hget, hset]
      refine ⟨by omega, by omega, ?_⟩
      refine WWD_seqB tab_ok mdE ?_
      simp only [go_sem, w1 (q + 1 + 1) (by omega)]
      refine WWD_seqB tab_ok mdE ?_
      simp only [go_sem]
      refine act_callE (e55 (q + 1 + 1 + 1) (by omega) (by omega)) ?_
      simp only [go_sem, hget, hset]
      refine ⟨by omega, by omega, ?_⟩
      refine WWD_seqB tab_ok mdE ?_
      simp only [go_sem, w1 (q + 1 + 1 + 1) (by omega)]
      refine WWD_seq ?_
      refine WWD_region tab_ok mdE 7 rfl rfl rfl ?_
      simp only [go_sem, hget, hset]
      refine ⟨by omega, by omega, ?_⟩
      have hc := d34 x.ks (q + 4) hH1 (by omega) (by omega)
      refine ⟨_, _, [(y, strs x.ks)], [(y, strs (mkL (q + 4) x.ks.length))], D1 ++ ((z, obs x.kids) :: D2), hc, ⟨.raw y, _, [(y, _)], [], [(y, _)], [], rfl, rfl, rfl, ⟨y, rfl, rfl⟩, ⟨y, rfl, rfl⟩, _, _, _, rfl, rfl, .inr rfl, rfl, rfl, rfl⟩, List.perm_middle, ?_⟩
      rintro _ _ ⟨_, rfl, rfl, _, rfl⟩
      unfold restD
      simp only [go_sem]
      refine WWD_seq ?_
      refine WWD_region tab_ok mdE 7 rfl rfl rfl ?_
      simp only [go_sem, hget]
      refine ⟨by omega, by omega, ?_⟩
      have hc2 := hH2 (q + 4 + x.ks.length) (by omega) (by omega)
      refine ⟨_, _, [(z, obs x.kids)], [(z, obs (mkKs x.kids (q + 4 + x.ks.length)))], (y, strs (mkL (q + 4) x.ks.length)) :: (D1 ++ D2), hc2, ⟨.raw z, _, [(z, _)], [], [(z, _)], [], rfl, rfl, rfl, ⟨z, rfl, rfl⟩, ⟨z, rfl, rfl⟩, _, _, _, rfl, rfl, .inr rfl, rfl, rfl, rfl⟩, ?_, ?_⟩
      · exact (List.Perm.cons _ List.perm_middle).trans (.swap _ _ _)
      rintro _ _ ⟨_, rfl, rfl, _, rfl⟩
      unfold restD
      simp only [go_sem]
      generalize hv : q + 4 + x.ks.length + nmK x.kids = v at hR2 hD2
      have em : ((v : Int).tmod 3 == 0) = decide (v % 3 = 0) := by
        have : (v : Int).tmod 3 = (v % 3 : Nat) := by rw [Int.tmod_eq_emod_of_nonneg (by omega)]; rfl
        rw [this]
        by_cases h : v % 3 = 0 <;> simp [h] <;> omega
      refine WWD_seqB tab_ok mdE ?_
      simp only [go_sem, hget, hset, em]
      refine ⟨by decide, by omega, by omega, ?_⟩
      refine WWD_seqB tab_ok mdE ?_
      simp only [go_sem, w1 v (by omega)]
      refine WWD_seqB tab_ok mdE ?_
      simp only [go_sem]
      refine act_callE (e55 (v + 1) (by omega) (by omega)) ?_
      simp only [go_sem, hget, hset]
      refine ⟨by omega, by omega, ?_⟩
      refine WWD_act tab_ok mdE ?_
      simp only [go_sem, w1 (v + 1) (by omega)]
      refine WWD_act tab_ok mdE ?_
      simp only [go_sem]
      refine nextD_of (ks := [0,1,5]) (hs := [0]) ⟨i + 1, by omega⟩ [] (by simp only [go_sem]) ?_ (by dsimp only; omega) ?_
      · simp only [go_sem]
        rw [wrap64O (n := (i : Int) + 1) (by omega) (by omega), hR2]
        have e9 : k + nmIs (a.take (i + 1)) = v + 1 + 1 := by omega
        rw [e9]
        rfl
      · dsimp only
        rw [hD2, List.append_nil]
        simp only [List.nil_append, List.cons_append]
        refine (List.Perm.swap _ _ _).trans ?_
        exact (List.Perm.cons _ List.perm_middle.symm).trans List.perm_middle.symm
    · obtain rfl : i = a.length := by omega
      have e1 : decide ((a.length : Int) < a.length) = false := by simp
      have e2 : curI a k a.length = mkIs a k := by simp [curI]
      have e3 : a.take a.length = a := List.take_of_length_le (Nat.le_refl _)
      simp only [go_sem, e1, e2, e3]
      refine WWD_seqB tab_ok mdE ?_
      simp only [go_sem]
      refine WWD_act tab_ok mdE ?_
      simp only [go_sem]
      have hml : ps.length = (mkIs a k).length := by rw [mkIs_len]; exact hps
      refine ⟨[.int .i64 (k + nmIs a : Nat)], [[.arr 8 (itRs (mkIs a k) ps)]], ?_, itRs (mkIs a k) ps, [], itDs (mkIs a k) ps, [], rfl, RAL_int _, RT_its hml, by rw [List.nil_append, List.append_nil]⟩
      simp only [go_sem, itRs_len hml, itRs_len hps, mkIs_len]
      exact sc_itRs hml
  · have : a = [] := by simpa using he
    subst this
    refine ⟨rfl, ?_⟩
    refine WWD_act tab_ok mdE ?_
    simp only [go_sem]
    refine act_loop_of (md := mdE) tab_ok [0,1,5] [] 1000 (ι := Unit) (fun _ => ⟨[(0, .a (.c (.t (.list 8 [])))), (1, .a (.c (.t (.int .i64 k)))), (5, .a (.c (.t (.int .i64 0))))], [], 1000, 78⟩) (fun _ => 0) () (Nat.le_of_ble_eq_true rfl) (by simp only [go_sem]) (by simp only [go_sem]) fun _ => ?_
    have e1 : decide ((0 : Int) < (0 : Nat)) = false := rfl
    simp only [go_sem, e1]
    exact ⟨[.int .i64 k], [], by simp only [go_sem], rfl, [], [], by simp only [nmIs, Nat.add_zero]; exact RAL_int _, .refl _⟩
theorem d21 (a : List It) (r : Int) (k : Nat) (h : D54 a k) : CSD Try.prog 21 [.l (docT a r) (docT (mkIs a k) r), .b (.v (.int .i64 k))] [.int .i64 (k + nmIs a : Nat)] [] := by
  refine CSD_of_WWD tab_ok Try.func21 rfl rfl Try.ntmps21 (rl := [.tmp 4]) rfl (Nat.le_of_ble_eq_true rfl) fun ags din hln => ?_
  obtain ⟨xr, as', e1, e2, rfl, rfl, hRA, as'', rfl, rfl, rfl⟩ := hln
  obtain ⟨y, rfl, rfl⟩ := RAr_dc (a := a) (r := r) hRA
  refine ⟨_, ⟨_, _, _, [], rfl, (List.append_nil _).symm, RAr_dmk (mkIs a k) r y, _, rfl, rfl, rfl⟩, ?_⟩
  unfold dcR
  show WWDE _ _ _ _ _ .one .one .one
  refine WWD_seqB tab_ok mdE ?_
  simp only [go_sem]
  refine WWD_seq ?_
  refine WWD_region tab_ok mdE 3 rfl rfl rfl ?_
  simp only [go_sem]
  refine ⟨_, _, [(y, its a)], [(y, its (mkIs a k))], [], h, ⟨.raw y, _, [(y, _)], [], [(y, _)], [], rfl, rfl, rfl, ⟨y, rfl, rfl⟩, ⟨y, rfl, rfl⟩, _, _, _, rfl, rfl, .inr rfl, rfl, rfl, rfl⟩, .refl _, ?_⟩
  rintro _ _ ⟨_, rfl, rfl, _, rfl⟩
  unfold restD
  simp only [go_sem]
  refine WWD_seqB tab_ok mdE ?_
  simp only [go_sem]
  refine WWD_act tab_ok mdE ?_
  simp only [go_sem]
  exact ⟨[.int .i64 (k + nmIs a : Nat)], [], by simp only [go_sem], rfl, [], [], RAL_int _, .refl _⟩
/-- An item whose body's lists are marked. -/
def itTop (x : It) (k : Nat) : It := { x with ks := mkL k x.ks.length, kids := mkKs x.kids (k + x.ks.length) }
theorem d22 (x : It) (hS : Sm x.o) (k : Nat) (h0 : 0 < k) (hk : k + nmT x.o ≤ 274877906944) : CSD Try.prog 22 [.l x.t (itTop x k).t, .b (.v (.int .i64 k))] [.int .i64 (k + nmT x.o : Nat)] [] := by
  have hc := d11 x.o hS k h0 hk
  refine CSD_of_WWD tab_ok Try.func22 rfl rfl Try.ntmps22 (rl := [.tmp 4]) rfl (Nat.le_of_ble_eq_true rfl) fun ags din hln => ?_
  obtain ⟨xr, as', e1, e2, rfl, rfl, hRA, as'', rfl, rfl, rfl⟩ := hln
  obtain ⟨y, z, rfl, rfl⟩ := RAr_it (x := x) hRA
  refine ⟨_, ⟨_, _, _, [], rfl, (List.append_nil _).symm, RAr_imk (itTop x k) y z, _, rfl, rfl, rfl⟩, ?_⟩
  unfold itR itD
  show WWDE _ _ _ _ _ .one .one .one
  refine WWD_seqB tab_ok mdE ?_
  simp only [go_sem]
  refine WWD_seq ?_
  refine WWD_region tab_ok mdE 3 rfl rfl rfl ?_
  simp only [go_sem]
  refine ⟨_, _, obD x.o y z, obD (mkTop x.o k) y z, [], hc, ⟨obR x.o y z, _, _, [], _, [], rfl, (List.append_nil _).symm, (List.append_nil _).symm, RAr_mk x.o y z, RAr_mk (mkTop x.o k) y z, _, _, _, rfl, rfl, .inr rfl, rfl, rfl, rfl⟩, .refl _, ?_⟩
  rintro _ _ ⟨_, rfl, rfl, _, rfl⟩
  unfold restD
  simp only [go_sem]
  refine WWD_seqB tab_ok mdE ?_
  simp only [go_sem]
  refine WWD_act tab_ok mdE ?_
  simp only [go_sem]
  exact ⟨[.int .i64 (k + nmT x.o : Nat)], [], by simp only [go_sem], rfl, [], [], RAL_int _, .refl _⟩
theorem e23 (x : It) (hS : Sm x.o) (k : Nat) (h0 : 0 < k) (hk : k + nmT x.o ≤ 274877906944) : CS Try.prog false 23 [.v (itTop x k).t, .v (.int .i64 k)] [.int .i64 (k + nmT x.o : Nat)] [] := by
  have hc := e12 x.o hS k h0 hk
  rw [It.t_def]
  have et : (mkTop x.o k).t = .agg [.int .i64 x.k, .int .i64 x.n, .str x.s, .list 1 ((mkL k x.ks.length).map T.str), .list 5 ((mkKs x.kids (k + x.ks.length)).map Ob.t)] := by
    show (Ob.mk _ _ _ _ _).t = _
    rw [Ob.t_mk]
  rw [et] at hc
  refine CS_act tab_ok mdE Try.func23 rfl rfl Try.ntmps23 (rl := [.tmp 4]) rfl (Nat.le_of_ble_eq_true rfl) ?_
  have n2 : ∀ m : Nat, decide (((m : Nat) : Int) < 0) = false := fun m => by simp
  unfold itTop
  simp only [go_sem]
  refine act_callE hc ?_
  simp only [go_sem, n2]
end Go.Proofs.Ytplhmfpbombjkaa.M

/- Contracts for Entry, part 8: the law. No condition. -/
namespace Go.Proofs.Ytplhmfpbombjkaa.M
open Go Go.Proofs
set_option maxRecDepth 100000
set_option maxHeartbeats 8000000
set_option linter.unusedSimpArgs false
set_option linter.unusedVariables false
theorem RdA_ob (hp : List (Nat × Blk)) (d : De) (k n : Int) (s : ByteArray) (ks : List ByteArray) (kids : List Ob) (y z : Sl) (h1 : (y, strs ks) ∈ d) (h2 : (z, obs kids) ∈ d) :
    RdA hp d (.g [.t (.int .i64 k), .t (.int .i64 n), .t (.str s), .t (.raw y), .t (.raw z)]) (Ob.mk k n s ks kids).t := by
  rw [Ob.t_mk]
  exact ⟨_, rfl, _, _, rfl, .inr rfl, _, _, rfl, .inr rfl, _, _, rfl, .inr rfl, _, _, rfl, .inl ⟨y, rfl, h1⟩, _, _, rfl, .inl ⟨z, rfl, h2⟩, rfl⟩
theorem RdA_obv (hp : List (Nat × Blk)) (d : De) (k n : Int) (s : ByteArray) (ks : List ByteArray) (kids : List Ob) :
    RdA hp d (.g [.t (.int .i64 k), .t (.int .i64 n), .t (.str s), .t (.list 1 (ks.map T.str)), .t (.list 5 (kids.map Ob.t))]) (Ob.mk k n s ks kids).t := by
  rw [Ob.t_mk]
  exact ⟨_, rfl, _, _, rfl, .inr rfl, _, _, rfl, .inr rfl, _, _, rfl, .inr rfl, _, _, rfl, .inr rfl, _, _, rfl, .inr rfl, rfl⟩
/-- What an entry is told as: a tree, and whether there is one. -/
def gOf : Option Ob → Ob
  | some o => o
  | none => .mk 0 0 ⟨#[]⟩ [] []
theorem entR_gOf (e : Option Ob) : entR e = [(gOf e).t, .bool e.isSome] := by
  cases e with
  | none => show [ob0, _] = [(Ob.mk 0 0 ⟨#[]⟩ [] []).t, _]; rw [Ob.t_mk]; rfl
  | some o => rfl
theorem entryO_mem {k : Int} {ks : List ByteArray} {kids : List Ob} {v : ByteArray} {o : Ob} (h : entryO k ks kids v = some o) : o ∈ kids := by
  unfold entryO at h
  split at h
  · cases h
  · exact List.mem_of_getElem? h
theorem ResV_ent {g : Ob} {b : Bool} {av : AV} {d : De} (h : ResV [g.t, .bool b] av d) : ∃ y z, av = .tup [openT (obR g y z), .c (.t (.bool b))] ∧ d = obD g y z := by
  obtain ⟨_, rfl, x, xs, d1, d2, rfl, rfl, h1, x2, xs2, d3, d4, rfl, rfl, ⟨rfl, _, rfl⟩, rfl, rfl⟩ := h
  obtain ⟨y, z, rfl, rfl⟩ := RAr_ob h1
  exact ⟨y, z, rfl, by simp⟩
theorem RAL_true : RAL [.bool true] [.bool true] [] := ⟨_, _, [], [], rfl, rfl, ⟨rfl, rfl, rfl⟩, rfl, rfl⟩
theorem d3 (k n : Int) (s : ByteArray) (ks : List ByteArray) (kids : List Ob) (key : ByteArray) (hW : Wd (.mk k n s ks kids)) (hkey : key.size ≤ 9223372036854775807) :
    CSD Try.prog 3 [.b (.v (Ob.mk k n s ks kids).t), .b (.v (.str key))] [.bool true] [] := by
  have h6 := oc19' (.mk k n s ks kids) hW 1048576 (by omega) (by omega)
  have hrest : ¬ szO (.mk k n s ks kids) 1048576 < 0 → ∃ (g : Ob) (b : Bool), CS Try.prog false 8 [.v (Ob.mk k n s ks kids).t] [(Ob.mk k n s ks kids).t] [] ∧ CS Try.prog false 7 [.v (Ob.mk k n s ks kids).t, .v (.str key)] [g.t, .bool b] [] ∧
      CS Try.prog false 9 [.v (Ob.mk k n s ks kids).t, .v (.str key)] [g.t, .bool b] [] ∧ CS Try.prog false 10 [.v (Ob.mk k n s ks kids).t, .v (Ob.mk k n s ks kids).t] [.bool true] [] ∧ CS Try.prog false 10 [.v g.t, .v g.t] [.bool true] [] ∧
      D8 (.mk k n s ks kids) ∧ CSD Try.prog 9 [.b (.v (Ob.mk k n s ks kids).t), .b (.v (.str key))] [g.t, .bool b] [] ∧ Sm (.mk k n s ks kids) ∧ Sm g ∧ nmT (.mk k n s ks kids) ≤ 4194304 ∧ nmT g ≤ 4194304 := fun h => by
    have hT := tn_of_sz (.mk k n s ks kids) 1048576 (by omega) (by omega)
    have hS := hT.sm
    have hn := nmT_sz (.mk k n s ks kids) 1048576 (by omega) (by omega)
    have hn0 : nmT (.mk k n s ks kids) ≤ 4194304 := by omega
    have h7 := oc20 k n s ks kids key hS
    have h9 := oc22 k n s ks kids key hS
    have h9d := d9 k n s ks kids key hS
    rw [entR_gOf] at h7 h9 h9d
    have hg : Sm (gOf (entryO k ks kids key)) ∧ nmT (gOf (entryO k ks kids key)) ≤ 4194304 := by
      cases he : entryO k ks kids key with
      | none => exact ⟨.mk _ _ _ _ _ (by simp) (by simp) (by simp), by show (0 + nmK []) ≤ _; simp [nmK]⟩
      | some x =>
        have hm := entryO_mem he
        have h3 := nmE_mem hm
        rw [nmT_mk] at hn0
        cases hS with
        | mk _ _ _ _ _ _ _ h4 => exact ⟨h4 x hm, by show nmT x ≤ _; omega⟩
    exact ⟨gOf (entryO k ks kids key), _, oc21' _ hS, h7, h9, oc23' _ hS, oc23' _ hg.1, d8' _ hS, h9d, hS, hg.1, hn0, hg.2⟩
  generalize szO (.mk k n s ks kids) 1048576 = sz at h6 hrest
  rw [Ob.t_mk]
  refine CSD_views (xs := [.v (.agg [.int .i64 k, .int .i64 n, .str s, .list 1 (ks.map T.str), .list 5 (kids.map Ob.t)]), .v (.str key)]) tab_ok Try.func3 rfl rfl Try.ntmps3 (rl := [.tmp 4]) rfl (Nat.le_of_ble_eq_true rfl) ?_
  refine WWD_seqB tab_ok mdE ?_
  simp only [go_sem]
  refine WWD_seqB tab_ok mdE ?_
  simp only [go_sem]
  refine act_split (fun h => ?_) (fun h => ?_) <;> simp only [go_sem]
  · exact ⟨[.bool true], [], by simp only [go_sem], rfl, [], _, RAL_true, .refl _⟩
  refine WWD_seqB tab_ok mdE ?_
  simp only [go_sem]
  refine WWD_seqB tab_ok mdE ?_
  rw [Ob.t_mk] at h6
  simp only [go_sem]
  refine act_callE h6 ?_
  simp only [go_sem]
  refine WWD_seqB tab_ok mdE ?_
  simp only [go_sem]
  refine act_split (fun h => ?_) (fun h => ?_) <;> simp only [go_sem] <;> simp only [decide_eq_true_eq, decide_eq_false_iff_not] at h
  · exact ⟨[.bool true], [], by simp only [go_sem], rfl, [], _, RAL_true, .refl _⟩
  obtain ⟨g, b, c8, c7, c9, c10, c10g, dd8, dd9, hS, hSg, hno, hng⟩ := hrest h
  obtain ⟨gk, gn, gs, gks, gkids⟩ := g
  rw [Ob.t_mk] at c8 c7 c9
  rw [Ob.t_mk gk] at c7 c9
  -- the reference's answer
  refine WWD_seqB tab_ok mdE ?_
  simp only [go_sem]
  refine act_callE c8 ?_
  simp only [go_sem]
  refine act_callE c7 ?_
  simp only [go_sem]
  -- a tree of one's own
  refine WWD_seq ?_
  refine WWD_region tab_ok mdE 1 rfl rfl rfl ?_
  simp only [go_sem]
  refine ⟨[.b (.v (Ob.mk k n s ks kids).t)], [(Ob.mk k n s ks kids).t], [], [], [], dd8, ⟨_, _, _, rfl, rfl, RdA_obv _ _ _ _ _ _ _, rfl, rfl, rfl⟩, .refl _, ?_⟩
  rintro _ _ ⟨_, rfl, hra⟩
  obtain ⟨y, z, rfl, rfl⟩ := RAr_ob hra
  unfold restD obR obD
  simp only [go_sem]
  -- the program's answer
  refine WWD_seq ?_
  refine WWD_region tab_ok mdE 2 rfl rfl rfl ?_
  simp only [go_sem]
  refine ⟨[.b (.v (Ob.mk k n s ks kids).t), .b (.v (.str key))], _, [], [], _, dd9, ⟨_, _, _, rfl, rfl, RdA_ob _ _ k n s ks kids y z (by simp) (by simp), _, _, _, rfl, rfl, .inr rfl, rfl, rfl, rfl⟩, .refl _, ?_⟩
  intro av dn hrv
  obtain ⟨y2, z2, rfl, rfl⟩ := ResV_ent hrv
  unfold restD obR obD
  simp only [go_sem]
  -- they are alike
  have hb : (b != b) = false := by simp
  have hb2 : (!(b == b)) = false := by simp
  refine WWD_seq ?_
  refine WWD_seq ?_
  refine WWD_region tab_ok mdE 2 rfl rfl rfl ?_
  simp only [go_sem]
  refine ⟨[.b (.v (Ob.mk gk gn gs gks gkids).t), .b (.v (Ob.mk gk gn gs gks gkids).t)], [.bool true], [], [], _, CSD_scal rfl c10g, ⟨_, _, _, rfl, rfl, RdA_ob _ _ gk gn gs gks gkids y2 z2 (by simp) (by simp), _, _, _, rfl, rfl, RdA_obv _ _ _ _ _ _ _, rfl, rfl, rfl⟩, .refl _, ?_⟩
  rintro _ _ ⟨_, rfl, rfl, _, rfl⟩
  unfold restD
  simp only [go_sem, hb, hb2]
  refine WWD_act tab_ok mdE ?_
  simp only [go_sem]
  -- the argument stays
  refine WWD_seq ?_
  refine WWD_seq ?_
  refine WWD_draw tab_ok mix mdE [0,1,2,3,4] 3 3 rfl rfl rfl (by kernel_rfl) ?_
  simp only [go_sem]
  refine act_callE c8 ?_
  simp only [go_sem]
  refine ⟨⟨by kernel_rfl, by kernel_rfl⟩, ?_⟩
  refine ⟨[.b (.v (Ob.mk k n s ks kids).t), .b (.v (Ob.mk k n s ks kids).t)], [.bool true], [], [], _, CSD_scal rfl c10, ⟨_, _, _, rfl, rfl, RdA_ob _ _ k n s ks kids y z (by simp) (by simp), _, _, _, rfl, rfl, RdA_obv _ _ _ _ _ _ _, rfl, rfl, rfl⟩, .refl _, ?_⟩
  rintro _ _ ⟨_, rfl, rfl, _, rfl⟩
  unfold restDr
  simp only [go_sem]
  refine ⟨by kernel_rfl, ?_⟩
  refine WWD_act tab_ok mdE ?_
  simp only [go_sem]
  -- the argument is marked
  refine WWD_seqB tab_ok mdE ?_
  simp only [go_sem]
  refine WWD_seq ?_
  refine WWD_region tab_ok mdE 2 rfl rfl rfl ?_
  simp only [go_sem]
  refine ⟨_, _, [(y, strs ks), (z, obs kids)], [(y, strs (mkL 1 ks.length)), (z, obs (mkKs kids (1 + ks.length)))], [(y2, strs gks), (z2, obs gkids)], d11 (.mk k n s ks kids) hS 1 (by omega) (by omega), ⟨obR (.mk k n s ks kids) y z, _, [(y, strs ks), (z, obs kids)], [], [(y, strs (mkL 1 ks.length)), (z, obs (mkKs kids (1 + ks.length)))], [], rfl, rfl, rfl, RAr_mk _ y z, RAr_mk (mkTop (.mk k n s ks kids) 1) y z, _, _, _, rfl, rfl, .inr rfl, rfl, rfl, rfl⟩, ?_, ?_⟩
  · exact List.perm_append_comm (l₁ := [(y2, strs gks), (z2, obs gkids)]) (l₂ := [(y, strs ks), (z, obs kids)])
  rintro _ _ ⟨_, rfl, rfl, _, rfl⟩
  unfold restD
  simp only [go_sem]
  have n2 : ∀ m : Nat, decide (((m : Nat) : Int) < 0) = false := fun m => by simp
  have n3 : ∀ m : Nat, (((m : Nat) : Int) != (m : Nat)) = false := fun m => by simp
  generalize hmo : nmT (.mk k n s ks kids) = mo
  -- the answer does not hang on it
  refine WWD_seq ?_
  refine WWD_seq ?_
  refine WWD_region tab_ok mdE 5 rfl rfl rfl ?_
  simp only [go_sem, n2]
  refine ⟨[.b (.v (Ob.mk gk gn gs gks gkids).t), .b (.v (Ob.mk gk gn gs gks gkids).t)], [.bool true], [], [], _, CSD_scal rfl c10g, ⟨_, _, _, rfl, rfl, RdA_ob _ _ gk gn gs gks gkids y2 z2 (by simp) (by simp), _, _, _, rfl, rfl, RdA_obv _ _ _ _ _ _ _, rfl, rfl, rfl⟩, .refl _, ?_⟩
  rintro _ _ ⟨_, rfl, rfl, _, rfl⟩
  unfold restD
  simp only [go_sem, hb, hb2]
  refine WWD_act tab_ok mdE ?_
  simp only [go_sem]
  -- the answer is marked
  refine WWD_seqB tab_ok mdE ?_
  simp only [go_sem]
  refine WWD_seq ?_
  refine WWD_region tab_ok mdE 2 rfl rfl rfl ?_
  simp only [go_sem]
  have hm := d11 (.mk gk gn gs gks gkids) hSg 1 (by omega) (by omega)
  have hh := e12 (.mk gk gn gs gks gkids) hSg 1 (by omega) (by omega)
  generalize nmT (.mk gk gn gs gks gkids) = mg at hm hh
  refine ⟨_, _, [(y2, strs gks), (z2, obs gkids)], [(y2, strs (mkL 1 gks.length)), (z2, obs (mkKs gkids (1 + gks.length)))], [(y, strs (mkL 1 ks.length)), (z, obs (mkKs kids (1 + ks.length)))], hm, ⟨obR (.mk gk gn gs gks gkids) y2 z2, _, [(y2, strs gks), (z2, obs gkids)], [], [(y2, strs (mkL 1 gks.length)), (z2, obs (mkKs gkids (1 + gks.length)))], [], rfl, rfl, rfl, RAr_mk _ y2 z2, RAr_mk (mkTop (.mk gk gn gs gks gkids) 1) y2 z2, _, _, _, rfl, rfl, .inr rfl, rfl, rfl, rfl⟩, ?_, ?_⟩
  · exact List.perm_append_comm (l₁ := [(y, strs (mkL 1 ks.length)), (z, obs (mkKs kids (1 + ks.length)))]) (l₂ := [(y2, strs gks), (z2, obs gkids)])
  rintro _ _ ⟨_, rfl, rfl, _, rfl⟩
  unfold restD
  simp only [go_sem]
  -- it is held
  refine WWD_seqB tab_ok mdE ?_
  simp only [go_sem]
  refine WWD_seq ?_
  refine WWD_region tab_ok mdE 2 rfl rfl rfl ?_
  simp only [go_sem]
  refine ⟨[.b (.v (mkTop (.mk gk gn gs gks gkids) 1).t), .b (.v (.int .i64 ((1 : Nat) : Int)))], _, [], [], _, CSD_scal rfl hh, ⟨_, _, _, rfl, rfl, RdA_ob _ _ gk gn gs (mkL 1 gks.length) (mkKs gkids (1 + gks.length)) y2 z2 (by simp) (by simp), _, _, _, rfl, rfl, .inr rfl, rfl, rfl, rfl⟩, .refl _, ?_⟩
  rintro _ _ ⟨_, rfl, rfl, _, rfl⟩
  unfold restD
  simp only [go_sem]
  refine WWD_seqB tab_ok mdE ?_
  simp only [go_sem, n2]
  refine WWD_seqB tab_ok mdE ?_
  simp only [go_sem, n3]
  -- another call
  refine WWD_seqB tab_ok mdE ?_
  simp only [go_sem]
  refine act_callE c8 ?_
  simp only [go_sem]
  refine act_callE c9 ?_
  simp only [go_sem]
  rw [Ob.t_mk gk] at c10g
  refine WWD_seqB tab_ok mdE ?_
  simp only [go_sem]
  refine act_callE c10g ?_
  simp only [go_sem, hb, hb2]
  refine WWD_seqB tab_ok mdE ?_
  simp only [go_sem]
  refine WWD_seq ?_
  refine WWD_region tab_ok mdE 2 rfl rfl rfl ?_
  simp only [go_sem]
  refine ⟨[.b (.v (mkTop (.mk gk gn gs gks gkids) 1).t), .b (.v (.int .i64 ((1 : Nat) : Int)))], _, [], [], _, CSD_scal rfl hh, ⟨_, _, _, rfl, rfl, RdA_ob _ _ gk gn gs (mkL 1 gks.length) (mkKs gkids (1 + gks.length)) y2 z2 (by simp) (by simp), _, _, _, rfl, rfl, .inr rfl, rfl, rfl, rfl⟩, .refl _, ?_⟩
  rintro _ _ ⟨_, rfl, rfl, _, rfl⟩
  unfold restD
  simp only [go_sem]
  refine WWD_seqB tab_ok mdE ?_
  simp only [go_sem, n2]
  refine WWD_seqB tab_ok mdE ?_
  simp only [go_sem, n3]
  refine WWD_act tab_ok mdE ?_
  simp only [go_sem]
  exact ⟨[.bool true], [], by simp only [go_sem], rfl, [], _, RAL_true, .refl _⟩
theorem c3 (o : Ob) (key : ByteArray) (hW : Wd o) (hkey : key.size ≤ 9223372036854775807) : CS Try.prog false 3 [.v o.t, .v (.str key)] [.bool true] [] := by
  obtain ⟨k, n, s, ks, kids⟩ := o
  exact CS_of_CSD rfl (d3 k n s ks kids key hW hkey)
end Go.Proofs.Ytplhmfpbombjkaa.M

/- Contracts for ItemOf, part 4: the law. No condition. -/
namespace Go.Proofs.Ytplhmfpbombjkaa.M
open Go Go.Proofs
set_option maxRecDepth 100000
set_option maxHeartbeats 8000000
set_option linter.unusedSimpArgs false
set_option linter.unusedVariables false
theorem nmI_o (x : It) : nmI x = 6 + nmT x.o := by
  show 6 + x.ks.length + nmK x.kids = 6 + nmT (Ob.mk _ _ _ x.ks x.kids)
  rw [nmT_mk]; omega
theorem nmIs_sz : ∀ (l : List It) (x : Int), 0 ≤ x → 0 ≤ szIL l x → (nmIs l : Int) ≤ 3 * (x - szIL l x) + 6 * l.length
  | [], x, _, _ => by simp [nmIs, szIL]
  | o :: r, x, h0, h => by
    rw [szIL] at h ⊢
    split at h
    · omega
    · rename_i h1
      rw [if_neg h1]
      have h3 := nmIs_sz r (szI o x) (by omega) h
      have h4 := nmI_o o
      rw [nmIs, h4, List.length_cons]
      have h5 : 0 ≤ szO o.o x ∧ szI o x ≤ szO o.o x := by
        unfold szI at h1 ⊢
        split at h1
        · omega
        · rename_i h6
          rw [if_neg h6]
          split <;> omega
      have h7 := nmT_sz o.o x h0 h5.1
      omega
theorem nmIs_mem : ∀ {l : List It} {o : It}, o ∈ l → nmT o.o ≤ nmIs l
  | a :: r, o, h => by
    have h4 := nmI_o a
    rw [nmIs, h4]
    rcases List.mem_cons.1 h with rfl | h
    · omega
    · have := nmIs_mem h; omega
theorem szIL_le : ∀ (l : List It) (x : Int), 0 ≤ x → szIL l x ≤ x
  | [], x, _ => by simp [szIL]
  | o :: r, x, h0 => by
    rw [szIL]
    split
    · omega
    · have h1 := szI_le o x h0
      have h2 := szIL_le r (szI o x) (by omega)
      omega
theorem nmIs_szD (l : List It) (x : Int) (hx : x ≤ 1048576) (h : 0 ≤ szD l x) : nmIs l ≤ 16777216 := by
  unfold szD at h
  split at h
  · omega
  have h1 := nmIs_sz l (x - l.length) (by omega) h
  omega
theorem RdA_docv (hp : List (Nat × Blk)) (d : De) (a : List It) (r : Int) : RdA hp d (.g [.t (.list 8 (a.map It.t)), .t (.int .i64 r)]) (docT a r) :=
  ⟨_, rfl, _, _, rfl, .inr rfl, _, _, rfl, .inr rfl, rfl⟩
theorem RdA_doc (hp : List (Nat × Blk)) (d : De) (a : List It) (r : Int) (y : Sl) (h : (y, its a) ∈ d) : RdA hp d (.g [.t (.raw y), .t (.int .i64 r)]) (docT a r) :=
  ⟨_, rfl, _, _, rfl, .inl ⟨y, rfl, h⟩, _, _, rfl, .inr rfl, rfl⟩
theorem RdA_it (hp : List (Nat × Blk)) (d : De) (x : It) (y z : Sl) (h1 : (y, strs x.ks) ∈ d) (h2 : (z, obs x.kids) ∈ d) : RdA hp d (.g [.t (.int .i64 x.num), .t (.int .i64 x.k), .t (.int .i64 x.n), .t (.str x.s), .t (.raw y), .t (.raw z), .t (.bool x.hd), .t (.str x.data)]) x.t := by
  rw [It.t_def]
  exact ⟨_, rfl, _, _, rfl, .inr rfl, _, _, rfl, .inr rfl, _, _, rfl, .inr rfl, _, _, rfl, .inr rfl, _, _, rfl, .inl ⟨y, rfl, h1⟩, _, _, rfl, .inl ⟨z, rfl, h2⟩, _, _, rfl, .inr rfl, _, _, rfl, .inr rfl, rfl⟩
theorem ResV_itm {g : It} {b : Bool} {av : AV} {d : De} (h : ResV [g.t, .bool b] av d) : ∃ y z, av = .tup [openT (itR g y z), .c (.t (.bool b))] ∧ d = itD g y z := by
  obtain ⟨_, rfl, x, xs, d1, d2, rfl, rfl, h1, x2, xs2, d3, d4, rfl, rfl, ⟨rfl, _, rfl⟩, rfl, rfl⟩ := h
  obtain ⟨y, z, rfl, rfl⟩ := RAr_it h1
  exact ⟨y, z, rfl, by simp⟩
theorem itmO_mem {a : List It} {r num : Int} {x : It} (h : itmO a r num = some x) : x ∈ a := by
  unfold itmO at h
  split at h
  · split at h
    · cases h
    · exact List.mem_of_getElem? h
  · cases h
theorem d5 (a : List It) (r num : Int) (hl : a.length ≤ 9223372036854775807) (hW : ∀ o ∈ a, Wd o.o ∧ o.data.size ≤ 9223372036854775807) :
    CSD Try.prog 5 [.b (.v (docT a r)), .b (.v (.int .i64 num))] [.bool true] [] := by
  have h6 := oc28 a r 1048576 (by omega) (by omega) hl hW
  have hrest : ¬ szD a 1048576 < 0 → ∃ (g : It) (b : Bool), CS Try.prog false 17 [.v (docT a r)] [docT a r] [] ∧ CS Try.prog false 16 [.v (docT a r), .v (.int .i64 num)] [g.t, .bool b] [] ∧
      CS Try.prog false 18 [.v (docT a r), .v (.int .i64 num)] [g.t, .bool b] [] ∧ CS Try.prog false 20 [.v (docT a r), .v (docT a r)] [.bool true] [] ∧ CS Try.prog false 19 [.v g.t, .v g.t] [.bool true] [] ∧
      D17 a r ∧ CSD Try.prog 18 [.b (.v (docT a r)), .b (.v (.int .i64 num))] [g.t, .bool b] [] ∧ D54 a 1 ∧ Sm g.o ∧ nmT g.o ≤ 16777216 := fun h => by
    obtain ⟨hlen, hT⟩ := tn_of_szD a 1048576 (by omega) (by omega)
    have hn := nmIs_szD a 1048576 (by omega) (by omega)
    have hT1 : ∀ o ∈ a, Tn o.o := fun o ho => (hT o ho).1
    have hS : ∀ o ∈ a, Sm o.o := fun o ho => (hT1 o ho).sm
    have hg : Sm (itOf (itmO a r num)).o ∧ nmT (itOf (itmO a r num)).o ≤ 16777216 := by
      cases he : itmO a r num with
      | none => exact ⟨.mk _ _ _ _ _ (by simp [itOf]) (by simp [itOf]) (by simp [itOf]), by show (0 + nmK []) ≤ _; simp [nmK]⟩
      | some x =>
        have hm := itmO_mem he
        exact ⟨hS x hm, Nat.le_trans (nmIs_mem hm) hn⟩
    exact ⟨itOf (itmO a r num), _, oc30 a r hlen hS, v16 a r num hlen hT1, v18 a r num hlen hT1, oc32 a r hlen hS, oc40 _ hg.1, d17 a r (d49 a hlen fun o ho => d67 o (hS o ho)), d18 a r num hlen hT1,
      d54 a 1 hlen (by omega) (by omega) fun o ho => hb o.o (hS o ho), hg.1, hg.2⟩
  generalize szD a 1048576 = sz at h6 hrest
  unfold docT its at h6
  have hvw : CSD Try.prog 5 [.b (.v (.agg [.list 8 (a.map It.t), .int .i64 r])), .b (.v (.int .i64 num))] [.bool true] [] := by
    refine CSD_views (xs := [.v (.agg [.list 8 (a.map It.t), .int .i64 r]), .v (.int .i64 num)]) tab_ok Try.func5 rfl rfl Try.ntmps5 (rl := [.tmp 4]) rfl (Nat.le_of_ble_eq_true rfl) ?_
    refine WWD_seqB tab_ok mdE ?_
    simp only [go_sem]
    refine WWD_seqB tab_ok mdE ?_
    simp only [go_sem]
    refine WWD_seqB tab_ok mdE ?_
    simp only [go_sem]
    refine act_callE h6 ?_
    simp only [go_sem]
    refine WWD_seqB tab_ok mdE ?_
    simp only [go_sem]
    refine act_split (fun h => ?_) (fun h => ?_) <;> simp only [go_sem] <;> simp only [decide_eq_true_eq, decide_eq_false_iff_not] at h
    · exact ⟨[.bool true], [], by simp only [go_sem], rfl, [], _, RAL_true, .refl _⟩
    obtain ⟨g, b, c17, c16, c18, c20, c19, dd17, dd18, dd54, hSg, hng⟩ := hrest h
    have c17' := c17
    unfold docT its at c17' c16 c18
    rw [It.t_def g] at c16 c18
    -- the reference's answer
    refine WWD_seqB tab_ok mdE ?_
    simp only [go_sem]
    refine act_callE c17' ?_
    simp only [go_sem]
    refine act_callE c16 ?_
    simp only [go_sem]
    -- a document of one's own
    refine WWD_seq ?_
    refine WWD_region tab_ok mdE 1 rfl rfl rfl ?_
    simp only [go_sem]
    refine ⟨[.b (.v (docT a r))], [docT a r], [], [], [], dd17, ⟨_, _, _, rfl, rfl, RdA_docv _ _ a r, rfl, rfl, rfl⟩, .refl _, ?_⟩
    rintro _ _ ⟨_, rfl, hra⟩
    obtain ⟨y, rfl, rfl⟩ := RAr_dc hra
    unfold restD dcR
    simp only [go_sem]
    -- the program's answer
    refine WWD_seq ?_
    refine WWD_region tab_ok mdE 2 rfl rfl rfl ?_
    simp only [go_sem]
    refine ⟨[.b (.v (docT a r)), .b (.v (.int .i64 num))], _, [], [], _, dd18, ⟨_, _, _, rfl, rfl, RdA_doc _ _ a r y (by simp), _, _, _, rfl, rfl, .inr rfl, rfl, rfl, rfl⟩, .refl _, ?_⟩
    intro av dn hrv
    obtain ⟨y2, z2, rfl, rfl⟩ := ResV_itm hrv
    unfold restD itR itD
    simp only [go_sem]
    -- they are alike
    have hb : (b != b) = false := by simp
    have hb2 : (!(b == b)) = false := by simp
    refine WWD_seq ?_
    refine WWD_seq ?_
    refine WWD_region tab_ok mdE 2 rfl rfl rfl ?_
    simp only [go_sem]
    refine ⟨[.b (.v g.t), .b (.v g.t)], [.bool true], [], [], _, CSD_scal rfl c19, ⟨_, _, _, rfl, rfl, RdA_it _ _ g y2 z2 (by simp) (by simp), _, _, _, rfl, rfl, RdA_itv _ _ g, rfl, rfl, rfl⟩, .refl _, ?_⟩
    rintro _ _ ⟨_, rfl, rfl, _, rfl⟩
    unfold restD
    simp only [go_sem, hb, hb2]
    refine WWD_act tab_ok mdE ?_
    simp only [go_sem]
    -- the argument stays
    refine WWD_seq ?_
    refine WWD_seq ?_
    refine WWD_draw tab_ok mix mdE [0,1,2,3,4] 3 3 rfl rfl rfl (by kernel_rfl) ?_
    simp only [go_sem]
    refine act_callE c17' ?_
    simp only [go_sem]
    refine ⟨⟨by kernel_rfl, by kernel_rfl⟩, ?_⟩
    refine ⟨[.b (.v (docT a r)), .b (.v (docT a r))], [.bool true], [], [], _, CSD_scal rfl c20, ⟨_, _, _, rfl, rfl, RdA_doc _ _ a r y (by simp), _, _, _, rfl, rfl, RdA_docv _ _ a r, rfl, rfl, rfl⟩, .refl _, ?_⟩
    rintro _ _ ⟨_, rfl, rfl, _, rfl⟩
    unfold restDr
    simp only [go_sem]
    refine ⟨by kernel_rfl, ?_⟩
    refine WWD_act tab_ok mdE ?_
    simp only [go_sem]
    -- the argument is marked
    refine WWD_seqB tab_ok mdE ?_
    simp only [go_sem]
    refine WWD_seq ?_
    refine WWD_region tab_ok mdE 2 rfl rfl rfl ?_
    simp only [go_sem]
    refine ⟨_, _, [(y, its a)], [(y, its (mkIs a 1))], [(y2, strs g.ks), (z2, obs g.kids)], d21 a r 1 dd54, ⟨dcR r y, _, [(y, its a)], [], [(y, its (mkIs a 1))], [], rfl, rfl, rfl, RAr_dmk a r y, RAr_dmk (mkIs a 1) r y, _, _, _, rfl, rfl, .inr rfl, rfl, rfl, rfl⟩, ?_, ?_⟩
    · exact List.perm_append_comm (l₁ := [(y2, strs g.ks), (z2, obs g.kids)]) (l₂ := [(y, its a)])
    rintro _ _ ⟨_, rfl, rfl, _, rfl⟩
    unfold restD
    simp only [go_sem]
    have n2 : ∀ m : Nat, decide (((m : Nat) : Int) < 0) = false := fun m => by simp
    have n3 : ∀ m : Nat, (((m : Nat) : Int) != (m : Nat)) = false := fun m => by simp
    generalize hmo : nmIs a = mo
    -- the answer does not hang on it
    refine WWD_seq ?_
    refine WWD_seq ?_
    refine WWD_region tab_ok mdE 5 rfl rfl rfl ?_
    simp only [go_sem, n2]
    refine ⟨[.b (.v g.t), .b (.v g.t)], [.bool true], [], [], _, CSD_scal rfl c19, ⟨_, _, _, rfl, rfl, RdA_it _ _ g y2 z2 (by simp) (by simp), _, _, _, rfl, rfl, RdA_itv _ _ g, rfl, rfl, rfl⟩, .refl _, ?_⟩
    rintro _ _ ⟨_, rfl, rfl, _, rfl⟩
    unfold restD
    simp only [go_sem, hb, hb2]
    refine WWD_act tab_ok mdE ?_
    simp only [go_sem]
    -- the answer is marked
    refine WWD_seqB tab_ok mdE ?_
    simp only [go_sem]
    refine WWD_seq ?_
    refine WWD_region tab_ok mdE 2 rfl rfl rfl ?_
    simp only [go_sem]
    have hm := d22 g hSg 1 (by omega) (by omega)
    have hh := e23 g hSg 1 (by omega) (by omega)
    generalize nmT g.o = mg at hm hh
    refine ⟨_, _, [(y2, strs g.ks), (z2, obs g.kids)], [(y2, strs (mkL 1 g.ks.length)), (z2, obs (mkKs g.kids (1 + g.ks.length)))], [(y, its (mkIs a 1))], hm, ⟨itR g y2 z2, _, [(y2, strs g.ks), (z2, obs g.kids)], [], [(y2, strs (mkL 1 g.ks.length)), (z2, obs (mkKs g.kids (1 + g.ks.length)))], [], rfl, rfl, rfl, RAr_imk g y2 z2, RAr_imk (itTop g 1) y2 z2, _, _, _, rfl, rfl, .inr rfl, rfl, rfl, rfl⟩, ?_, ?_⟩
    · exact List.perm_append_comm (l₁ := [(y, its (mkIs a 1))]) (l₂ := [(y2, strs g.ks), (z2, obs g.kids)])
    rintro _ _ ⟨_, rfl, rfl, _, rfl⟩
    unfold restD
    simp only [go_sem]
    -- it is held
    refine WWD_seqB tab_ok mdE ?_
    simp only [go_sem]
    refine WWD_seq ?_
    refine WWD_region tab_ok mdE 2 rfl rfl rfl ?_
    simp only [go_sem]
    refine ⟨[.b (.v (itTop g 1).t), .b (.v (.int .i64 ((1 : Nat) : Int)))], _, [], [], _, CSD_scal rfl hh, ⟨_, _, _, rfl, rfl, RdA_it _ _ (itTop g 1) y2 z2 (by simp [itTop]) (by simp [itTop]), _, _, _, rfl, rfl, .inr rfl, rfl, rfl, rfl⟩, .refl _, ?_⟩
    rintro _ _ ⟨_, rfl, rfl, _, rfl⟩
    unfold restD
    simp only [go_sem]
    refine WWD_seqB tab_ok mdE ?_
    simp only [go_sem, n2]
    refine WWD_seqB tab_ok mdE ?_
    simp only [go_sem, n3]
    -- another call
    refine WWD_seqB tab_ok mdE ?_
    simp only [go_sem]
    refine act_callE c17' ?_
    simp only [go_sem]
    refine act_callE c18 ?_
    simp only [go_sem]
    rw [It.t_def g] at c19
    refine WWD_seqB tab_ok mdE ?_
    simp only [go_sem]
    refine act_callE c19 ?_
    simp only [go_sem, hb, hb2]
    refine WWD_seqB tab_ok mdE ?_
    simp only [go_sem]
    refine WWD_seq ?_
    refine WWD_region tab_ok mdE 2 rfl rfl rfl ?_
    simp only [go_sem]
    refine ⟨[.b (.v (itTop g 1).t), .b (.v (.int .i64 ((1 : Nat) : Int)))], _, [], [], _, CSD_scal rfl hh, ⟨_, _, _, rfl, rfl, RdA_it _ _ (itTop g 1) y2 z2 (by simp [itTop]) (by simp [itTop]), _, _, _, rfl, rfl, .inr rfl, rfl, rfl, rfl⟩, .refl _, ?_⟩
    rintro _ _ ⟨_, rfl, rfl, _, rfl⟩
    unfold restD
    simp only [go_sem]
    refine WWD_seqB tab_ok mdE ?_
    simp only [go_sem, n2]
    refine WWD_seqB tab_ok mdE ?_
    simp only [go_sem, n3]
    refine WWD_act tab_ok mdE ?_
    simp only [go_sem]
    exact ⟨[.bool true], [], by simp only [go_sem], rfl, [], _, RAL_true, .refl _⟩
  exact hvw
theorem c5 (a : List It) (r num : Int) (hl : a.length ≤ 9223372036854775807) (hW : ∀ o ∈ a, Wd o.o ∧ o.data.size ≤ 9223372036854775807) : CS Try.prog false 5 [.v (docT a r), .v (.int .i64 num)] [.bool true] [] := CS_of_CSD rfl (d5 a r num hl hW)
end Go.Proofs.Ytplhmfpbombjkaa.M
