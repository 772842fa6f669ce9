/- slices.Delete and slices.Insert, walked: cells alone. No condition. -/
import Derived.WalkKit
import Derived.Lib.Walk
import Derived.Lib.SliceRun
import Derived.Lib.Hide
import Derived.Deep.RegionLaw
import Derived.Deep.LoopGhost
import Derived.Laws.IdiomCopy
import Derived.Sort.WalkB12
import Derived.Lib.SlicesDelete
import Derived.Lib.SlicesS
import Derived.Test.YtikegeligblekaaGreatKExactSameDoc9
/- slices.Delete and slices.Insert, walked: cells alone. No condition. -/
namespace Go.Proofs.YtikegeligblekaaGreat.M
open Go Go.Proofs Go.RowKit Go.Lib Go.Sort
set_option linter.unusedSimpArgs false
set_option linter.unusedVariables false
theorem isSome_setCellsM (b : Nat) (vs : List Value) (o : Nat) (w : World) (h : ∀ j, j < vs.length → (w.cell? ⟨b, o + j, none⟩).isSome = true) (k : Nat) (hk : (w.cell? ⟨b, k, none⟩).isSome = true) : ((w.setCells b o vs).cell? ⟨b, k, none⟩).isSome = true := by
  by_cases hin : o ≤ k ∧ k < o + vs.length
  · have := World.cell?_setCells_in b vs o w h (k - o) (by omega)
    rw [show o + (k - o) = k by omega] at this
    rw [this]; rfl
  · rw [World.cell?_setCells_out b vs o w ⟨b, k, none⟩ (fun _ _ => by show k < o ∨ o + vs.length ≤ k; omega)]
    exact hk
theorem zeroCells_one (z : Array Value) : Builtin.zeroCells z 1 = z := by
  unfold Builtin.zeroCells
  apply Array.ext
  · simp
  · intro i h1 h2
    simp only [Nat.one_mul] at h1 ⊢
    simp [Nat.mod_eq_of_lt h2, h2]
theorem run_clear_one {P : Program} (w : World) (t e ty : TypeId) (z : Value) (ht : P.underlying t = some (.slice e)) (hv : ∀ w, (zeroValue e).run P w = .ok z w) (h1 : ∀ v ∈ z.cells.toList, v.oneCell' = true) (b o c : Nat)
    (hc : ∀ j, j < z.cells.size → (w.cell? ⟨b, o + j, none⟩).isSome = true) (hf : ∀ j, j < z.cells.size → w.frozen? ⟨b, o + j, none⟩ = false) :
    (Builtin.clear_ #[t] ty #[.slice (some ⟨b, o, none⟩) 1 c]).run P w = .ok (.tuple #[]) (w.setCells b o z.cells.toList) := by
  have hst := run_storeCells_cells (P := P) b o z.cells.toList 0 w (by simpa using hc) (by simpa using hf) h1
  simp only [Nat.add_zero] at hst
  simp [Builtin.clear_, run_underlying ht, hv, zeroCells_one, hst]
theorem run_copy_cellsK {P : Program} (w : World) (dT sT ty elem : TypeId) (b o dLen dCap : Nat) (a : Addr) (sLen sCap : Nat) (cs : List Value) (k : Nat)
    (hu : P.underlying dT = some (.slice elem)) (hs : (P.info? elem).map (·.size) = some k) (hn : cs.length = Nat.min sLen dLen * k)
    (hsrc : ∀ (j : Nat) v, cs[j]? = some v → w.cell? (a.add j) = some v) (hc : ∀ j, j < cs.length → (w.cell? ⟨b, o + j, none⟩).isSome = true) (hf : ∀ j, j < cs.length → w.frozen? ⟨b, o + j, none⟩ = false) (h1 : ∀ v ∈ cs, v.oneCell' = true) :
    (Builtin.copy_ #[dT, sT] ty #[.slice (some ⟨b, o, none⟩) dLen dCap, .slice (some a) sLen sCap]).run P w = .ok (goInt (Nat.min sLen dLen : Nat)) (w.setCells b o cs) := by
  have hl := run_loadCells_list (P := P) w a cs hsrc
  have hst := run_storeCells_cells (P := P) b o cs 0 w (by simpa using hc) (by simpa using hf) h1
  rw [Nat.add_zero] at hst
  rw [hn] at hl
  cases hq : P.info? elem with
  | none => simp [hq] at hs
  | some i =>
    obtain rfl : i.size = k := by simpa [hq] using hs
    simp [Builtin.copy_, run_underlying hu, Builtin.lenOf, Builtin.firstCells, sizeOf, typeInfo, hq, hl, hst]
theorem shape_of {w : World} {a : Addr} (h : (w.cell? a).isSome = true) : ∃ t k, w.shape? a.block = some (t, k + 1) := by
  unfold World.cell? at h
  unfold World.shape?
  split at h
  · rename_i c t f hb
    split at h
    · simp at h
    · have : a.off < c.size := by
        by_cases hlt : a.off < c.size
        · exact hlt
        · rw [Array.getElem?_eq_none (by omega)] at h; simp at h
      exact ⟨t, c.size - 1, by simp; omega⟩
  · simp at h
theorem run_overlaps_any {P : Program} (w : World) (tS tR e : TypeId) (ht : P.underlying tS = some (.slice e)) (i0 : TypeInfo) (hi0 : P.info? e = some i0) (hs0 : 0 < i0.size)
    (a b : Addr) (la ca lb cb : Nat) (hla : 0 < la) (hlb : 0 < lb) (hne : a.block ≠ b.block) (hca : (w.cell? a).isSome = true) (hcb : (w.cell? b).isSome = true) (hf : w.frozen? b = false) :
    ∃ r w1, (Extern.SlicesOverlaps.overlaps #[tS, tS] #[tR] #[.slice (some a) la ca, .slice (some b) lb cb]).run P w = .ok (.bool r) w1 ∧ (w1 = w ∨ w1 = w.drew) := by
  have hnb : (a.block != b.block) = true := by simpa using hne
  have hnb' : (a.block == b.block) = false := by simpa using hne
  obtain ⟨tA, kA, hsa⟩ := shape_of hca
  obtain ⟨tB, kB, hsb⟩ := shape_of hcb
  change ∃ r w1, Sem.run P (α := Value) (do
    let some t := (#[tS, tS] : Array TypeId)[0]? | stuck "slices.overlaps: no parameter types"
    let .slice elem ← underlying t | stuck "slices.overlaps: slice type expected"
    let size ← sizeOf elem
    match (some a : Option Addr), (some b : Option Addr) with
    | some a, some b =>
      if la = 0 ∨ lb = 0 ∨ size = 0 then pure (Value.bool false)
      else if a.block != b.block && (← frozen a) && (← frozen b) then unsupported .addressObserved
      else do
        if a.block != b.block then do
          noView a; noView b
          if ← mayBeOne a b then return Value.bool ((← choose (.extern "sameAddr.stringBytes" 2)) == 1)
        pure (Value.bool (a.block == b.block && a.off < b.off + lb * size && b.off < a.off + la * size))
    | _, _ => pure (Value.bool false)) w = .ok (.bool r) w1 ∧ _
  have h1 : la ≠ 0 := by omega
  have h2 : lb ≠ 0 := by omega
  have h3 : i0.size ≠ 0 := by omega
  have hqf : (Question.extern "sameAddr.stringBytes" 2).forced = false := rfl
  cases hX : ((Question.extern "sameAddr.stringBytes" 2).cut (w.tape w.drawn (Question.extern "sameAddr.stringBytes" 2)) == 1) <;> cases hfa : w.frozen? a <;> cases hfa2 : w.frozen? { block := a.block, off := kA + 1 } <;> cases hfb2 : w.frozen? { block := b.block, off := kB + 1 } <;>
    simp [run_underlying ht, sizeOf, typeInfo, hi0, h1, h2, h3, hnb, hnb', frozen, noView, viewAt, mayBeOne, stringish, shape, Sem.run, hsa, hsb, hfa, hf, hfa2, hfb2, hqf, hX]
theorem step_copy_runM {P : Program} {ops : Array Oper} {o : Oper} {a : Act} {w : World} {K : Act → World → Prop} {Q : Exit → Act → World → Prop} {E : Prop}
    (hg : o.guard = none) (d x : Operand) (dT sT : TypeId) (hop : o.op = Op.call { callee := Callee.builtin Builtin.copy, args := #[d, x], argTypes := #[dT, sT] })
    (v u : Value) (hd : a.eval d = v) (hx : a.eval x = u) {v' : Value} {w' : World} (hr : (Builtin.copy_ #[dT, sT] o.type #[v, u]).run P w = .ok v' w') (hK : K (a.put o.dst v') w') :
    if Region.wanted o (yielded ops a.tmps) = true then Oper.wp P o a w K Q else E := by
  have hw : Region.wanted o (yielded ops a.tmps) = true := by simp [Region.wanted, hg]
  rw [if_pos hw]
  unfold Oper.wp
  simp [execOp, hop, resolve, invoke, builtin, hd, hx, hr, Result.andThen]
  exact hK
theorem wpList_copy_runM {P : Program} (w : World) {ops : Array Oper} {rest : List Oper} {o : Oper} {a : Act} {Q : Exit → Act → World → Prop} (hgd : o.guard = none) (d s : Operand) (t t' : TypeId)
    (ho : o.op = .call { callee := .builtin .copy, args := #[d, s], argTypes := #[t, t'] }) (v u : Value) (hd : a.eval d = v) (hs : a.eval s = u) {v' : Value} {w' : World}
    (hr : (Builtin.copy_ #[t, t'] o.type #[v, u]).run P w = .ok v' w') (h : wpList P ops Q rest (a.put o.dst v') w') : wpList P ops Q (o :: rest) a w :=
  wpList_plain hgd fun K hK => by
    have : o.wp P a w K Q := by
      unfold Oper.wp execOp
      simp only [ho, resolve, invoke, builtin, Sem.run_bind, Sem.run_pure, Result.andThen_ok, List.map_toArray, List.map_cons, List.map_nil, hd, hs, hr]
      exact hK _ _ h
    exact this
set_option maxHeartbeats 4000000 in
set_option maxRecDepth 1000000 in
theorem del67 (b off n c i : Nat) (cs : List Value) (w : World) (hi : i < n) (hnc : n ≤ c) (hcl : cs.length = n * 1)
    (hcs : ∀ (j : Nat) v, cs[j]? = some v → w.cell? ⟨b, off + j, none⟩ = some v) (hfz : ∀ j, j < n * 1 → w.frozen? ⟨b, off + j, none⟩ = false) (h1c : ∀ v ∈ cs, v.oneCell' = true)
    (zv : Value) (hzv : ∀ w, (zeroValue 9).run Tryz.prog w = .ok zv w) (hz1 : ∀ v ∈ zv.cells.toList, v.oneCell' = true) (hzs : zv.cells.size = 1) (i0 : TypeInfo) (hi0 : Tryz.prog.info? 9 = some i0) (hi1 : i0.size = 1) :
    Calls Tryz.prog 67 #[.slice (some ⟨b, off, none⟩) n c, .int .i64 i, .int .i64 (i + 1)] w fun e w' =>
      e = .returned (.slice (some ⟨b, off, none⟩) (n - 1) c) ∧ w' = (w.drew.setCells b (off + i * 1) (cs.drop ((i + 1) * 1))).setCells b (off + (n - 1) * 1) zv.cells.toList := by
  obtain ⟨news, hnews⟩ : ∃ news, news = cs.drop ((i + 1) * 1) := ⟨_, rfl⟩
  have hlen : news.length = (n - (i + 1)) * 1 := by rw [hnews, List.length_drop, hcl, Nat.sub_mul]
  have hex : ∀ j, j < n * 1 → (w.cell? ⟨b, off + j, none⟩).isSome = true := fun j hj => by rw [hcs j _ (List.getElem?_eq_getElem (by omega))]; rfl
  have hin1 : (i + 1) * 1 ≤ n * 1 := Nat.mul_le_mul_right _ hi
  have hsum : i * 1 + 1 = (i + 1) * 1 := by rw [Nat.add_mul, Nat.one_mul]
  have hn1 : (n - 1) * 1 + 1 = n * 1 := by obtain ⟨m, rfl⟩ : ∃ m, n = m + 1 := ⟨n - 1, by omega⟩; rw [Nat.add_sub_cancel, Nat.add_mul, Nat.one_mul]
  obtain ⟨A, hA, hsrc⟩ : ∃ A : Addr, (if c = i + 1 then some (⟨b, off, none⟩ : Addr) else some ⟨b, off + (i + 1) * 1, none⟩) = some A ∧ Hid (∀ (t : Nat) u, news[t]? = some u → w.drew.cell? (A.add t) = some u) := by
    by_cases h : c = i + 1
    · refine ⟨⟨b, off, none⟩, by simp [h], fun t u hu => ?_⟩
      have h0 : news.length = 0 := by rw [hlen, show n - (i + 1) = 0 by omega, Nat.zero_mul]
      rw [List.length_eq_zero_iff.1 h0] at hu
      simp at hu
    · refine ⟨⟨b, off + (i + 1) * 1, none⟩, by simp [h], fun t u hu => ?_⟩
      rw [Addr.add_lit, Nat.add_assoc]
      exact hcs _ u (by rw [hnews, List.getElem?_drop] at hu; exact hu)
  have s1 : Hid (news.length = (n - (i + 1)) * 1) := hlen
  have s2 : Hid (∀ u ∈ news, u.oneCell' = true) := fun u hu => h1c u (by rw [hnews] at hu; exact List.mem_of_mem_drop hu)
  have s3 : Hid (∀ t, t < news.length → (w.drew.cell? ⟨b, off + i * 1 + t, none⟩).isSome = true ∧ w.drew.frozen? ⟨b, off + i * 1 + t, none⟩ = false) := fun t ht => by
    rw [hlen, Nat.sub_mul] at ht
    rw [Nat.add_assoc]
    exact ⟨hex _ (by omega), hfz _ (by omega)⟩
  obtain ⟨W1, hW1⟩ : ∃ W1, W1 = w.drew.setCells b (off + i * 1) news := ⟨_, rfl⟩
  have hx1 : ∀ j, j < n * 1 → (W1.cell? ⟨b, off + j, none⟩).isSome = true := fun j hj => by
    rw [hW1]
    exact isSome_setCellsM b _ _ _ (fun t ht => (s3 t ht).1) _ (hex j hj)
  have hf1 : ∀ j, j < n * 1 → W1.frozen? ⟨b, off + j, none⟩ = false := fun j hj => by rw [hW1, World.frozen?_setCells]; exact hfz j hj
  have hcl : ∀ ty, (Builtin.clear_ #[34] ty #[.slice (some ⟨b, off + (n - 1) * 1, none⟩) 1 (c - (n - 1))]).run Tryz.prog W1 = .ok (.tuple #[]) (W1.setCells b (off + (n - 1) * 1) zv.cells.toList) :=
    fun ty => run_clear_one W1 34 9 ty zv Tryz.underlying34 hzv hz1 b _ _ (fun j hj => by rw [Nat.add_assoc]; exact hx1 _ (by rw [hzs] at hj; omega)) (fun j hj => by rw [Nat.add_assoc]; exact hf1 _ (by rw [hzs] at hj; omega))
  have hW : Hid (W1 = w.drew.setCells b (off + i * 1) news) := hW1
  have hN : Hid (news = cs.drop ((i + 1) * 1)) := hnews
  try simp only [Nat.mul_one] at hcl
  have hI1 : (0 : Int) ≤ (i : Int) + 1 := by omega
  have hI2 : (i : Int) + 1 ≤ (n : Int) := by omega
  have hI3 : ((i : Int) + 1).toNat = i + 1 := by omega
  have hI4 : n - i - 1 = n - (i + 1) := by omega
  have hI5 : i + (n - (i + 1)) = n - 1 := by omega
  have hI6 : n - (n - 1) = 1 := by omega
  have hic : i ≤ c := by omega
  have hjc : i + 1 ≤ c := by omega
  have hin : i + 1 ≤ n := hi
  clear hW1 hnews hlen hx1 hf1 hcs hfz h1c hex
  go_enter Tryz.func67, Tryz.ntmps67
  go_wp2_with fail
  go_region_law (refine step_append_room rfl (.tmp 22) (.tmp 25) 34 rfl 9 i0 1 Tryz.underlying34 hi0 hi1 b off i c (by simp [Act.eval, Act.put]) A (n - (i + 1)) (c - (i + 1)) news (by first | (simp [Act.eval, Act.put]; done) | (simp [Act.eval, Act.put]; simpa using hA)) s1.out hsrc.out s2.out (by omega) s3.out ?_; rw [← hW.out])
  go_wp2
  all_goals (go_ret; exact ⟨rfl, by rw [hW.out, hN.out]; first | done | rfl | simp⟩)
set_option maxHeartbeats 4000000 in
set_option maxRecDepth 1000000 in
theorem del68 (b off n c i : Nat) (cs : List Value) (w : World) (hi : i < n) (hnc : n ≤ c) (hcl : cs.length = n * 5)
    (hcs : ∀ (j : Nat) v, cs[j]? = some v → w.cell? ⟨b, off + j, none⟩ = some v) (hfz : ∀ j, j < n * 5 → w.frozen? ⟨b, off + j, none⟩ = false) (h1c : ∀ v ∈ cs, v.oneCell' = true)
    (zv : Value) (hzv : ∀ w, (zeroValue 37).run Tryz.prog w = .ok zv w) (hz1 : ∀ v ∈ zv.cells.toList, v.oneCell' = true) (hzs : zv.cells.size = 5) (i0 : TypeInfo) (hi0 : Tryz.prog.info? 37 = some i0) (hi1 : i0.size = 5) :
    Calls Tryz.prog 68 #[.slice (some ⟨b, off, none⟩) n c, .int .i64 i, .int .i64 (i + 1)] w fun e w' =>
      e = .returned (.slice (some ⟨b, off, none⟩) (n - 1) c) ∧ w' = (w.drew.setCells b (off + i * 5) (cs.drop ((i + 1) * 5))).setCells b (off + (n - 1) * 5) zv.cells.toList := by
  obtain ⟨news, hnews⟩ : ∃ news, news = cs.drop ((i + 1) * 5) := ⟨_, rfl⟩
  have hlen : news.length = (n - (i + 1)) * 5 := by rw [hnews, List.length_drop, hcl, Nat.sub_mul]
  have hex : ∀ j, j < n * 5 → (w.cell? ⟨b, off + j, none⟩).isSome = true := fun j hj => by rw [hcs j _ (List.getElem?_eq_getElem (by omega))]; rfl
  have hin1 : (i + 1) * 5 ≤ n * 5 := Nat.mul_le_mul_right _ hi
  have hsum : i * 5 + 5 = (i + 1) * 5 := by rw [Nat.add_mul, Nat.one_mul]
  have hn1 : (n - 1) * 5 + 5 = n * 5 := by obtain ⟨m, rfl⟩ : ∃ m, n = m + 1 := ⟨n - 1, by omega⟩; rw [Nat.add_sub_cancel, Nat.add_mul, Nat.one_mul]
  obtain ⟨A, hA, hsrc⟩ : ∃ A : Addr, (if c = i + 1 then some (⟨b, off, none⟩ : Addr) else some ⟨b, off + (i + 1) * 5, none⟩) = some A ∧ Hid (∀ (t : Nat) u, news[t]? = some u → w.drew.cell? (A.add t) = some u) := by
    by_cases h : c = i + 1
    · refine ⟨⟨b, off, none⟩, by simp [h], fun t u hu => ?_⟩
      have h0 : news.length = 0 := by rw [hlen, show n - (i + 1) = 0 by omega, Nat.zero_mul]
      rw [List.length_eq_zero_iff.1 h0] at hu
      simp at hu
    · refine ⟨⟨b, off + (i + 1) * 5, none⟩, by simp [h], fun t u hu => ?_⟩
      rw [Addr.add_lit, Nat.add_assoc]
      exact hcs _ u (by rw [hnews, List.getElem?_drop] at hu; exact hu)
  have s1 : Hid (news.length = (n - (i + 1)) * 5) := hlen
  have s2 : Hid (∀ u ∈ news, u.oneCell' = true) := fun u hu => h1c u (by rw [hnews] at hu; exact List.mem_of_mem_drop hu)
  have s3 : Hid (∀ t, t < news.length → (w.drew.cell? ⟨b, off + i * 5 + t, none⟩).isSome = true ∧ w.drew.frozen? ⟨b, off + i * 5 + t, none⟩ = false) := fun t ht => by
    rw [hlen, Nat.sub_mul] at ht
    rw [Nat.add_assoc]
    exact ⟨hex _ (by omega), hfz _ (by omega)⟩
  obtain ⟨W1, hW1⟩ : ∃ W1, W1 = w.drew.setCells b (off + i * 5) news := ⟨_, rfl⟩
  have hx1 : ∀ j, j < n * 5 → (W1.cell? ⟨b, off + j, none⟩).isSome = true := fun j hj => by
    rw [hW1]
    exact isSome_setCellsM b _ _ _ (fun t ht => (s3 t ht).1) _ (hex j hj)
  have hf1 : ∀ j, j < n * 5 → W1.frozen? ⟨b, off + j, none⟩ = false := fun j hj => by rw [hW1, World.frozen?_setCells]; exact hfz j hj
  have hcl : ∀ ty, (Builtin.clear_ #[35] ty #[.slice (some ⟨b, off + (n - 1) * 5, none⟩) 1 (c - (n - 1))]).run Tryz.prog W1 = .ok (.tuple #[]) (W1.setCells b (off + (n - 1) * 5) zv.cells.toList) :=
    fun ty => run_clear_one W1 35 37 ty zv Tryz.underlying35 hzv hz1 b _ _ (fun j hj => by rw [Nat.add_assoc]; exact hx1 _ (by rw [hzs] at hj; omega)) (fun j hj => by rw [Nat.add_assoc]; exact hf1 _ (by rw [hzs] at hj; omega))
  have hW : Hid (W1 = w.drew.setCells b (off + i * 5) news) := hW1
  have hN : Hid (news = cs.drop ((i + 1) * 5)) := hnews
  try simp only [Nat.mul_one] at hcl
  have hI1 : (0 : Int) ≤ (i : Int) + 1 := by omega
  have hI2 : (i : Int) + 1 ≤ (n : Int) := by omega
  have hI3 : ((i : Int) + 1).toNat = i + 1 := by omega
  have hI4 : n - i - 1 = n - (i + 1) := by omega
  have hI5 : i + (n - (i + 1)) = n - 1 := by omega
  have hI6 : n - (n - 1) = 1 := by omega
  have hic : i ≤ c := by omega
  have hjc : i + 1 ≤ c := by omega
  have hin : i + 1 ≤ n := hi
  clear hW1 hnews hlen hx1 hf1 hcs hfz h1c hex
  go_enter Tryz.func68, Tryz.ntmps68
  go_wp2_with fail
  go_region_law (refine step_append_room rfl (.tmp 22) (.tmp 25) 35 rfl 37 i0 5 Tryz.underlying35 hi0 hi1 b off i c (by simp [Act.eval, Act.put]) A (n - (i + 1)) (c - (i + 1)) news (by first | (simp [Act.eval, Act.put]; done) | (simp [Act.eval, Act.put]; simpa using hA)) s1.out hsrc.out s2.out (by omega) s3.out ?_; rw [← hW.out])
  go_wp2
  all_goals (go_ret; exact ⟨rfl, by rw [hW.out, hN.out]; first | done | rfl | simp⟩)
theorem CS_calls' {P : Program} {own : Bool} {f : FuncId} {fn : Func} {c : Code} (hf : P.funcs[f]? = some fn) (hb : fn.body = some c) (hname : (fn.name == "runtime.NumGoroutine") = false) {args : List AA} {rs : List T} {os : List (List BC)}
    (h : ∀ (G : Nat → Prop) (w : World) (vals : List Value) (bs : List Nat), ArgsOk (inV G w) w args vals bs → bs.Nodup → (∀ b ∈ bs, b < w.heap.size ∧ ¬ G b) → (∀ b, G b → b < w.heap.size) →
      Calls P f vals.toArray w fun e w' => ∃ v, e = .returned v ∧ ∃ r1 r2, Fr bs w w' ∧ ResOk own (inV (fun b => G b ∨ (w.heap.size ≤ b ∨ b ∈ bs) ∧ b ∉ r1 ++ r2) w') w' rs v r1 ∧
      OutsOk (inV (fun b => G b ∨ (w.heap.size ≤ b ∨ b ∈ bs) ∧ b ∉ r1 ++ r2) w') w' args vals os r2 ∧ (r1 ++ r2).Nodup ∧ ∀ b ∈ r1 ++ r2, b < w'.heap.size ∧ (b ∈ bs ∨ w.heap.size ≤ b)) : CS P own f args rs os := by
  intro G w vals bs hA hnd hbs hG
  have hname' : ¬ fn.name = "runtime.NumGoroutine" := by simpa using hname
  exact .inl ⟨by simp [callFunc, hf, hname', hb], h G w vals bs hA hnd hbs hG⟩
theorem Fr.mono {bs bs' : List Nat} {w w' : World} (h : Fr bs w w') (hb : ∀ k ∈ bs, k ∈ bs') : Fr bs' w w' := ⟨h.os, h.tape, h.output, h.size, fun k hk hn => h.block k hk fun hh => hn (hb k hh), h.stay, h.unfr⟩
theorem Fr.setCells (w : World) (b o : Nat) (vs : List Value) : Fr [b] w (w.setCells b o vs) :=
  ⟨setCells_os b vs o w, setCells_tape b vs o w, setCells_output b vs o w, Nat.le_of_eq (setCells_size b vs o w).symm, fun k _ hk => setCells_block b (by simpa using hk) vs o w, fun a h => setCells_stay b vs o w a h, fun a _ hf => by rw [World.frozen?_setCells]; exact hf⟩
section
variable {S S' : Addr → Option Value}
theorem HoldL.take {ts : List T} {vs : List Value} (h : HoldL S ts vs) (n : Nat) : HoldL S (ts.take n) (vs.take n) :=
  ⟨by simp [h.1], fun v hv => h.2.1 v (List.mem_of_mem_take hv), fun j t v a b => by
    rw [List.getElem?_take] at a b
    split at a
    · rename_i hj; rw [if_pos hj] at b; exact h.2.2 j t v a b
    · cases a⟩
theorem HoldL.drop {ts : List T} {vs : List Value} (h : HoldL S ts vs) (n : Nat) : HoldL S (ts.drop n) (vs.drop n) :=
  ⟨by simp [h.1], fun v hv => h.2.1 v (List.mem_of_mem_drop hv), fun j t v a b => by
    rw [List.getElem?_drop] at a b
    exact h.2.2 _ t v a b⟩
theorem cells_rest {w : World} {b base : Nat} {vs : List Value} {room : Nat} (hc : ∀ (j : Nat) v, vs[j]? = some v → w.cell? ⟨b, base + j, none⟩ = some v) (hle : vs.length ≤ room) (hr : ∀ j, j < room → (w.cell? ⟨b, base + j, none⟩).isSome = true) :
    ∃ ex : List Value, vs.length + ex.length = room ∧ ∀ (j : Nat) v, (vs ++ ex)[j]? = some v → w.cell? ⟨b, base + j, none⟩ = some v := by
  refine ⟨(List.range (room - vs.length)).map fun k => (w.cell? ⟨b, base + (vs.length + k), none⟩).getD undef, by simp; omega, fun j v hj => ?_⟩
  by_cases h : j < vs.length
  · rw [List.getElem?_append_left h] at hj; exact hc j v hj
  · have hlt := (List.getElem?_eq_some_iff.1 hj).1
    simp at hlt
    have this : j < room := by omega
    rw [List.getElem?_append_right (by omega), List.getElem?_map, List.getElem?_range (by omega)] at hj
    simp only [Option.map_some, Option.some.injEq] at hj
    rw [show vs.length + (j - vs.length) = j by omega] at hj
    obtain ⟨u, hu⟩ := Option.isSome_iff_exists.1 (hr j this)
    rw [hu] at hj ⊢
    exact congrArg some hj
end

theorem c67 (es : List T) (i : Nat) (hi : i < es.length) : CS Tryz.prog true 67 [.mv 1 es, .v (.int .i64 i), .v (.int .i64 ((i : Int) + 1))] [.list 1 (es.eraseIdx i)] [] := by
  refine CS_calls' Tryz.func67 rfl rfl fun G w vals bs hA hnd hbs hG => ?_
  obtain ⟨v0, _, r0, _, rfl, rfl, h0, v1, _, r1, _, rfl, rfl, ⟨rfl, h1⟩, v2, _, r2, _, rfl, rfl, ⟨rfl, h2⟩, rfl, rfl⟩ := hA
  cases h1; cases h2
  rcases h0 with ⟨_, rfl, _⟩ | ⟨b, base, room, cap, rfl, rfl, hcap, hroom, hsc, vs, hH, hc, hsz, hle, hrm⟩
  · simp at hi
  have hfl := flat_length hsz
  have hvl := hH.1
  obtain ⟨i0, z, hi0, hi1, _, hi3, hi4, _, hi6, _⟩ := (tab_ok 9 _ rfl).info
  have hi1 : i0.size = 1 := hi1
  have hi4 : z.cells.size = 1 := hi4
  have hn1 : (es.length - 1) * 1 + 1 = es.length * 1 := by omega
  refine (del67 b base es.length cap i vs w hi hcap (by omega) hc (fun j hj => (hrm j (by omega)).2) hH.2.1 z (fun w => by simp [zeroValue, typeInfo, hi0, hi3]) hi6 hi4 i0 hi0 hi1).mono fun e w' ⟨he, hw⟩ => ⟨_, he, [b], [], ?_, ?_, ⟨rfl, rfl⟩, by simp, fun q hq => ?_⟩
  · subst hw
    exact ((((Fr.drew w).mono (bs' := [b]) (by simp)).trans (Fr.setCells _ b _ _) fun k hk _ => hk).trans (Fr.setCells _ b _ _) fun k hk _ => hk)
  · have hel : (es.eraseIdx i).length = es.length - 1 := List.length_eraseIdx_of_lt hi
    have hW1 : ∀ (j : Nat) v, (splice vs (i * 1) (vs.drop ((i + 1) * 1)))[j]? = some v → (w.drew.setCells b (base + i * 1) (vs.drop ((i + 1) * 1))).cell? ⟨b, base + j, none⟩ = some v :=
      setCells_splice (w := w.drew) (by simp; omega) hc
    have hs1 : ∀ j, j < room → ((w.drew.setCells b (base + i * 1) (vs.drop ((i + 1) * 1))).cell? ⟨b, base + j, none⟩).isSome = true := fun j hj =>
      setCells_isSome (fun t ht => by
        have := (hrm (i * 1 + t) (by simp at ht; omega)).1
        rw [Nat.add_assoc]; exact this) (hrm j hj).1
    rw [show es.length - 1 = (es.eraseIdx i).length from hel.symm] at hw ⊢
    refine .inr ⟨b, base, room, cap, rfl, rfl, by omega, hroom, ?_, vs.take (i * 1) ++ vs.drop ((i + 1) * 1), ?_, fun j v hj => ?_, ?_, by simp; omega, fun j hj => ?_⟩
    · intro t ht
      rw [List.eraseIdx_eq_take_drop_succ, flat_append] at ht
      refine hsc t ?_
      rcases List.mem_append.1 ht with h | h
      · rw [← flat_take hsz] at h; exact List.mem_of_mem_take h
      · rw [← flat_drop hsz] at h; exact List.mem_of_mem_drop h
    · rw [List.eraseIdx_eq_take_drop_succ, flat_append, ← flat_take hsz, ← flat_drop hsz]
      exact ((hH.scal hsc).take _).append ((hH.scal hsc).drop _)
    · have hjl := (List.getElem?_eq_some_iff.1 hj).1
      simp at hjl
      subst hw
      rw [World.cell?_setCells_out _ _ _ _ _ (fun _ _ => .inl (by simp; omega))]
      refine hW1 j v ?_
      unfold splice
      rw [List.getElem?_append_left (by simp; omega)]
      exact hj
    · intro e he
      rw [List.eraseIdx_eq_take_drop_succ] at he
      rcases List.mem_append.1 he with h | h
      · exact hsz e (List.mem_of_mem_take h)
      · exact hsz e (List.mem_of_mem_drop h)
    · subst hw
      refine ⟨setCells_isSome (fun t ht => ?_) (hs1 j hj), by rw [World.frozen?_setCells, World.frozen?_setCells]; exact (hrm j hj).2⟩
      have : t < 1 := by simpa [hi4] using ht
      rw [Nat.add_assoc]
      exact hs1 _ (by omega)
  · subst hw
    simp only [List.append_nil, List.mem_singleton] at hq
    subst hq
    have := (hbs q (by simp)).1
    exact ⟨by rw [setCells_size, setCells_size]; exact this, .inl (by simp)⟩
theorem c68 (es : List T) (i : Nat) (hi : i < es.length) : CS Tryz.prog true 68 [.mv 5 es, .v (.int .i64 i), .v (.int .i64 ((i : Int) + 1))] [.list 5 (es.eraseIdx i)] [] := by
  refine CS_calls' Tryz.func68 rfl rfl fun G w vals bs hA hnd hbs hG => ?_
  obtain ⟨v0, _, r0, _, rfl, rfl, h0, v1, _, r1, _, rfl, rfl, ⟨rfl, h1⟩, v2, _, r2, _, rfl, rfl, ⟨rfl, h2⟩, rfl, rfl⟩ := hA
  cases h1; cases h2
  rcases h0 with ⟨_, rfl, _⟩ | ⟨b, base, room, cap, rfl, rfl, hcap, hroom, hsc, vs, hH, hc, hsz, hle, hrm⟩
  · simp at hi
  have hfl := flat_length hsz
  have hvl := hH.1
  obtain ⟨i0, z, hi0, hi1, _, hi3, hi4, _, hi6, _⟩ := (tab_ok 37 _ rfl).info
  have hi1 : i0.size = 5 := hi1
  have hi4 : z.cells.size = 5 := hi4
  have hn1 : (es.length - 1) * 5 + 5 = es.length * 5 := by omega
  refine (del68 b base es.length cap i vs w hi hcap (by omega) hc (fun j hj => (hrm j (by omega)).2) hH.2.1 z (fun w => by simp [zeroValue, typeInfo, hi0, hi3]) hi6 hi4 i0 hi0 hi1).mono fun e w' ⟨he, hw⟩ => ⟨_, he, [b], [], ?_, ?_, ⟨rfl, rfl⟩, by simp, fun q hq => ?_⟩
  · subst hw
    exact ((((Fr.drew w).mono (bs' := [b]) (by simp)).trans (Fr.setCells _ b _ _) fun k hk _ => hk).trans (Fr.setCells _ b _ _) fun k hk _ => hk)
  · have hel : (es.eraseIdx i).length = es.length - 1 := List.length_eraseIdx_of_lt hi
    have hW1 : ∀ (j : Nat) v, (splice vs (i * 5) (vs.drop ((i + 1) * 5)))[j]? = some v → (w.drew.setCells b (base + i * 5) (vs.drop ((i + 1) * 5))).cell? ⟨b, base + j, none⟩ = some v :=
      setCells_splice (w := w.drew) (by simp; omega) hc
    have hs1 : ∀ j, j < room → ((w.drew.setCells b (base + i * 5) (vs.drop ((i + 1) * 5))).cell? ⟨b, base + j, none⟩).isSome = true := fun j hj =>
      setCells_isSome (fun t ht => by
        have := (hrm (i * 5 + t) (by simp at ht; omega)).1
        rw [Nat.add_assoc]; exact this) (hrm j hj).1
    rw [show es.length - 1 = (es.eraseIdx i).length from hel.symm] at hw ⊢
    refine .inr ⟨b, base, room, cap, rfl, rfl, by omega, hroom, ?_, vs.take (i * 5) ++ vs.drop ((i + 1) * 5), ?_, fun j v hj => ?_, ?_, by simp; omega, fun j hj => ?_⟩
    · intro t ht
      rw [List.eraseIdx_eq_take_drop_succ, flat_append] at ht
      refine hsc t ?_
      rcases List.mem_append.1 ht with h | h
      · rw [← flat_take hsz] at h; exact List.mem_of_mem_take h
      · rw [← flat_drop hsz] at h; exact List.mem_of_mem_drop h
    · rw [List.eraseIdx_eq_take_drop_succ, flat_append, ← flat_take hsz, ← flat_drop hsz]
      exact ((hH.scal hsc).take _).append ((hH.scal hsc).drop _)
    · have hjl := (List.getElem?_eq_some_iff.1 hj).1
      simp at hjl
      subst hw
      rw [World.cell?_setCells_out _ _ _ _ _ (fun _ _ => .inl (by simp; omega))]
      refine hW1 j v ?_
      unfold splice
      rw [List.getElem?_append_left (by simp; omega)]
      exact hj
    · intro e he
      rw [List.eraseIdx_eq_take_drop_succ] at he
      rcases List.mem_append.1 he with h | h
      · exact hsz e (List.mem_of_mem_take h)
      · exact hsz e (List.mem_of_mem_drop h)
    · subst hw
      refine ⟨setCells_isSome (fun t ht => ?_) (hs1 j hj), by rw [World.frozen?_setCells, World.frozen?_setCells]; exact (hrm j hj).2⟩
      have : t < 5 := by simpa [hi4] using ht
      rw [Nat.add_assoc]
      exact hs1 _ (by omega)
  · subst hw
    simp only [List.append_nil, List.mem_singleton] at hq
    subst hq
    have := (hbs q (by simp)).1
    exact ⟨by rw [setCells_size, setCells_size]; exact this, .inl (by simp)⟩
end Go.Proofs.YtikegeligblekaaGreat.M

/- Contracts for WithEntry, part 1: withoutEntry. No condition. -/
namespace Go.Proofs.YtikegeligblekaaGreat.M
open Go Go.Proofs
set_option maxRecDepth 100000
set_option maxHeartbeats 2000000
set_option linter.unusedSimpArgs false
set_option linter.unusedVariables false
@[go_sem] def mdW : Nat → Md := fun f => if f == 67 || f == 68 || false || false then ⟨true, [0]⟩ else if false then ⟨true, []⟩ else ⟨false, []⟩
/-- A tree without a key. -/
def delO (k n : Int) (s : ByteArray) (ks : List ByteArray) (kids : List Ob) (key : ByteArray) : Ob :=
  if keyAt ks key < 0 then .mk k n s ks kids else .mk k n s (ks.eraseIdx (keyAt ks key).toNat) (kids.eraseIdx (keyAt ks key).toNat)
theorem obRs_cells : ∀ {l : List Ob} {ps : List (Sl × Sl)}, ∀ e ∈ obRs l ps, e.cells.length = 5
  | [], ps, e, he => by simp [obRs] at he
  | o :: r, [], e, he => by simp [obRs] at he
  | o :: r, p :: ps, e, he => by
    rcases List.mem_cons.1 he with rfl | he
    · exact obR_cells o _ _
    · exact obRs_cells e he
theorem obRs_erase : ∀ {l : List Ob} {ps : List (Sl × Sl)} {i : Nat}, ps.length = l.length → (obRs l ps).eraseIdx i = obRs (l.eraseIdx i) (ps.eraseIdx i)
  | [], [], i, _ => by simp [obRs]
  | o :: r, p :: ps, 0, _ => by simp [obRs]
  | o :: r, p :: ps, i + 1, h => by simp [obRs, obRs_erase (l := r) (ps := ps) (i := i) (by simpa using h)]
theorem obDs_erase : ∀ {l : List Ob} {ps : List (Sl × Sl)} {i : Nat}, ps.length = l.length → ∃ rest, (obDs l ps).Perm (obDs (l.eraseIdx i) (ps.eraseIdx i) ++ rest)
  | [], [], i, _ => ⟨[], by simp [obDs]⟩
  | o :: r, p :: ps, 0, _ => ⟨obD o p.1 p.2, by simp only [obDs, List.eraseIdx_cons_zero]; exact List.perm_append_comm⟩
  | o :: r, p :: ps, i + 1, h => by
    obtain ⟨rest, hr⟩ := obDs_erase (l := r) (ps := ps) (i := i) (by simpa using h)
    exact ⟨rest, by simp only [obDs, List.eraseIdx_cons_succ, List.append_assoc]; exact hr.append_left _⟩
theorem map_erase {α β : Type} (f : α → β) : ∀ (l : List α) (i : Nat), (l.map f).eraseIdx i = (l.eraseIdx i).map f
  | [], i => by simp
  | x :: r, 0 => by simp
  | x :: r, i + 1 => by simp [map_erase f r i]
theorem RA_own (k n : Int) (s : ByteArray) (ks : List ByteArray) (l : List Ob) {ps : List (Sl × Sl)} (h : ps.length = l.length) : RA (.agg [.int .i64 k, .int .i64 n, .str s, .list 1 (ks.map T.str), .list 5 (obRs l ps)]) (Ob.mk k n s ks l).t (obDs l ps) := by
  rw [Ob.t_mk]
  exact ⟨_, rfl, _, _, [], _, rfl, rfl, ⟨rfl, rfl, rfl⟩, _, _, [], _, rfl, rfl, ⟨rfl, rfl, rfl⟩, _, _, [], _, rfl, rfl, ⟨rfl, rfl, rfl⟩, _, _, [], _, rfl, rfl, RT_strs ks, _, _, _, [], rfl, (List.append_nil _).symm, RT_obs h, rfl, rfl⟩
theorem RAL_one {x t : T} {d : De} (h : RA x t d) : RAL [x] [t] d := ⟨_, _, _, [], rfl, (List.append_nil _).symm, h, rfl, rfl⟩
theorem d42 (k n : Int) (s : ByteArray) (ks : List ByteArray) (kids : List Ob) (key : ByteArray) (hS : Sm (.mk k n s ks kids)) (hl : ks.length = kids.length) :
    CSD Tryz.prog 53 [.b (.v (Ob.mk k n s ks kids).t), .b (.v (.str key))] [(delO k n s ks kids key).t] [] := by
  obtain ⟨h1, h2⟩ : ks.length ≤ 1048576 ∧ kids.length ≤ 1048576 := by cases hS; exact ⟨by assumption, by assumption⟩
  have hc := d31' _ hS
  have hi := CSD_scal rfl (oc57 ks key h1)
  have ha := firstF_cases (keyP ks key) ks.length
  unfold delO
  unfold keyAt at *
  generalize firstF (keyP ks key) ks.length = z at hi ha ⊢
  unfold D31 at hc
  rw [Ob.t_mk k n s ks kids]
  refine CSD_views (xs := [.v (.agg [.int .i64 k, .int .i64 n, .str s, .list 1 (ks.map T.str), .list 5 (kids.map Ob.t)]), .v (.str key)]) tab_ok Tryz.func53 rfl rfl Tryz.ntmps53 (rl := [.cell 4 37]) rfl (Nat.le_of_ble_eq_true rfl) ?_
  refine WWD_seqB tab_ok mdW ?_
  simp only [go_sem]
  refine WWD_seq ?_
  refine WWD_region tab_ok mdW 1 rfl rfl rfl ?_
  simp only [go_sem]
  refine ⟨_, _, [], [], _, hc, ⟨_, _, _, rfl, rfl, RdA_obv _ _ _ _ _ _ _, rfl, rfl, rfl⟩, .refl _, ?_⟩
  rintro _ _ ⟨_, rfl, hra⟩
  obtain ⟨y, z', rfl, rfl⟩ := RAr_ob hra
  unfold restD obR obD
  simp only [go_sem]
  refine WWD_seq ?_
  refine WWD_region tab_ok mdW 3 rfl rfl rfl ?_
  simp only [go_sem]
  refine ⟨_, _, [], [], _, hi, ⟨_, _, _, rfl, rfl, .inl ⟨y, rfl, by simp⟩, _, _, _, rfl, rfl, .inr rfl, rfl, rfl, rfl⟩, .refl _, ?_⟩
  rintro _ _ ⟨_, rfl, rfl, _, rfl⟩
  unfold restD
  simp only [go_sem]
  refine WWD_seq ?_
  refine WWD_seqB tab_ok mdW ?_
  simp only [go_sem]
  refine WWD_cond tab_ok (q := decide (z ≥ 0)) (by simp only [go_sem]) (fun g => ?_) (fun g => ?_) <;> simp only [decide_eq_true_eq, decide_eq_false_iff_not] at g
  · obtain ⟨i, hil, rfl, _⟩ : ∃ i : Nat, i < ks.length ∧ z = i ∧ True := by
      rcases ha with ⟨rfl, _⟩ | ⟨i, h3, h4, _⟩
      · omega
      · exact ⟨i, h3, h4, trivial⟩
    refine WWD_openbox (K := 900) (b := 64) (j := 3) (.refl _) rfl rfl (Nat.le_of_ble_eq_true rfl) (fun _ : Unit => ks.map T.str) (fun _ => []) (fun xs d h => ?_) fun _ => ?_
    · rw [flat_strs] at h
      obtain ⟨h3, h4⟩ := RCrL_strs h
      exact ⟨(), by rw [flat_strs]; exact h3, h4.symm, rfl, fun e he => by obtain ⟨s, _, rfl⟩ := List.mem_map.1 he; rfl⟩
    simp only [go_sem]
    refine WWD_openbox (K := 901) (b := 64) (j := 4) (.refl _) rfl rfl (Nat.le_of_ble_eq_true rfl) (fun ps : {ps : List (Sl × Sl) // ps.length = kids.length} => obRs kids ps.1) (fun ps => obDs kids ps.1) (fun xs d h => ?_) fun ps => ?_
    · obtain ⟨ps, h3, h4, h5⟩ := RCrL_obs h
      exact ⟨⟨ps, h3⟩, h4, h5, by rw [obRs_len h3, List.length_map], fun e he => obRs_cells e he⟩
    obtain ⟨ps, hps⟩ := ps
    simp only [go_sem, List.length_map]
    refine WWD_act tab_ok mdW ?_
    simp only [go_sem]
    refine act_draw_of tab_ok mix mdW ?_
    simp only [go_sem, List.length_map, obRs_len hps]
    have w1 : IntKind.i64.wrap ((i : Int) + 1) = (i : Int) + 1 := wrap64O (by omega) (by omega)
    have hl1 : (ks.map T.str).length = ks.length := List.length_map ..
    have hl2 := obRs_len hps
    refine ⟨sc_strs ks, ?_⟩
    rw [w1]
    refine act_callE (c67 (ks.map T.str) i (by omega)) ?_
    simp only [go_sem, hl2, w1]
    refine ⟨sc_obRs hps, ?_⟩
    refine act_callE (c68 (obRs kids ps) i (by omega)) ?_
    simp only [go_sem]
    refine ⟨drawOk_of (by kernel_rfl), ?_⟩
    obtain ⟨rest, hrest⟩ := obDs_erase (i := i) hps
    have hpe : (ps.eraseIdx i).length = (kids.eraseIdx i).length := by rw [List.length_eraseIdx_of_lt (by omega), List.length_eraseIdx_of_lt (by omega), hps]
    rw [map_erase, obRs_erase hps, if_neg (by omega)]
    refine WWD_seqB tab_ok mdW ?_
    simp only [go_sem]
    refine WWD_act tab_ok mdW ?_
    simp only [go_sem]
    refine ⟨[.agg [.int .i64 k, .int .i64 n, .str s, .list 1 ((ks.eraseIdx i).map T.str), .list 5 (obRs (kids.eraseIdx i) (ps.eraseIdx i))]], [], ?_, rfl, obDs (kids.eraseIdx i) (ps.eraseIdx i), rest, RAL_one (RA_own _ _ _ _ _ hpe), by simpa using hrest⟩
    simp only [go_sem]
    rw [List.take_of_length_le (Nat.le_refl _), List.take_of_length_le (Nat.le_refl _)]
    exact ⟨Nat.le_refl _, sc_strs _, Nat.le_refl _, sc_obRs hpe, rfl⟩
  · rw [if_pos (by omega)]
    refine WWD_act tab_ok mdW ?_
    simp only [go_sem]
    refine WWD_seqB tab_ok mdW ?_
    simp only [go_sem]
    refine WWD_act tab_ok mdW ?_
    simp only [go_sem]
    exact ⟨[obR (.mk k n s ks kids) y z'], [], by simp only [go_sem, obR], rfl, obD (.mk k n s ks kids) y z', [], RAL_one (RA_ob _ y z'), by simp [obD]⟩
end Go.Proofs.YtikegeligblekaaGreat.M

/- Keys of a dict: taken out by both sides. No condition. -/
namespace Go.Proofs.YtikegeligblekaaGreat.M
open Go Go.Proofs
set_option maxRecDepth 100000
set_option maxHeartbeats 4000000
set_option linter.unusedSimpArgs false
set_option linter.unusedVariables false
/-- Where a key is put. -/
def ltB (key k : ByteArray) : Bool := Op.bytesLess k.toList key.toList
def neB (key : ByteArray) (p : ByteArray × Ob) : Bool := !(p.1.toList == key.toList)
def woL (ks : List ByteArray) (kids : List Ob) (key : ByteArray) (i : Nat) : List (ByteArray × Ob) := ((ks.zip kids).take i).filter (neB key)
abbrev wk (l : List (ByteArray × Ob)) : List ByteArray := l.map (·.1)
abbrev wv (l : List (ByteArray × Ob)) : List Ob := l.map (·.2)
theorem woL_succ {ks : List ByteArray} {kids : List Ob} {key : ByteArray} {i : Nat} {x : ByteArray} {o : Ob} (hx : ks[i]? = some x) (ho : kids[i]? = some o) : woL ks kids key (i + 1) = woL ks kids key i ++ (if neB key (x, o) = true then [(x, o)] else []) := by
  have : (ks.zip kids)[i]? = some (x, o) := by rw [List.getElem?_zip_eq_some]; exact ⟨hx, ho⟩
  unfold woL
  rw [List.take_add_one, this, List.filter_append]
  simp [List.filter_cons]
theorem woL_len (ks : List ByteArray) (kids : List Ob) (key : ByteArray) (i : Nat) : (woL ks kids key i).length ≤ i := by
  unfold woL
  exact Nat.le_trans (List.length_filter_le _ _) (by simp; omega)
theorem ew40 (k n : Int) (s : ByteArray) (ks : List ByteArray) (kids : List Ob) (key : ByteArray) (hl : ks.length = kids.length) (h1 : ks.length ≤ 1048576) :
    CS Tryz.prog false 26 [.v (Ob.mk k n s ks kids).t, .v (.str key)] [(Ob.mk 8 0 ⟨#[]⟩ (wk (woL ks kids key ks.length)) (wv (woL ks kids key ks.length))).t] [] := by
  rw [Ob.t_mk, Ob.t_mk]
  refine CS_act tab_ok mdO Tryz.func26 rfl rfl Tryz.ntmps26 (rl := [.cell 4 37]) rfl (Nat.le_of_ble_eq_true rfl) ?_
  simp only [go_sem, List.length_map]
  refine WWE_nilbox 48 3 1 900 rfl rfl (Nat.le_of_ble_eq_true rfl) ?_
  simp only [go_sem]
  refine WWE_nilbox 48 4 5 901 rfl rfl (Nat.le_of_ble_eq_true rfl) ?_
  simp only [go_sem]
  refine act_loop_of (md := mdO) tab_ok [1,2,4,5,6] [0,16,48,900,901] 2000 (ι := {i : Nat // i ≤ ks.length})
    (fun i => ⟨[(1, .a (.c (.t (.str key)))), (2, .a (.c (.ptr 0 0))), (4, .a (.c (.ptr 16 0))), (5, .a (.c (.ptr 48 0))), (6, .a (.c (.t (.int .i64 i.1))))],
      [(0, .box [.t (.int .i64 k), .t (.int .i64 n), .t (.str s), .t (.list 1 (ks.map T.str)), .t (.list 5 (kids.map Ob.t))]), (16, .box zObj),
       (48, .box [.t (.int .i64 8), .t (.int .i64 0), .t (.str ⟨#[]⟩), .own 900 (woL ks kids key i.1).length 0 (woL ks kids key i.1).length, .own 901 (woL ks kids key i.1).length 0 (woL ks kids key i.1).length]),
       (900, .arr 1 ((wk (woL ks kids key i.1)).map T.str) (woL ks kids key i.1).length), (901, .arr 5 ((wv (woL ks kids key i.1)).map Ob.t) (woL ks kids key i.1).length)], 2000, 43⟩)
    (fun i => ks.length - i.1) ⟨0, Nat.zero_le _⟩ (Nat.le_of_ble_eq_true rfl) (by simp only [go_sem]) (by simp only [go_sem]; rfl) fun i => ?_
  obtain ⟨i, hi⟩ := i
  dsimp only
  simp only [go_sem, List.length_map]
  have hwl := woL_len ks kids key i
  have w1 : IntKind.i64.wrap ((i : Int) + 1) = ((i + 1 : Nat) : Int) := wrap64O (by omega) (by omega)
  refine act_split (fun g => ?_) (fun g => ?_) <;> simp only [go_sem] <;> simp only [decide_eq_true_eq, decide_eq_false_iff_not] at g
  · obtain ⟨x, hx⟩ : ∃ x, ks[i]? = some x := ⟨_, List.getElem?_eq_getElem (by omega)⟩
    obtain ⟨o, ho⟩ : ∃ o, kids[i]? = some o := ⟨_, List.getElem?_eq_getElem (by omega)⟩
    have hs := woL_succ (key := key) hx ho
    generalize woL ks kids key i = l at hs hwl ⊢
    obtain ⟨k', n', s', ks', kids'⟩ := o
    simp only [go_sem, List.getElem?_map, hx, List.length_map]
    refine ⟨by omega, by omega, ?_⟩
    refine act_split (fun g2 => ?_) (fun g2 => ?_) <;> simp only [go_sem]
    · have hn : neB key (x, .mk k' n' s' ks' kids') = true := g2
      rw [hn, if_pos rfl] at hs
      refine act_draw_of tab_ok mix mdO ?_
      simp only [go_sem, List.getElem?_map, hx, List.length_map]
      refine ⟨by omega, by omega, by omega, drawOk_of (by kernel_rfl), ?_⟩
      refine act_draw_of tab_ok mix mdO ?_
      simp only [go_sem, List.getElem?_map, ho, List.length_map, Ob.t_mk]
      refine ⟨by omega, by omega, by omega, drawOk_of (by kernel_rfl), ?_⟩
      refine nextK_of ⟨i + 1, by omega⟩ (by simp only [go_sem]) ?_ (by dsimp only; omega)
      simp only [go_sem]
      rw [w1, hs]
      simp [Ob.t_mk]
    · have hn : neB key (x, .mk k' n' s' ks' kids') = false := g2
      rw [hn] at hs
      simp only [Bool.false_eq_true, if_false, List.append_nil] at hs
      refine nextK_of ⟨i + 1, by omega⟩ (by simp only [go_sem]) ?_ (by dsimp only; omega)
      simp only [go_sem]
      rw [w1, hs]
  · obtain rfl : i = ks.length := by omega
    rw [List.take_of_length_le (by simp), List.take_of_length_le (by simp)]
theorem less_irr : ∀ (a : List UInt8), Op.bytesLess a a = false
  | [] => rfl
  | x :: r => by
    have h : ¬ x < x := UInt8.lt_irrefl x
    simp [Op.bytesLess, less_irr r]
theorem less_trans : ∀ {a b c : List UInt8}, Op.bytesLess a b = true → Op.bytesLess b c = true → Op.bytesLess a c = true
  | _, _, [], _, h => by simp [Op.bytesLess] at h
  | _, [], z :: c, h, _ => by simp [Op.bytesLess] at h
  | [], y :: b, z :: c, _, _ => rfl
  | x :: a, y :: b, z :: c, h1, h2 => by
    simp only [Op.bytesLess, Bool.or_eq_true, Bool.and_eq_true, decide_eq_true_eq, beq_iff_eq] at h1 h2 ⊢
    rcases h1 with h1 | ⟨rfl, h1⟩ <;> rcases h2 with h2 | ⟨rfl, h2⟩
    · exact .inl (UInt8.lt_trans h1 h2)
    · exact .inl h1
    · exact .inl h2
    · exact .inr ⟨rfl, less_trans h1 h2⟩
def Asc : List ByteArray → Prop
  | [] => True
  | k :: r => (∀ x ∈ r, ltB x k = true) ∧ Asc r
theorem asc_of : ∀ (ks : List ByteArray), (∀ i x y, ks[i]? = some x → ks[i + 1]? = some y → ltB y x = true) → Asc ks
  | [], _ => trivial
  | k :: r, h => by
    have ih := asc_of r fun i x y hx hy => h (i + 1) x y (by simpa using hx) (by simpa using hy)
    refine ⟨fun x hx => ?_, ih⟩
    cases r with
    | nil => simp at hx
    | cons k2 r =>
      have h0 := h 0 k k2 rfl rfl
      rcases List.mem_cons.1 hx with rfl | hx
      · exact h0
      · exact less_trans h0 (ih.1 x hx)
theorem asc_keysB {ks : List ByteArray} (h : keysB ks = true) : Asc ks := asc_of ks fun i x y hx hy => by
  have hi := (List.getElem?_eq_some_iff.1 hy).1
  have := List.all_eq_true.1 h (i + 1) (List.mem_range.2 hi)
  simp only [keyB, hy, Nat.add_sub_cancel, hx, Bool.and_eq_true, Bool.not_eq_true', Bool.and_eq_false_iff, decide_eq_false_iff_not] at this
  rcases this.2 with h | h
  · omega
  · unfold ltB
    simpa [geB] using h
theorem ltB_ne {x key : ByteArray} (h : ltB key x = true) : (x.toList == key.toList) = false := by
  rw [Bool.eq_false_iff]
  intro he
  have he := eq_of_beq he
  unfold ltB at h
  rw [he, less_irr] at h
  cases h
theorem ltB_ne' {x key : ByteArray} (h : ltB key x = true) : (key.toList == x.toList) = false := by
  rw [Bool.eq_false_iff]
  intro he
  have he := eq_of_beq he
  unfold ltB at h
  rw [he, less_irr] at h
  cases h
theorem find_none {p : Nat → Bool} {n : Nat} (h : ∀ j, j < n → p j = false) : firstF p n = -1 := by
  unfold firstF
  rw [List.find?_eq_none.2 fun j hj => by simp [h j (List.mem_range.1 hj)]]
theorem find_at {p : Nat → Bool} {n i : Nat} (hi : i < n) (hp : p i = true) (h : ∀ j, j < i → p j = false) : firstF p n = i := by
  rcases firstF_cases p n with ⟨_, h2⟩ | ⟨j, h2, h3, h4, h5⟩
  · rw [h2 i hi] at hp; cases hp
  · rw [h3]
    rcases Nat.lt_trichotomy i j with h6 | h6 | h6
    · rw [h5 i h6] at hp; cases hp
    · rw [h6]
    · rw [h j h6] at h4; cases h4
theorem zip_fst : ∀ {ks : List ByteArray} {kids : List Ob}, ks.length = kids.length → wk (ks.zip kids) = ks ∧ wv (ks.zip kids) = kids
  | [], [], _ => ⟨rfl, rfl⟩
  | k :: r, o :: q, h => by
    obtain ⟨h1, h2⟩ := zip_fst (ks := r) (kids := q) (by simpa using h)
    exact ⟨by simp only [List.zip_cons_cons, List.map_cons, h1], by simp only [List.zip_cons_cons, List.map_cons, h2]⟩
/-- What is left: by the first place of the key, or by all. -/
theorem wo_del (key : ByteArray) : ∀ (ks : List ByteArray) (kids : List Ob), ks.length = kids.length → Asc ks →
    ((∀ x ∈ ks, (x.toList == key.toList) = false) ∧ (ks.zip kids).filter (neB key) = ks.zip kids) ∨
    ∃ i, i < ks.length ∧ keyP ks key i = true ∧ (∀ j, j < i → keyP ks key j = false) ∧ wk ((ks.zip kids).filter (neB key)) = ks.eraseIdx i ∧ wv ((ks.zip kids).filter (neB key)) = kids.eraseIdx i ∧ ∀ x ∈ ks.eraseIdx i, (x.toList == key.toList) = false
  | [], [], _, _ => .inl ⟨by simp, rfl⟩
  | k :: r, o :: q, hl, ⟨h1, h2⟩ => by
    cases hk : (k.toList == key.toList) with
    | true =>
      have he := (Lib.bytes_beq_iff _ _).1 hk
      subst he
      have hall : ∀ x ∈ r, (x.toList == k.toList) = false := fun x hx => ltB_ne' (h1 x hx)
      have hf : (r.zip q).filter (neB k) = r.zip q := List.filter_eq_self.2 fun p hp => by
        have := (List.of_mem_zip hp).1
        simp [neB, hall p.1 this]
      obtain ⟨z1, z2⟩ := zip_fst (ks := r) (kids := q) (by simpa using hl)
      refine .inr ⟨0, by simp, by simp [keyP], by omega, ?_, ?_, ?_⟩
      · rw [List.zip_cons_cons, List.filter_cons, if_neg (by simp [neB]), hf, z1]; rfl
      · rw [List.zip_cons_cons, List.filter_cons, if_neg (by simp [neB]), hf, z2]; rfl
      · intro x hx; exact hall x hx
    | false =>
      have hne : neB key (k, o) = true := by simp [neB, hk]
      have hk' : (key.toList == k.toList) = false := by
        rw [Bool.eq_false_iff] at hk ⊢
        intro h; exact hk (by rw [eq_of_beq h]; simp)
      rcases wo_del key r q (by simpa using hl) h2 with ⟨h3, h4⟩ | ⟨i, h3, h4, h5, h6, h7, h8⟩
      · refine .inl ⟨fun x hx => ?_, ?_⟩
        · rcases List.mem_cons.1 hx with rfl | hx
          · exact hk
          · exact h3 x hx
        · rw [List.zip_cons_cons, List.filter_cons, if_pos hne, h4]
      · refine .inr ⟨i + 1, by simpa using h3, by simpa [keyP] using h4, fun j hj => ?_, ?_, ?_, fun x hx => ?_⟩
        · cases j with
          | zero => simpa [keyP] using hk'
          | succ j => simpa [keyP] using h5 j (by omega)
        · rw [List.zip_cons_cons, List.filter_cons, if_pos hne]; show k :: wk _ = _; rw [h6]; rfl
        · rw [List.zip_cons_cons, List.filter_cons, if_pos hne]; show o :: wv _ = _; rw [h7]; rfl
        · rcases List.mem_cons.1 (by simpa using hx) with rfl | hx
          · exact hk
          · exact h8 x hx
theorem del_wo {n : Int} {s : ByteArray} {ks : List ByteArray} {kids : List Ob} {key : ByteArray} (hl : ks.length = kids.length) (ha : Asc ks) :
    delO 8 n s ks kids key = .mk 8 n s (wk (woL ks kids key ks.length)) (wv (woL ks kids key ks.length)) ∧ ∀ x ∈ wk (woL ks kids key ks.length), (x.toList == key.toList) = false := by
  have hz : (ks.zip kids).take ks.length = ks.zip kids := List.take_of_length_le (by simp; omega)
  unfold woL
  rw [hz]
  unfold delO keyAt
  rcases wo_del key ks kids hl ha with ⟨h1, h2⟩ | ⟨i, h1, h2, h3, h4, h5, h6⟩
  · obtain ⟨z1, z2⟩ := zip_fst hl
    rw [find_none (fun j hj => ?_), h2, z1, z2]
    · exact ⟨by rw [if_pos (by omega)], h1⟩
    · obtain ⟨x, hx⟩ : ∃ x, ks[j]? = some x := ⟨_, List.getElem?_eq_getElem hj⟩
      have := h1 x (List.mem_of_getElem? hx)
      simp only [keyP, hx]
      rw [Bool.eq_false_iff] at this ⊢
      intro h; exact this (by rw [eq_of_beq h]; simp)
  · rw [find_at h1 h2 h3, h4, h5]
    exact ⟨by rw [if_neg (by omega)]; rfl, h6⟩
theorem str_nil {s : ByteArray} (h : s.toList = (⟨#[]⟩ : ByteArray).toList) : s = ⟨#[]⟩ := (Lib.bytes_beq_iff _ _).1 (by rw [h]; simp)
theorem less_total : ∀ {a b : List UInt8}, Op.bytesLess a b = false → Op.bytesLess b a = false → a = b
  | [], [], _, _ => rfl
  | [], y :: b, h, _ => by simp [Op.bytesLess] at h
  | x :: a, [], _, h => by simp [Op.bytesLess] at h
  | x :: a, y :: b, h1, h2 => by
    simp only [Op.bytesLess, Bool.or_eq_false_iff, decide_eq_false_iff_not, Bool.and_eq_false_iff, beq_eq_false_iff_ne, ne_eq] at h1 h2
    have hxy : x = y := UInt8.le_antisymm (UInt8.not_lt.1 h2.1) (UInt8.not_lt.1 h1.1)
    subst hxy
    rw [less_total (h1.2.resolve_left (fun h => h rfl)) (h2.2.resolve_left (fun h => h rfl))]
theorem asc_next : ∀ {ks : List ByteArray}, Asc ks → ∀ {i : Nat} {x y : ByteArray}, ks[i]? = some x → ks[i + 1]? = some y → ltB y x = true
  | k :: r, ⟨h1, h2⟩, 0, x, y, hx, hy => by
    simp at hx hy
    subst hx
    exact h1 y (List.mem_of_getElem? hy)
  | k :: r, ⟨h1, h2⟩, i + 1, x, y, hx, hy => asc_next h2 (i := i) (by simpa using hx) (by simpa using hy)
  | [], _, i, x, y, hx, _ => by simp at hx
theorem keysB_of {ks : List ByteArray} (ha : Asc ks) (hw : ∀ x ∈ ks, wordB x = true) : keysB ks = true := by
  refine List.all_eq_true.2 fun i hi => ?_
  have hi := List.mem_range.1 hi
  have hx : ks[i]? = some ks[i] := List.getElem?_eq_getElem hi
  simp only [keyB, hx, hw _ (List.getElem_mem hi), Bool.true_and, Bool.not_eq_true', Bool.and_eq_false_iff, decide_eq_false_iff_not]
  cases i with
  | zero => exact .inl (by omega)
  | succ i =>
    have hy : ks[i]? = some (ks[i]'(by omega)) := List.getElem?_eq_getElem (by omega)
    have := asc_next ha hy hx
    right
    simp only [Nat.add_sub_cancel, hy]
    unfold geB
    unfold ltB at this
    rw [this]; rfl
end Go.Proofs.YtikegeligblekaaGreat.M

/- What is shown of a right tree tells the tree. Plain words. No condition. -/
namespace Go.Proofs.YtikegeligblekaaGreat.M
open Go Go.Proofs
set_option maxRecDepth 100000
set_option maxHeartbeats 2000000
set_option linter.unusedSimpArgs false
set_option linter.unusedVariables false
/-! ### Figures -/
def valD (l : List UInt8) : Nat := l.foldl (fun a c => a * 10 + (c.toNat - 48)) 0
theorem u8_48 {u : Nat} (h : u < 10) : (UInt8.ofNat (48 + u)).toNat = 48 + u := by
  rw [UInt8.toNat_ofNat']; omega
theorem dec_val (u : Nat) : valD (Lib.decDigits u) = u := by
  induction u using Nat.strongRecOn with
  | ind u ih =>
    rw [Lib.decDigits]
    split
    · rename_i h
      simp only [valD, List.foldl_cons, List.foldl_nil, u8_48 h]; omega
    · have h1 := ih (u / 10) (by omega)
      unfold valD at h1 ⊢
      rw [List.foldl_append, h1]
      simp only [List.foldl_cons, List.foldl_nil, u8_48 (show u % 10 < 10 by omega)]
      omega
theorem dec_dgt (u : Nat) : ∀ c ∈ Lib.decDigits u, 48 ≤ c.toNat ∧ c.toNat ≤ 57 := by
  induction u using Nat.strongRecOn with
  | ind u ih =>
    intro c hc
    rw [Lib.decDigits] at hc
    split at hc
    · rename_i h
      simp only [List.mem_singleton] at hc
      subst hc; rw [u8_48 h]; omega
    · rcases List.mem_append.1 hc with hc | hc
      · exact ih (u / 10) (by omega) c hc
      · simp only [List.mem_singleton] at hc
        subst hc; rw [u8_48 (by omega)]; omega
theorem dec_hd (u : Nat) : 1 ≤ u → ∃ c q, Lib.decDigits u = c :: q ∧ 49 ≤ c.toNat ∧ c.toNat ≤ 57 := by
  induction u using Nat.strongRecOn with
  | ind u ih =>
    intro hu
    rw [Lib.decDigits]
    split
    · rename_i h
      exact ⟨_, [], rfl, by rw [u8_48 h]; omega⟩
    · obtain ⟨c, q, h1, h2⟩ := ih (u / 10) (by omega) (by omega)
      exact ⟨c, _, by rw [h1]; rfl, h2⟩
theorem dec_zero : Lib.decDigits 0 = [48] := by rw [Lib.decDigits, dif_pos (by omega)]; rfl
def dgt (c : UInt8) : Bool := c == 45 || (decide (48 ≤ c.toNat) && decide (c.toNat ≤ 57))
theorem itoa_dgt (n : Int) : ∀ c ∈ Lib.itoa n, dgt c = true := fun c hc => by
  unfold Lib.itoa at hc
  unfold dgt
  split at hc
  · rcases List.mem_cons.1 hc with rfl | hc
    · rfl
    · have := dec_dgt _ c hc; simp [this]
  · have := dec_dgt _ c hc; simp [this]
theorem itoa_hd (n : Int) : ∃ c q, Lib.itoa n = c :: q ∧ dgt c = true := by
  cases h : Lib.itoa n with
  | nil =>
    exfalso
    unfold Lib.itoa at h
    split at h
    · cases h
    · have := dec_val n.toNat
      by_cases h0 : n.toNat = 0
      · rw [h0, dec_zero] at h; cases h
      · obtain ⟨c, q, h1, _⟩ := dec_hd n.toNat (by omega); rw [h1] at h; cases h
  | cons c q => exact ⟨c, q, rfl, itoa_dgt n c (by rw [h]; simp)⟩
theorem itoa_zero {n : Int} {q : List UInt8} (h : Lib.itoa n = 48 :: q) : n = 0 ∧ q = [] := by
  unfold Lib.itoa at h
  split at h
  · cases h
  · by_cases h0 : n.toNat = 0
    · rw [h0, dec_zero] at h; injection h with _ h; exact ⟨by omega, h.symm⟩
    · obtain ⟨c, q', h1, h2⟩ := dec_hd n.toNat (by omega)
      rw [h1] at h
      injection h with h _
      subst h
      exact absurd h2.1 (by decide)
theorem itoa_inj {n m : Int} (h : Lib.itoa n = Lib.itoa m) : n = m := by
  have key : ∀ {a b : Int}, a < 0 → 0 ≤ b → Lib.itoa a = Lib.itoa b → False := fun {a b} ha hb hh => by
    have e : Lib.itoa a = 45 :: Lib.decDigits a.natAbs := if_pos ha
    have e2 : Lib.itoa b = Lib.decDigits b.toNat := if_neg (by omega)
    have := dec_dgt b.toNat 45 (by rw [← e2, ← hh, e]; simp)
    exact absurd this.1 (by decide)
  by_cases hn : n < 0 <;> by_cases hm : m < 0
  · have e : Lib.itoa n = 45 :: Lib.decDigits n.natAbs := if_pos hn
    have e2 : Lib.itoa m = 45 :: Lib.decDigits m.natAbs := if_pos hm
    rw [e, e2] at h
    injection h with _ h
    have := congrArg valD h
    rw [dec_val, dec_val] at this
    omega
  · exact (key hn (by omega) h).elim
  · exact (key hm (by omega) h.symm).elim
  · have e : Lib.itoa n = Lib.decDigits n.toNat := if_neg hn
    have e2 : Lib.itoa m = Lib.decDigits m.toNat := if_neg hm
    rw [e, e2] at h
    have := congrArg valD h
    rw [dec_val, dec_val] at this
    omega
/-! ### The first that is not -/
def Stop (p : UInt8 → Bool) (r : List UInt8) : Prop := ∀ c q, r = c :: q → p c = false
theorem pre_split {p : UInt8 → Bool} : ∀ {a b ra rb : List UInt8}, (∀ c ∈ a, p c = true) → (∀ c ∈ b, p c = true) → Stop p ra → Stop p rb → a ++ ra = b ++ rb → a = b ∧ ra = rb
  | [], [], ra, rb, _, _, _, _, h => ⟨rfl, h⟩
  | [], y :: b, ra, rb, _, hb, hs, _, h => by
    have := hs y (b ++ rb) h
    rw [hb y (by simp)] at this; cases this
  | x :: a, [], ra, rb, ha, _, _, hs, h => by
    have := hs x (a ++ ra) h.symm
    rw [ha x (by simp)] at this; cases this
  | x :: a, y :: b, ra, rb, ha, hb, h1, h2, h => by
    rw [List.cons_append, List.cons_append] at h
    injection h with h h'
    obtain ⟨r1, r2⟩ := pre_split (fun c hc => ha c (by simp [hc])) (fun c hc => hb c (by simp [hc])) h1 h2 h'
    exact ⟨by rw [h, r1], r2⟩
/-- What may stand behind a tree. -/
def Tl (r : List UInt8) : Prop := ∀ c q, r = c :: q → c = 93 ∨ (c = 32 ∧ ∀ z, q ≠ 48 :: 32 :: 82 :: z)
theorem Tl.nil : Tl [] := fun c q h => by cases h
theorem Tl.stop {r : List UInt8} {p : UInt8 → Bool} (h : Tl r) (h1 : p 93 = false) (h2 : p 32 = false) : Stop p r := fun c q hc => by
  rcases h c q hc with rfl | ⟨rfl, _⟩
  · exact h1
  · exact h2
def wd (c : UInt8) : Bool := !(c == 32) && !(c == 93)
theorem wd_of {s : ByteArray} (h : wordB s = true) : ∀ c ∈ s.data.toList, wd c = true := fun c hc => by
  obtain ⟨i, hi⟩ := List.getElem?_of_mem hc
  obtain ⟨hlt, hg⟩ := List.getElem?_eq_some_iff.1 hi
  have hlt' : i < s.size := by rw [Array.length_toList] at hlt; exact hlt
  simp only [wordB, Bool.and_eq_true] at h
  have h1 := List.all_eq_true.1 h.2 i (List.mem_range.2 hlt')
  have e : s.data.getD i 0 = c := by
    rw [Array.getD_eq_getD_getElem?, ← Array.getElem?_toList, hi]; rfl
  unfold bt at h1
  rw [e] at h1
  have k1 : c ≠ 32 := fun hh => by subst hh; exact absurd h1 (by decide)
  have k2 : c ≠ 93 := fun hh => by subst hh; exact absurd h1 (by decide)
  show (!(c == 32) && !(c == 93)) = true
  rw [beq_eq_false_iff_ne.2 k1, beq_eq_false_iff_ne.2 k2]; rfl
/-! ### Hex -/
theorem fig_inj : ∀ i j : Fin 16, UInt8.ofNat (figN i.val) = UInt8.ofNat (figN j.val) → i = j := by decide +kernel
theorem fig_ne : ∀ i : Fin 16, UInt8.ofNat (figN i.val) ≠ 62 ∧ UInt8.ofNat (figN i.val) ≠ 60 := by decide +kernel
theorem hex_ne : ∀ {l : List UInt8}, ∀ c ∈ hexL l, c ≠ 62 ∧ c ≠ 60
  | [], c, h => by simp [hexL] at h
  | b :: r, c, h => by
    have hb := b.toNat_lt
    simp only [hexL, List.flatMap_cons, List.cons_append, List.nil_append, List.mem_cons] at h
    rcases h with rfl | rfl | h
    · exact fig_ne ⟨b.toNat / 16, by omega⟩
    · exact fig_ne ⟨b.toNat % 16, by omega⟩
    · exact hex_ne (l := r) c h
theorem hex_inj : ∀ {a b : List UInt8}, hexL a = hexL b → a = b
  | [], [], _ => rfl
  | [], y :: b, h => by simp [hexL] at h
  | x :: a, [], h => by simp [hexL] at h
  | x :: a, y :: b, h => by
    have hx := x.toNat_lt
    have hy := y.toNat_lt
    simp only [hexL, List.flatMap_cons, List.cons_append, List.nil_append] at h
    injection h with h1 h
    injection h with h2 h
    have e1 := fig_inj ⟨x.toNat / 16, by omega⟩ ⟨y.toNat / 16, by omega⟩ h1
    have e2 := fig_inj ⟨x.toNat % 16, by omega⟩ ⟨y.toNat % 16, by omega⟩ h2
    simp only [Fin.mk.injEq] at e1 e2
    rw [hex_inj h, UInt8.toNat_inj.1 (show x.toNat = y.toNat by omega)]
/-! ### Shapes -/
def nob : ByteArray := ⟨#[]⟩
theorem shpO {k n : Int} {s : ByteArray} {ks : List ByteArray} {kids : List Ob} (h : fieldsB k n s ks kids.length = true) :
    ((k = 1 ∨ k = 2 ∨ k = 3) ∧ n = 0 ∧ s = nob ∧ ks = [] ∧ kids = []) ∨ (k = 4 ∧ s = nob ∧ ks = [] ∧ kids = []) ∨ (k = 5 ∧ n = 0 ∧ wordB s = true ∧ ks = [] ∧ kids = []) ∨ (k = 6 ∧ n = 0 ∧ ks = [] ∧ kids = []) ∨
    (k = 7 ∧ n = 0 ∧ s = nob ∧ ks = []) ∨ (k = 8 ∧ n = 0 ∧ s = nob ∧ ks.length = kids.length ∧ keysB ks = true) ∨ (k = 9 ∧ 1 ≤ n ∧ s = nob ∧ ks = [] ∧ kids = []) := by
  unfold fieldsB at h
  split at h
  · cases h
  · rename_i h0
    simp only [Bool.or_eq_true, Bool.and_eq_true, bne_iff_ne, ne_eq, decide_eq_true_eq, not_or, not_and, Nat.not_lt, Nat.le_zero, and_imp] at h0
    have hks : k ≠ 8 → ks = [] := fun hk => List.length_eq_zero_iff.1 (h0.1 hk)
    have hkid : k ≠ 8 → k ≠ 7 → kids = [] := fun h1 h2 => List.length_eq_zero_iff.1 (h0.2 h1 h2)
    simp only at h
    split at h
    · rename_i h1
      simp only [Bool.or_eq_true, beq_iff_eq] at h1
      simp only [Bool.and_eq_true, beq_iff_eq] at h
      have hs := str_nil h.2
      by_cases h7 : k = 7
      · exact .inr (.inr (.inr (.inr (.inl ⟨h7, h.1, hs, hks (by omega)⟩))))
      · exact .inl ⟨by omega, h.1, hs, hks (by omega), hkid (by omega) h7⟩
    · split at h
      · rename_i h1
        simp only [beq_iff_eq] at h1
        simp only [Bool.and_eq_true, beq_iff_eq] at h
        exact .inr (.inl ⟨h1, str_nil h.2, hks (by omega), hkid (by omega) (by omega)⟩)
      · split at h
        · rename_i h1
          simp only [beq_iff_eq] at h1
          simp only [Bool.and_eq_true, beq_iff_eq] at h
          exact .inr (.inr (.inl ⟨h1, h.1, h.2, hks (by omega), hkid (by omega) (by omega)⟩))
        · split at h
          · rename_i h1
            simp only [beq_iff_eq] at h1
            simp only [Bool.and_eq_true, beq_iff_eq] at h
            exact .inr (.inr (.inr (.inl ⟨h1, h.1, hks (by omega), hkid (by omega) (by omega)⟩)))
          · split at h
            · rename_i h1
              simp only [beq_iff_eq] at h1
              simp only [Bool.and_eq_true, beq_iff_eq, decide_eq_true_eq] at h
              exact .inr (.inr (.inr (.inr (.inr (.inl ⟨h1, h.1.1.1, str_nil h.1.1.2, h.1.2, h.2⟩)))))
            · simp only [Bool.and_eq_true, beq_iff_eq, inBO, decide_eq_true_eq] at h
              exact .inr (.inr (.inr (.inr (.inr (.inr ⟨h.1.1, h.1.2.1, str_nil h.2, hks (by omega), hkid (by omega) (by omega)⟩)))))
/-- What the first signs tell. -/
def cls : List UInt8 → Int
  | c :: r => if c = 110 then 1 else if c = 116 then 2 else if c = 102 then 3 else if c = 47 then 5 else if c = 91 then 7 else if c = 60 then (match r with | d :: _ => if d = 60 then 8 else 6 | [] => 6) else if dgt c then 4 else 0
  | [] => 0
theorem cls_dgt {c : UInt8} {r : List UInt8} (h : dgt c = true) : cls (c :: r) = 4 := by
  have n1 : ∀ d : UInt8, dgt d = false → c ≠ d := fun d hd hh => by subst hh; rw [h] at hd; cases hd
  simp only [cls, if_neg (n1 110 rfl), if_neg (n1 116 rfl), if_neg (n1 102 rfl), if_neg (n1 47 rfl), if_neg (n1 91 rfl), if_neg (n1 60 rfl), h, if_true]
theorem cls_of {k n : Int} {s : ByteArray} {ks : List ByteArray} {kids : List Ob} (h : fieldsB k n s ks kids.length = true) (r : List UInt8) : cls (showO (.mk k n s ks kids) ++ r) = if k = 9 then 4 else k := by
  rw [showO]
  rcases shpO h with ⟨h1, _⟩ | ⟨rfl, _⟩ | ⟨rfl, _⟩ | ⟨rfl, _⟩ | ⟨rfl, _⟩ | ⟨rfl, _⟩ | ⟨rfl, _⟩
  · rcases h1 with rfl | rfl | rfl <;> simp [cls]
  · obtain ⟨c, q, h1, h2⟩ := itoa_hd n
    simp only [Int.reduceEq, if_false, if_true, h1, List.cons_append, cls_dgt h2]
  · simp [cls]
  · simp only [Int.reduceEq, if_false, if_true, List.cons_append]
    cases hh : hexL s.data.toList with
    | nil => simp [cls]
    | cons d q =>
      have := (hex_ne (l := s.data.toList) d (by rw [hh]; simp)).2
      simp [cls, this]
  · simp [cls]
  · simp [cls]
  · obtain ⟨c, q, h1, h2⟩ := itoa_hd n
    simp only [Int.reduceEq, if_false, if_true, h1, List.cons_append, cls_dgt h2]
theorem show_hd {o : Ob} (h : OkO o) (r : List UInt8) {c : UInt8} {q : List UInt8} (he : showO o ++ r = c :: q) : cls (c :: q) ≠ 0 := by
  cases h with
  | mk k n s ks kids hf hk =>
    have := cls_of hf r
    rw [he] at this
    rw [this]
    rcases shpO hf with ⟨h1, _⟩ | ⟨rfl, _⟩ | ⟨rfl, _⟩ | ⟨rfl, _⟩ | ⟨rfl, _⟩ | ⟨rfl, _⟩ | ⟨rfl, _⟩ <;> split <;> omega
end Go.Proofs.YtikegeligblekaaGreat.M

/- What is shown of a right tree tells the tree: the whole tree. Plain words. No condition. -/
namespace Go.Proofs.YtikegeligblekaaGreat.M
open Go Go.Proofs
set_option maxRecDepth 100000
set_option maxHeartbeats 2000000
set_option linter.unusedSimpArgs false
set_option linter.unusedVariables false
theorem show4 (n : Int) (s : ByteArray) (ks : List ByteArray) (kids : List Ob) : showO (.mk 4 n s ks kids) = Lib.itoa n := by rw [showO]; simp
theorem show9 (n : Int) (s : ByteArray) (ks : List ByteArray) (kids : List Ob) : showO (.mk 9 n s ks kids) = Lib.itoa n ++ [32, 48, 32, 82] := by rw [showO]; simp
theorem show5 (n : Int) (s : ByteArray) (ks : List ByteArray) (kids : List Ob) : showO (.mk 5 n s ks kids) = 47 :: s.data.toList := by rw [showO]; simp
theorem show6 (n : Int) (s : ByteArray) (ks : List ByteArray) (kids : List Ob) : showO (.mk 6 n s ks kids) = 60 :: hexL s.data.toList ++ [62] := by rw [showO]; simp
theorem show7 (n : Int) (s : ByteArray) (ks : List ByteArray) (kids : List Ob) : showO (.mk 7 n s ks kids) = 91 :: lstL (showL kids) ++ [93] := by rw [showO]; simp
theorem show8 (n : Int) (s : ByteArray) (ks : List ByteArray) (kids : List Ob) : showO (.mk 8 n s ks kids) = [60, 60] ++ dicL ks (showL kids) ++ [32, 62, 62] := by rw [showO]; simp
theorem show_zero {o : Ob} (h : OkO o) {r t : List UInt8} (he : showO o ++ r = 48 :: t) : r = t := by
  cases h with
  | mk k n s ks kids hf hk =>
    have hc := cls_of hf r
    rw [he, cls_dgt (by rfl)] at hc
    have pre : ∀ q, Lib.itoa n ++ q = 48 :: t → n = 0 ∧ q = t := fun q hh => by
      obtain ⟨c, q', h1, _⟩ := itoa_hd n
      rw [h1, List.cons_append] at hh
      injection hh with h2 h3
      subst h2
      obtain ⟨g1, rfl⟩ := itoa_zero h1
      exact ⟨g1, by simpa using h3⟩
    rcases shpO hf with ⟨h1, _⟩ | ⟨rfl, _⟩ | ⟨rfl, _⟩ | ⟨rfl, _⟩ | ⟨rfl, _⟩ | ⟨rfl, _⟩ | ⟨rfl, h1, _⟩
    · split at hc <;> omega
    · rw [show4] at he
      exact (pre _ he).2
    · simp at hc
    · simp at hc
    · simp at hc
    · simp at hc
    · rw [show9, List.append_assoc] at he
      have := (pre _ he).1
      omega
/-- A list behind its first. -/
def lsT : List Ob → List UInt8 → List UInt8
  | [], r => 93 :: r
  | y :: l, r => 32 :: (showO y ++ lsT l r)
theorem lst_cons (r : List UInt8) : ∀ (l : List Ob) (x : Ob), lstL (showL (x :: l)) ++ 93 :: r = showO x ++ lsT l r
  | [], x => by rw [showL, showL]; rfl
  | y :: l, x => by
    have := lst_cons r l y
    rw [showL] at this
    rw [showL, showL, lstL, List.append_assoc, List.cons_append, this]; rfl
theorem lsT_tl (r : List UInt8) : ∀ {l : List Ob}, (∀ y ∈ l, OkO y) → Tl (lsT l r)
  | [], _ => fun c q h => by injection h with h _; exact .inl h.symm
  | y :: l, hl => fun c q h => by
    injection h with h h'
    refine .inr ⟨h.symm, fun z hz => ?_⟩
    subst hz
    have h1 := show_zero (hl y (by simp)) h'
    cases l with
    | nil => injection h1 with h1 _; cases h1
    | cons y' l =>
      injection h1 with _ h1
      exact show_hd (hl y' (by simp)) _ h1 (by rfl)
/-- A dict behind its beginning. -/
def dcT : List ByteArray → List Ob → List UInt8 → List UInt8
  | k :: ks, x :: l, r => 32 :: 47 :: (k.data.toList ++ 32 :: (showO x ++ dcT ks l r))
  | _, _, r => 32 :: 62 :: 62 :: r
theorem dic_T (r : List UInt8) : ∀ (ks : List ByteArray) (l : List Ob), dicL ks (showL l) ++ 32 :: 62 :: 62 :: r = dcT ks l r
  | [], l => by cases l <;> simp [showL, dicL, dcT]
  | k :: ks, [] => by simp [showL, dicL, dcT]
  | k :: ks, x :: l => by
    rw [showL, dicL, dcT, ← dic_T r ks l]
    simp
theorem dcT_tl (r : List UInt8) : ∀ (ks : List ByteArray) (l : List Ob), Tl (dcT ks l r)
  | [], l => fun c q h => by
    cases l <;> (injection h with h h'; refine .inr ⟨h.symm, fun z hz => ?_⟩; subst hz; injection h' with h' _; exact absurd h' (by decide))
  | k :: ks, [] => fun c q h => by
    injection h with h h'; refine .inr ⟨h.symm, fun z hz => ?_⟩; subst hz; injection h' with h' _; exact absurd h' (by decide)
  | k :: ks, x :: l => fun c q h => by
    injection h with h h'; refine .inr ⟨h.symm, fun z hz => ?_⟩; subst hz; injection h' with h' _; exact absurd h' (by decide)
def Pinj (a : Ob) : Prop := ∀ (b : Ob), OkO a → OkO b → ∀ ra rb, Tl ra → Tl rb → showO a ++ ra = showO b ++ rb → a = b ∧ ra = rb
theorem lsT_inj : ∀ {l1 l2 : List Ob} {ra rb : List UInt8}, (∀ a ∈ l1, Pinj a) → (∀ a ∈ l1, OkO a) → (∀ a ∈ l2, OkO a) → lsT l1 ra = lsT l2 rb → l1 = l2 ∧ ra = rb
  | [], [], ra, rb, _, _, _, h => by injection h with _ h; exact ⟨rfl, h⟩
  | [], y :: l, ra, rb, _, _, _, h => by injection h with h _; cases h
  | x :: l, [], ra, rb, _, _, _, h => by injection h with h _; cases h
  | x :: l, y :: l', ra, rb, hp, h1, h2, h => by
    injection h with _ h
    obtain ⟨rfl, e⟩ := hp x (by simp) y (h1 x (by simp)) (h2 y (by simp)) _ _ (lsT_tl ra fun y hy => h1 y (by simp [hy])) (lsT_tl rb fun y hy => h2 y (by simp [hy])) h
    obtain ⟨rfl, e2⟩ := lsT_inj (fun a ha => hp a (by simp [ha])) (fun a ha => h1 a (by simp [ha])) (fun a ha => h2 a (by simp [ha])) e
    exact ⟨rfl, e2⟩
theorem data_inj {s t : ByteArray} (h : s.data.toList = t.data.toList) : s = t := ByteArray.ext (Array.toList_inj.1 h)
theorem dcT_inj : ∀ {k1 k2 : List ByteArray} {l1 l2 : List Ob} {ra rb : List UInt8}, k1.length = l1.length → k2.length = l2.length → (∀ k ∈ k1, wordB k = true) → (∀ k ∈ k2, wordB k = true) → (∀ a ∈ l1, Pinj a) → (∀ a ∈ l1, OkO a) → (∀ a ∈ l2, OkO a) → dcT k1 l1 ra = dcT k2 l2 rb → k1 = k2 ∧ l1 = l2 ∧ ra = rb
  | [], [], [], [], ra, rb, _, _, _, _, _, _, _, h => by
    injection h with _ h; injection h with _ h; injection h with _ h; exact ⟨rfl, rfl, h⟩
  | [], y :: k2, [], y' :: l2, ra, rb, _, _, _, _, _, _, _, h => by injection h with _ h; injection h with h _; exact absurd h (by decide)
  | x :: k1, [], x' :: l1, [], ra, rb, _, _, _, _, _, _, _, h => by injection h with _ h; injection h with h _; exact absurd h (by decide)
  | x :: k1, y :: k2, x' :: l1, y' :: l2, ra, rb, e1, e2, w1, w2, hp, h1, h2, h => by
    injection h with _ h; injection h with _ h
    obtain ⟨g1, g2⟩ := pre_split (wd_of (w1 x (by simp))) (wd_of (w2 y (by simp))) (fun c q hh => by injection hh with hh _; subst hh; rfl) (fun c q hh => by injection hh with hh _; subst hh; rfl) h
    obtain rfl := data_inj g1
    injection g2 with _ g2
    obtain ⟨rfl, e⟩ := hp x' (by simp) y' (h1 x' (by simp)) (h2 y' (by simp)) _ _ (dcT_tl _ _ _) (dcT_tl _ _ _) g2
    obtain ⟨rfl, rfl, e3⟩ := dcT_inj (by simpa using e1) (by simpa using e2) (fun a ha => w1 a (by simp [ha])) (fun a ha => w2 a (by simp [ha])) (fun a ha => hp a (by simp [ha])) (fun a ha => h1 a (by simp [ha])) (fun a ha => h2 a (by simp [ha])) e
    exact ⟨rfl, rfl, e3⟩
  | [], _, _ :: _, _, _, _, e, _, _, _, _, _, _, _ => by simp at e
  | _ :: _, _, [], _, _, _, e, _, _, _, _, _, _, _ => by simp at e
  | _, [], _, _ :: _, _, _, _, e, _, _, _, _, _, _ => by simp at e
  | _, _ :: _, _, [], _, _, _, e, _, _, _, _, _, _ => by simp at e
theorem keys_word {ks : List ByteArray} (h : keysB ks = true) : ∀ k ∈ ks, wordB k = true := fun k hk => by
  obtain ⟨i, hi⟩ := List.getElem?_of_mem hk
  have := List.all_eq_true.1 h i (List.mem_range.2 (List.getElem?_eq_some_iff.1 hi).1)
  simp only [keyB, hi, Bool.and_eq_true] at this
  exact this.1
theorem injO : ∀ a : Ob, Pinj a
  | .mk k n s ks kids => fun b ha hb ra rb ta tb h => by
    cases ha with
    | mk _ _ _ _ _ hf hk =>
    cases hb with
    | mk k' n' s' ks' kids' hf' hk' =>
    have hP : ∀ o ∈ kids, Pinj o := fun o ho => injO o
    have hc := cls_of hf ra
    rw [h, cls_of hf' rb] at hc
    have d93 : dgt 93 = false := rfl
    have d32 : dgt 32 = false := rfl
    rcases shpO hf with ⟨h1, rfl, rfl, rfl, rfl⟩ | ⟨rfl, rfl, rfl, rfl⟩ | ⟨rfl, rfl, hw, rfl, rfl⟩ | ⟨rfl, rfl, rfl, rfl⟩ | ⟨rfl, rfl, rfl, rfl⟩ | ⟨rfl, rfl, rfl, hl, hky⟩ | ⟨rfl, h1, rfl, rfl, rfl⟩ <;>
      rcases shpO hf' with ⟨h1', rfl, rfl, rfl, rfl⟩ | ⟨rfl, rfl, rfl, rfl⟩ | ⟨rfl, rfl, hw', rfl, rfl⟩ | ⟨rfl, rfl, rfl, rfl⟩ | ⟨rfl, rfl, rfl, rfl⟩ | ⟨rfl, rfl, rfl, hl', hky'⟩ | ⟨rfl, h1', rfl, rfl, rfl⟩ <;>
      first
        | (exfalso; revert hc; simp; omega)
        | (exfalso; revert hc; simp; done)
        | skip
    · obtain rfl : k' = k := by split at hc <;> split at hc <;> omega
      exact ⟨rfl, List.append_cancel_left h⟩
    · rw [show4, show4] at h
      obtain ⟨g1, g2⟩ := pre_split (itoa_dgt n) (itoa_dgt n') (ta.stop d93 d32) (tb.stop d93 d32) h
      rw [itoa_inj g1]
      exact ⟨rfl, g2⟩
    · exfalso
      rw [show4, show9, List.append_assoc] at h
      obtain ⟨g1, g2⟩ := pre_split (itoa_dgt n) (itoa_dgt n') (ta.stop d93 d32) (fun c q hh => by injection hh with hh _; subst hh; rfl) h
      rcases ta _ _ g2 with hh | ⟨_, hh⟩
      · cases hh
      · exact hh _ rfl
    · rw [show5, show5] at h
      injection h with _ h
      obtain ⟨g1, g2⟩ := pre_split (wd_of hw) (wd_of hw') (ta.stop rfl rfl) (tb.stop rfl rfl) h
      rw [data_inj g1]
      exact ⟨rfl, g2⟩
    · rw [show6, show6] at h
      simp only [List.cons_append, List.append_assoc, List.nil_append] at h
      injection h with _ h
      obtain ⟨g1, g2⟩ := pre_split (p := fun c => !(c == 62)) (fun c hc => by simp [(hex_ne c hc).1]) (fun c hc => by simp [(hex_ne c hc).1]) (fun c q hh => by injection hh with hh _; subst hh; rfl) (fun c q hh => by injection hh with hh _; subst hh; rfl) h
      injection g2 with _ g2
      rw [data_inj (hex_inj g1)]
      exact ⟨rfl, g2⟩
    · rw [show7, show7] at h
      simp only [List.cons_append, List.append_assoc, List.nil_append] at h
      injection h with _ h
      cases kids with
      | nil =>
        cases kids' with
        | nil =>
          have : (93 : UInt8) :: ra = 93 :: rb := by simpa [showL, lstL] using h
          injection this with _ this
          exact ⟨rfl, this⟩
        | cons y l =>
          exfalso
          rw [lst_cons] at h
          have h' : showO y ++ lsT l rb = 93 :: ra := by rw [← h]; simp [showL, lstL]
          exact show_hd (hk' y (by simp)) _ h' (by rfl)
      | cons x l =>
        cases kids' with
        | nil =>
          exfalso
          rw [lst_cons] at h
          have h' : showO x ++ lsT l ra = 93 :: rb := by rw [h]; simp [showL, lstL]
          exact show_hd (hk x (by simp)) _ h' (by rfl)
        | cons y l' =>
          rw [lst_cons, lst_cons] at h
          obtain ⟨rfl, e⟩ := hP x (by simp) y (hk x (by simp)) (hk' y (by simp)) _ _ (lsT_tl ra fun y hy => hk y (by simp [hy])) (lsT_tl rb fun y hy => hk' y (by simp [hy])) h
          obtain ⟨rfl, e2⟩ := lsT_inj (fun a ha => hP a (by simp [ha])) (fun a ha => hk a (by simp [ha])) (fun a ha => hk' a (by simp [ha])) e
          exact ⟨rfl, e2⟩
    · rw [show8, show8] at h
      simp only [List.cons_append, List.append_assoc, List.nil_append] at h
      injection h with _ h
      injection h with _ h
      rw [dic_T, dic_T] at h
      obtain ⟨rfl, rfl, e⟩ := dcT_inj hl hl' (keys_word hky) (keys_word hky') hP hk hk' h
      exact ⟨rfl, e⟩
    · exfalso
      rw [show4, show9, List.append_assoc] at h
      obtain ⟨g1, g2⟩ := pre_split (itoa_dgt n) (itoa_dgt n') (fun c q hh => by injection hh with hh _; subst hh; rfl) (tb.stop d93 d32) h
      rcases tb _ _ g2.symm with hh | ⟨_, hh⟩
      · cases hh
      · exact hh _ rfl
    · rw [show9, show9, List.append_assoc, List.append_assoc] at h
      obtain ⟨g1, g2⟩ := pre_split (itoa_dgt n) (itoa_dgt n') (fun c q hh => by injection hh with hh _; subst hh; rfl) (fun c q hh => by injection hh with hh _; subst hh; rfl) h
      rw [itoa_inj g1]
      exact ⟨rfl, List.append_cancel_left g2⟩
  decreasing_by
  have := List.sizeOf_lt_of_mem ho
  simp only [Ob.mk.sizeOf_spec]
  omega
/-- Right trees that are shown alike are alike. -/
theorem show_inj {a b : Ob} (ha : OkO a) (hb : OkO b) (h : showO a = showO b) : a = b := (injO a b ha hb [] [] Tl.nil Tl.nil (by simpa using h)).1
end Go.Proofs.YtikegeligblekaaGreat.M

/- Dicts as lists of pairs: what is taken out, what is found; a dict told by the rest and two entries. Plain words. No condition. -/
namespace Go.Proofs.YtikegeligblekaaGreat.M
open Go Go.Proofs
set_option maxRecDepth 100000
set_option maxHeartbeats 2000000
set_option linter.unusedSimpArgs false
set_option linter.unusedVariables false
abbrev Ps := List (ByteArray × Ob)
def DK (z : Ps) : Ob := .mk 8 0 ⟨#[]⟩ (wk z) (wv z)
theorem zip_wkv : ∀ z : Ps, (wk z).zip (wv z) = z
  | [] => rfl
  | p :: z => by show (p.1, p.2) :: (wk z).zip (wv z) = _; rw [zip_wkv z]
theorem DK_inj {z z' : Ps} (h : DK z = DK z') : z = z' := by
  injection h with _ _ _ h1 h2
  rw [← zip_wkv z, h1, h2, zip_wkv]
def takeO (key : ByteArray) : Ob → Ob
  | .mk k n s ks kids => .mk 8 0 ⟨#[]⟩ (wk (woL ks kids key ks.length)) (wv (woL ks kids key ks.length))
theorem take_DK (key : ByteArray) (z : Ps) : takeO key (DK z) = DK (z.filter (neB key)) := by
  have h : woL (wk z) (wv z) key (wk z).length = z.filter (neB key) := by
    unfold woL
    rw [zip_wkv, List.take_of_length_le (by simp)]
  unfold DK takeO
  dsimp only
  rw [h]
def OkZ (z : Ps) : Prop := Asc (wk z) ∧ ∀ p ∈ z, wordB p.1 = true ∧ OkO p.2
theorem dk_of {n : Int} {s : ByteArray} {ks : List ByteArray} {kids : List Ob} (h : OkO (.mk 8 n s ks kids)) : ∃ z, OkZ z ∧ ks = wk z ∧ kids = wv z ∧ Ob.mk 8 n s ks kids = DK z := by
  cases h with
  | mk _ _ _ _ _ hf hk =>
    rcases shpO hf with ⟨h1, _⟩ | ⟨h1, _⟩ | ⟨h1, _⟩ | ⟨h1, _⟩ | ⟨h1, _⟩ | ⟨_, rfl, rfl, hl, hky⟩ | ⟨h1, _⟩
    · omega
    · omega
    · omega
    · omega
    · omega
    · obtain ⟨z1, z2⟩ := zip_fst hl
      refine ⟨ks.zip kids, ⟨by rw [z1]; exact asc_keysB hky, fun p hp => ?_⟩, z1.symm, z2.symm, by unfold DK; rw [z1, z2]; rfl⟩
      obtain ⟨g1, g2⟩ := List.of_mem_zip hp
      exact ⟨keys_word hky _ g1, hk _ g2⟩
    · omega
theorem asc_filter (p : ByteArray × Ob → Bool) : ∀ {z : Ps}, Asc (wk z) → Asc (wk (z.filter p))
  | [], h => trivial
  | q :: z, ⟨h1, h2⟩ => by
    have ih := asc_filter p (z := z) h2
    rw [List.filter_cons]
    split
    · refine ⟨fun x hx => ?_, ih⟩
      obtain ⟨y, hy, rfl⟩ := List.mem_map.1 hx
      exact h1 _ (List.mem_map.2 ⟨y, (List.mem_filter.1 hy).1, rfl⟩)
    · exact ih
theorem OkZ.filter {z : Ps} (h : OkZ z) (p : ByteArray × Ob → Bool) : OkZ (z.filter p) := ⟨asc_filter p h.1, fun q hq => h.2 q (List.mem_filter.1 hq).1⟩
theorem ok_DK {z : Ps} (h : OkZ z) : OkO (DK z) := by
  refine .mk _ _ _ _ _ ?_ fun o ho => ?_
  · have hk : keysB (wk z) = true := keysB_of h.1 fun x hx => by obtain ⟨p, hp, rfl⟩ := List.mem_map.1 hx; exact (h.2 p hp).1
    simp [fieldsB, hk]
  · obtain ⟨p, hp, rfl⟩ := List.mem_map.1 ho
    exact (h.2 p hp).2
theorem nd_filter (p : ByteArray × Ob → Bool) : ∀ z : Ps, ndL (wv (z.filter p)) ≤ ndL (wv z)
  | [] => Nat.le_refl _
  | q :: z => by
    have := nd_filter p z
    rw [List.filter_cons]
    split
    · show ndL (q.2 :: wv _) ≤ ndL (q.2 :: wv _)
      rw [ndL, ndL]; omega
    · show _ ≤ ndL (q.2 :: wv _)
      rw [ndL]; omega
theorem tn_DK {z : Ps} {p : ByteArray × Ob → Bool} (h : Tn (DK z)) : Tn (DK (z.filter p)) := by
  cases h with
  | mk _ _ _ _ _ h0 h1 hk h2 h3 =>
    have hl := List.length_filter_le p z
    simp only [wk, wv, List.length_map] at h1 h2
    refine .mk _ _ _ _ _ h0 (by simp only [List.length_map]; omega) (fun s hs => ?_) (by simp only [List.length_map]; omega) fun o ho => ?_
    · obtain ⟨q, hq, rfl⟩ := List.mem_map.1 hs
      exact hk _ (List.mem_map.2 ⟨q, (List.mem_filter.1 hq).1, rfl⟩)
    · obtain ⟨q, hq, rfl⟩ := List.mem_map.1 ho
      exact h3 _ (List.mem_map.2 ⟨q, (List.mem_filter.1 hq).1, rfl⟩)
/-! ### What is found -/
theorem ltB_irr (a : ByteArray) : ltB a a = false := less_irr _
theorem asc_uniq : ∀ {z : Ps}, Asc (wk z) → ∀ {v : ByteArray} {o o' : Ob}, (v, o) ∈ z → (v, o') ∈ z → o = o'
  | p :: z, ⟨h1, h2⟩, v, o, o', h, h' => by
    rcases List.mem_cons.1 h with e | e <;> rcases List.mem_cons.1 h' with e' | e'
    · rw [← e'] at e; injection e with _ e
    · subst e
      have := h1 v (List.mem_map.2 ⟨(v, o'), e', rfl⟩); rw [ltB_irr] at this; cases this
    · subst e'
      have := h1 v (List.mem_map.2 ⟨(v, o), e, rfl⟩); rw [ltB_irr] at this; cases this
    · exact asc_uniq h2 e e'
theorem entry_iff {z : Ps} (ha : Asc (wk z)) {v : ByteArray} {o : Ob} : entryO 8 (wk z) (wv z) v = some o ↔ (v, o) ∈ z := by
  have hg : ∀ {i : Nat} {p}, z[i]? = some p → (wk z)[i]? = some p.1 ∧ (wv z)[i]? = some p.2 := fun h => by simp [List.getElem?_map, h]
  have hlen : (wv z).length = (wk z).length := by simp
  have hone : ∀ {o : Ob}, entryO 8 (wk z) (wv z) v = some o → (v, o) ∈ z := fun {o} h => by
    unfold entryO at h
    split at h
    · cases h
    · rename_i h0
      have e : atB 8 (wk z) (wv z).length v = keyAt (wk z) v := by unfold atB; rw [if_neg (by decide), if_pos hlen.symm]
      rw [e] at h h0
      unfold keyAt at h h0
      rcases firstF_cases (keyP (wk z) v) (wk z).length with ⟨h1, _⟩ | ⟨i, hi, h1, h2, _⟩
      · rw [h1] at h0; omega
      · rw [h1] at h
        obtain ⟨p, hp⟩ : ∃ p, z[i]? = some p := ⟨_, List.getElem?_eq_getElem (by simpa using hi)⟩
        obtain ⟨g1, g2⟩ := hg hp
        have h' : (wv z)[i]? = some o := h
        rw [g2] at h'
        obtain rfl := Option.some.inj h'
        simp only [keyP, g1] at h2
        have := (Lib.bytes_beq_iff _ _).1 h2
        subst this
        exact List.mem_of_getElem? hp
  refine ⟨hone, fun h => ?_⟩
  cases he : entryO 8 (wk z) (wv z) v with
  | some o' => rw [asc_uniq ha h (hone he)]
  | none =>
    exfalso
    obtain ⟨i, hi⟩ := List.getElem?_of_mem h
    obtain ⟨g1, g2⟩ := hg hi
    have hlt : i < (wk z).length := (List.getElem?_eq_some_iff.1 g1).1
    have e : atB 8 (wk z) (wv z).length v = keyAt (wk z) v := by unfold atB; rw [if_neg (by decide), if_pos hlen.symm]
    unfold entryO at he
    rw [e] at he
    unfold keyAt at he
    rcases firstF_cases (keyP (wk z) v) (wk z).length with ⟨_, h2⟩ | ⟨j, hj, h1, h2, _⟩
    · have := h2 i hlt
      simp [keyP, g1] at this
    · rw [h1, if_neg (by omega)] at he
      have : (wv z)[j]? = none := he
      rw [List.getElem?_eq_none_iff] at this
      omega
theorem asc_ext : ∀ {z z' : Ps}, Asc (wk z) → Asc (wk z') → (∀ p, p ∈ z ↔ p ∈ z') → z = z'
  | [], [], _, _, _ => rfl
  | [], q :: z', _, _, h => by have := (h q).2 (by simp); simp at this
  | p :: z, [], _, _, h => by have := (h p).1 (by simp); simp at this
  | p :: z, q :: z', ⟨h1, h2⟩, ⟨g1, g2⟩, h => by
    have hpq : p = q := by
      rcases List.mem_cons.1 ((h p).1 (by simp)) with e | e
      · exact e
      · rcases List.mem_cons.1 ((h q).2 (by simp)) with e2 | e2
        · exact e2.symm
        · have a1 := g1 _ (List.mem_map.2 ⟨_, e, rfl⟩)
          have a2 := h1 _ (List.mem_map.2 ⟨_, e2, rfl⟩)
          have := less_trans a1 a2
          rw [less_irr] at this; cases this
    subst hpq
    refine congrArg _ (asc_ext h2 g2 fun r => ⟨fun hr => ?_, fun hr => ?_⟩)
    · rcases List.mem_cons.1 ((h r).1 (by simp [hr])) with rfl | e
      · have := h1 _ (List.mem_map.2 ⟨_, hr, rfl⟩); rw [ltB_irr] at this; cases this
      · exact e
    · rcases List.mem_cons.1 ((h r).2 (by simp [hr])) with rfl | e
      · have := g1 _ (List.mem_map.2 ⟨_, hr, rfl⟩); rw [ltB_irr] at this; cases this
      · exact e
theorem neB_false {key : ByteArray} {p : ByteArray × Ob} (h : neB key p = false) : p.1 = key := by
  simp only [neB, Bool.not_eq_false'] at h
  exact (Lib.bytes_beq_iff _ _).1 h
/-- A dict is told by what is left without two keys, and these. -/
theorem restore {z z' : Ps} {f l : ByteArray} (hz : Asc (wk z)) (hz' : Asc (wk z')) (h : (z.filter (neB f)).filter (neB l) = (z'.filter (neB f)).filter (neB l)) (hf : entryO 8 (wk z) (wv z) f = entryO 8 (wk z') (wv z') f)
    (hl : entryO 8 (wk z) (wv z) l = entryO 8 (wk z') (wv z') l) : z = z' := by
  have half : ∀ {z z' : Ps}, Asc (wk z) → Asc (wk z') → (z.filter (neB f)).filter (neB l) = (z'.filter (neB f)).filter (neB l) → entryO 8 (wk z) (wv z) f = entryO 8 (wk z') (wv z') f → entryO 8 (wk z) (wv z) l = entryO 8 (wk z') (wv z') l → ∀ p ∈ z, p ∈ z' := fun {z z'} hz hz' h hf hl p hp => by
    cases h1 : neB f p with
    | false =>
      obtain ⟨v, o⟩ := p
      obtain rfl : v = f := neB_false h1
      rw [(entry_iff hz).2 hp] at hf
      exact (entry_iff hz').1 hf.symm
    | true =>
      cases h2 : neB l p with
      | false =>
        obtain ⟨v, o⟩ := p
        obtain rfl : v = l := neB_false h2
        rw [(entry_iff hz).2 hp] at hl
        exact (entry_iff hz').1 hl.symm
      | true =>
        have : p ∈ (z.filter (neB f)).filter (neB l) := List.mem_filter.2 ⟨List.mem_filter.2 ⟨hp, h1⟩, h2⟩
        rw [h] at this
        exact (List.mem_filter.1 (List.mem_filter.1 this).1).1
  exact asc_ext hz hz' fun p => ⟨half hz hz' h hf hl p, half hz' hz h.symm hf.symm hl.symm p⟩
end Go.Proofs.YtikegeligblekaaGreat.M

/- Contracts for DocOk, part 5: DocOk. No condition. -/
namespace Go.Proofs.YtikegeligblekaaGreat.M
open Go Go.Proofs
set_option maxRecDepth 100000
set_option maxHeartbeats 2000000
set_option linter.unusedSimpArgs false
def itP (a : List It) (i : Nat) : Bool :=
  match a[i]? with
  | some x => itB x && !(decide (i > 0) && match a[i - 1]? with | some y => decide (y.num ≥ x.num) | none => false)
  | none => true
def itsB (a : List It) : Bool := (List.range a.length).all (itP a)
theorem itsB_no {a : List It} {i : Nat} (hi : i < a.length) (h : itP a i = false) : itsB a = false := by
  unfold itsB
  rw [List.all_eq_false]
  exact ⟨i, List.mem_range.2 hi, by simp [h]⟩
theorem itsB_yes {a : List It} (h : ∀ j, j < a.length → itP a j = true) : itsB a = true := by
  unfold itsB
  exact List.all_eq_true.2 fun j hj => h j (List.mem_range.1 hj)
def rootB (a : List It) (r : Int) : Bool := decide (numAt a r ≥ 0) && match a[(numAt a r).toNat]? with | some x => x.k == 8 | none => false
def docB (a : List It) (r : Int) : Bool := decide ((a.length : Int) ≤ 30) && itsB a && rootB a r
theorem oc31 (a : List It) (r : Int) (ha : a.length ≤ 1048576) (hT : ∀ o ∈ a, Tn o.o) : CS Tryz.prog false 15 [.v (docT a r)] [.bool (docB a r)] [] := by
  have hroot := oc72 a r r ha
  have hcase := firstF_cases (numP a r) a.length
  unfold docT its at *
  refine CS_act tab_ok mdO Tryz.func15 rfl rfl Tryz.ntmps15 (rl := [.tmp 2]) rfl (Nat.le_of_ble_eq_true rfl) ?_
  simp only [go_sem, List.length_map]
  refine act_loop_of (md := mdO) tab_ok [1,7,8,9] [0] 1000 (ι := {i : Nat // i ≤ a.length ∧ ∀ j, j < i → itP a j = true}) (fun i => ⟨[(1, .a (.c (.ptr 0 0))), (7, .a (.c (.t (.list 8 (a.map It.t))))), (8, .a (.c (.t (.int .i64 a.length)))), (9, .a (.c (.t (.int .i64 i.1))))], [(0, .box [.t (.list 8 (a.map It.t)), .t (.int .i64 r)])], 1000, 56⟩) (fun i => a.length - i.1) ⟨0, by omega, by simp⟩ (Nat.le_of_ble_eq_true rfl) (by simp only [go_sem]) (by simp only [go_sem]; rfl) fun i => ?_
  obtain ⟨i, hi, ht⟩ := i
  simp only [go_sem, List.length_map]
  refine act_split (fun h => ?_) (fun h => ?_) <;> simp only [go_sem] <;> simp only [decide_eq_true_eq, decide_eq_false_iff_not] at h
  · obtain ⟨x, hx⟩ : ∃ x, a[i]? = some x := ⟨_, List.getElem?_eq_getElem (by omega)⟩
    have hc := oc71 x (hT x (List.mem_of_getElem? hx))
    rw [It.t_def] at hc
    simp only [go_sem, List.getElem?_map, hx, List.length_map, It.t_def]
    refine ⟨by omega, by omega, ?_⟩
    refine act_draw_of tab_ok mix mdO ?_
    simp only [go_sem]
    refine act_callE hc ?_
    simp only [go_sem]
    refine act_split (fun h2 => ?_) (fun h2 => ?_) <;> simp only [go_sem, h2]
    · refine act_split (fun h3 => ?_) (fun h3 => ?_) <;> simp only [go_sem, h3] <;> simp only [decide_eq_true_eq, decide_eq_false_iff_not] at h3
      · obtain ⟨y, hy⟩ : ∃ y, a[i - 1]? = some y := ⟨_, List.getElem?_eq_getElem (by omega)⟩
        have e : ((i : Int) - 1).toNat = i - 1 := by omega
        simp only [go_sem, wrap64O (n := (i : Int) - 1) (by omega) (by omega), e, List.getElem?_map, hx, hy, List.length_map, It.t_def]
        refine ⟨by omega, by omega, drawOk_of (by kernel_rfl), ?_⟩
        refine act_split (fun h4 => ?_) (fun h4 => ?_) <;> simp only [go_sem, h4]
        · have hno := itsB_no (a := a) (i := i) (by omega) (by simp only [itP, hx, hy, h2, h4]; simp; omega)
          simp only [docB, hno, Bool.and_false, Bool.false_and]
        · refine nextK_of ⟨i + 1, by omega, all_succ ht (by simp only [itP, hx, hy, h2, h4]; simp)⟩ (by simp only [go_sem]) ?_ (by dsimp only; omega)
          simp only [go_sem]
          rw [wrap64O (by omega) (by omega)]; rfl
      · refine ⟨drawOk_of (by kernel_rfl), ?_⟩
        refine nextK_of ⟨i + 1, by omega, all_succ ht (by simp only [itP, hx, h2]; simp; omega)⟩ (by simp only [go_sem]) ?_ (by dsimp only; omega)
        simp only [go_sem]
        rw [wrap64O (by omega) (by omega)]; rfl
    · refine ⟨drawOk_of (by kernel_rfl), ?_⟩
      have hno := itsB_no (a := a) (i := i) (by omega) (by simp only [itP, hx, h2]; simp)
      simp only [docB, hno, Bool.and_false, Bool.false_and]
  · have hy := itsB_yes (a := a) fun j hj => ht j (by omega)
    refine act_callE hroot ?_
    simp only [go_sem, docB, rootB, hy, List.length_map]
    refine act_split (fun h5 => ?_) (fun h5 => ?_) <;> simp only [go_sem, h5]
    unfold numAt
    rcases hcase with ⟨h6, _⟩ | ⟨m, hm, h6, _⟩
    · rw [h6]; simp only [go_sem]
    · rw [h6]
      obtain ⟨x, hx⟩ : ∃ x, a[m]? = some x := ⟨_, List.getElem?_eq_getElem hm⟩
      have e : decide ((m : Int) ≥ 0) = true := by simp
      simp only [go_sem, e, List.length_map, List.getElem?_map, hx, It.t_def]
      exact ⟨by omega, by omega⟩
end Go.Proofs.YtikegeligblekaaGreat.M

/- Contracts for DocOk, part 6: the reference's DocOk; the law. No condition. -/
namespace Go.Proofs.YtikegeligblekaaGreat.M
open Go Go.Proofs
set_option maxRecDepth 100000
set_option maxHeartbeats 2000000
set_option linter.unusedSimpArgs false
theorem data_len (x : It) : dataB x = (if x.hd then x.k == 8 && !(lenI x != (x.data.size : Int)) else x.data.toList == (⟨#[]⟩ : ByteArray).toList) := by
  unfold dataB
  split
  · unfold lenI entryO
    rcases atB_cases x.k x.ks x.kids.length lenS with h | ⟨i, h, hi, hk⟩
    · rw [h, if_pos (by omega)]
      have : ((-1 : Int) != (x.data.size : Int)) = true := by simp
      simp only [this]; simp
    · rw [h, if_neg (by omega)]
      obtain ⟨o, ho⟩ : ∃ o, x.kids[i]? = some o := ⟨_, List.getElem?_eq_getElem hi⟩
      obtain ⟨k', n', s', ks', kids'⟩ := o
      simp only [Int.toNat_natCast, ho, hk]
      by_cases h4 : k' = 4
      · subst h4
        by_cases h5 : n' = (x.data.size : Int)
        · simp [h5]
        · simp [h5]
      · have : ((-1 : Int) != (x.data.size : Int)) = true := by simp
        simp [h4, this]
  · rfl
theorem oc29 (a : List It) (r : Int) (ha : a.length ≤ 1048576) (hT : ∀ o ∈ a, Tn o.o) : CS Tryz.prog false 10 [.v (docT a r)] [.bool (docB a r)] [] := by
  have hroot := oc69 a r r ha
  have hcase := firstF_cases (numP a r) a.length
  unfold docT its at *
  refine CS_act tab_ok mdO Tryz.func10 rfl rfl Tryz.ntmps10 (rl := [.tmp 2]) rfl (Nat.le_of_ble_eq_true rfl) ?_
  simp only [go_sem, List.length_map]
  refine act_split (fun h0 => ?_) (fun h0 => ?_) <;> simp only [go_sem] <;> simp only [decide_eq_true_eq, decide_eq_false_iff_not] at h0
  · have : decide ((a.length : Int) ≤ 30) = false := by simp; omega
    simp only [docB, this, Bool.false_and]
  have h30 : decide ((a.length : Int) ≤ 30) = true := by simp; omega
  refine act_loop_of (md := mdO) tab_ok [1,3] [0] 1000 (ι := {i : Nat // i ≤ a.length ∧ ∀ j, j < i → itP a j = true}) (fun i => ⟨[(1, .a (.c (.ptr 0 0))), (3, .a (.c (.t (.int .i64 i.1))))], [(0, .box [.t (.list 8 (a.map It.t)), .t (.int .i64 r)])], 1000, 90⟩) (fun i => a.length - i.1) ⟨0, by omega, by simp⟩ (Nat.le_of_ble_eq_true rfl) (by simp only [go_sem]) (by simp only [go_sem]; rfl) fun i => ?_
  obtain ⟨i, hi, ht⟩ := i
  simp only [go_sem, List.length_map]
  refine act_split (fun h => ?_) (fun h => ?_) <;> simp only [go_sem] <;> simp only [decide_eq_true_eq, decide_eq_false_iff_not] at h
  · obtain ⟨x, hx⟩ : ∃ x, a[i]? = some x := ⟨_, List.getElem?_eq_getElem (by omega)⟩
    have hTx := hT x (List.mem_of_getElem? hx)
    have ho := oc26 x.o hTx
    have hl := fun b => oc68 ⟨x.num, x.k, x.n, x.s, x.ks, x.kids, b, x.data⟩ hTx.sm
    have hd := data_len x
    have no : ∀ b, itP a i = b → b = false → itsB a = false := fun b h1 h2 => itsB_no (a := a) (i := i) (by omega) (by rw [h1, h2])
    have hP : itP a i = (inBO x.num 1 99 && decide (cntO x.o 0 ≤ 120) && (if x.hd then x.k == 8 && !(lenI x != (x.data.size : Int)) else x.data.toList == (⟨#[]⟩ : ByteArray).toList) && !(decide (i > 0) && match a[i - 1]? with | some y => decide (y.num ≥ x.num) | none => false)) := by
      first | (simp only [itP, hx, itB, hd]; done) | (simp only [itP, hx, itB, hd]; rfl)
    generalize decide (cntO x.o 0 ≤ 120) = ok at ho hP
    have hli : ∀ b, lenI ⟨x.num, x.k, x.n, x.s, x.ks, x.kids, b, x.data⟩ = lenI x := fun _ => rfl
    simp only [hli, It.t_def] at hl
    generalize lenI x = li at hl hP
    rw [Ob.t_mk] at ho
    have hle : (i : Int) < a.length := by omega
    have hw1 := wrap64O (n := (i : Int) + 1) (by omega) (by omega)
    rcases Nat.eq_zero_or_pos i with hi0 | hpos
    · have hg : decide ((i : Int) > 0) = false := by simp; omega
      have hg' : decide (i > 0) = false := by simp; omega
      simp only [hg'] at hP
      simp only [go_sem, List.getElem?_map, hx, List.length_map, It.t_def]
      refine ⟨by omega, by omega, ?_⟩
      refine act_draw_of tab_ok mix mdO ?_
      simp only [go_sem]
      refine act_callE (oc44 _ _ _) ?_
      simp only [go_sem]
      repeat' (first
        | (refine act_callE ho ?_; simp only [go_sem])
        | (refine act_callE (hl _) ?_; simp only [go_sem])
        | (refine ⟨drawOk_of (by kernel_rfl), ?_⟩)
        | (refine act_draw_of tab_ok mix mdO ?_; simp only [go_sem, bne])
        | (refine act_split_notO (fun g => ?_) (fun g => ?_) <;> simp only [go_sem, g, hg, List.getElem?_map, hx, List.length_map, It.t_def])
        | (refine act_split (fun g => ?_) (fun g => ?_) <;> simp only [go_sem, g, hg, List.getElem?_map, hx, List.length_map, It.t_def])
        | (refine And.intro ?_ (And.intro ?_ ?_); omega; omega))
      all_goals first
        | (have h9 := no _ hP (by clear hP ho hl hroot hcase no ht; first | (simp [*]; done) | (simp_all; done)); simp only [docB, h9, Bool.and_false, Bool.false_and]; done)
        | (have h9 : itP a i = true := by rw [hP]; clear hP ho hl hroot hcase no ht; first | (simp [*]; done) | (simp_all; done)
           refine nextK_of ⟨i + 1, by omega, all_succ ht h9⟩ (by simp only [go_sem]) ?_ (by dsimp only; omega)
           simp only [go_sem]
           rw [hw1]; rfl)
    · obtain ⟨y, hy⟩ : ∃ y, a[i - 1]? = some y := ⟨_, List.getElem?_eq_getElem (by omega)⟩
      have e : ((i : Int) - 1).toNat = i - 1 := by omega
      have hw := wrap64O (n := (i : Int) - 1) (by omega) (by omega)
      have hg : decide ((i : Int) > 0) = true := by simp; omega
      have hg' : decide (i > 0) = true := by simp; omega
      simp only [hg', hy] at hP
      simp only [go_sem, List.getElem?_map, hx, List.length_map, It.t_def]
      refine ⟨by omega, by omega, ?_⟩
      refine act_draw_of tab_ok mix mdO ?_
      simp only [go_sem]
      refine act_callE (oc44 _ _ _) ?_
      simp only [go_sem]
      repeat' (first
        | (refine act_callE ho ?_; simp only [go_sem])
        | (refine act_callE (hl _) ?_; simp only [go_sem])
        | (refine ⟨drawOk_of (by kernel_rfl), ?_⟩)
        | (refine act_draw_of tab_ok mix mdO ?_; simp only [go_sem, bne])
        | (refine act_split_notO (fun g => ?_) (fun g => ?_) <;> simp only [go_sem, g, hg, hw, e, hy, List.getElem?_map, hx, List.length_map, It.t_def])
        | (refine act_split (fun g => ?_) (fun g => ?_) <;> simp only [go_sem, g, hg, hw, e, hy, List.getElem?_map, hx, List.length_map, It.t_def])
        | (refine And.intro ?_ (And.intro ?_ ?_); omega; omega))
      all_goals first
        | (have h9 := no _ hP (by clear hP ho hl hroot hcase no ht; first | (simp [*]; done) | (simp_all; done)); simp only [docB, h9, Bool.and_false, Bool.false_and]; done)
        | (have h9 : itP a i = true := by rw [hP]; clear hP ho hl hroot hcase no ht; first | (simp [*]; done) | (simp_all; done)
           refine nextK_of ⟨i + 1, by omega, all_succ ht h9⟩ (by simp only [go_sem]) ?_ (by dsimp only; omega)
           simp only [go_sem]
           rw [hw1]; rfl)
  · have hy := itsB_yes (a := a) fun j hj => ht j (by omega)
    refine act_callE hroot ?_
    simp only [go_sem, docB, rootB, hy, List.length_map, h30]
    unfold numAt
    rcases hcase with ⟨h6, _⟩ | ⟨m, hm, h6, _⟩
    · rw [h6]; simp only [go_sem]
    · rw [h6]
      obtain ⟨x, hx⟩ : ∃ x, a[m]? = some x := ⟨_, List.getElem?_eq_getElem hm⟩
      have e : decide ((m : Int) ≥ 0) = true := by simp
      simp only [go_sem, e, List.length_map, List.getElem?_map, hx, It.t_def]
      exact ⟨by omega, by omega⟩
end Go.Proofs.YtikegeligblekaaGreat.M

/- Contracts for DocOk, part 7: the law. No condition. -/
namespace Go.Proofs.YtikegeligblekaaGreat.M
open Go Go.Proofs
set_option maxRecDepth 100000
set_option maxHeartbeats 2000000
set_option linter.unusedSimpArgs false
end Go.Proofs.YtikegeligblekaaGreat.M

/- Contracts for SameDoc, part 1: the program's side: trees. No condition. -/
namespace Go.Proofs.YtikegeligblekaaGreat.M
open Go Go.Proofs
set_option maxRecDepth 100000
set_option maxHeartbeats 4000000
set_option linter.unusedSimpArgs false
set_option linter.unusedVariables false
open Classical in
/-- Whether something is so. -/
noncomputable def yes (p : Prop) : Bool := decide p
open Classical in
theorem yes_t {p : Prop} (h : p) : yes p = true := by unfold yes; exact decide_eq_true h
open Classical in
theorem yes_f {p : Prop} (h : ¬ p) : yes p = false := by unfold yes; exact decide_eq_false h
theorem str_beq (x y : ByteArray) (h : ¬ x = y) : (x.toList == y.toList) = false := by
  rw [Bool.eq_false_iff]
  exact fun hh => h ((Lib.bytes_beq_iff _ _).1 hh)
theorem sd51 (a b : List ByteArray) (ha : a.length ≤ 1048576) : CS Tryz.prog false 51 [.v (strs a), .v (strs b)] [.bool (yes (a = b))] [] := by
  refine CS_act tab_ok mdO Tryz.func51 rfl rfl Tryz.ntmps51 (rl := [.tmp 4]) rfl (Nat.le_of_ble_eq_true rfl) ?_
  by_cases hl : a.length = b.length
  · have e1 : ((a.length : Int) != (b.length : Int)) = false := by simp [hl]
    simp only [go_sem, strs, List.length_map, e1]
    refine act_loop_of (md := mdO) tab_ok [0,1,12,13] [] 1000 (ι := {i : Nat // i ≤ a.length ∧ ∀ j, j < i → a[j]? = b[j]?}) (fun i => ⟨[(0, .a (.c (.t (.list 1 (a.map T.str))))), (1, .a (.c (.t (.list 1 (b.map T.str))))), (12, .a (.c (.t (.int .i64 a.length)))), (13, .a (.c (.t (.int .i64 i.1))))], [], 1000, 26⟩)
      (fun i => a.length - i.1) ⟨0, Nat.zero_le _, by omega⟩ (Nat.le_of_ble_eq_true rfl) (by simp only [go_sem]) (by simp only [go_sem]; rfl) fun i => ?_
    obtain ⟨i, hi, ht⟩ := i
    dsimp only
    simp only [go_sem, List.length_map]
    refine act_split (fun g => ?_) (fun g => ?_) <;> simp only [go_sem] <;> simp only [decide_eq_true_eq, decide_eq_false_iff_not] at g
    · obtain ⟨x, hx⟩ : ∃ x, a[i]? = some x := ⟨_, List.getElem?_eq_getElem (by omega)⟩
      obtain ⟨y, hy⟩ : ∃ y, b[i]? = some y := ⟨_, List.getElem?_eq_getElem (by omega)⟩
      refine act_draw_of tab_ok mix mdO ?_
      simp only [go_sem, List.getElem?_map, hx, hy, List.length_map]
      refine ⟨by omega, by omega, by omega, by omega, drawOk_of (by kernel_rfl), ?_⟩
      by_cases hxy : x = y
      · subst hxy
        simp only [go_sem, beq_self_eq_true, Bool.not_true]
        refine nextK_of ⟨i + 1, by omega, all_succ ht (by rw [hx, hy])⟩ (by simp only [go_sem]) ?_ (by dsimp only; omega)
        simp only [go_sem]
        rw [wrap64O (by omega) (by omega)]; rfl
      · simp only [go_sem, str_beq x y hxy, Bool.not_false]
        rw [yes_f fun hh => hxy (by subst hh; rw [hx] at hy; exact Option.some.inj hy)]
    · rw [yes_t (List.ext_getElem? fun j => ?_)]
      rcases Nat.lt_or_ge j a.length with hj | hj
      · exact ht j (by omega)
      · rw [List.getElem?_eq_none hj, List.getElem?_eq_none (by omega)]
  · have e1 : ((a.length : Int) != (b.length : Int)) = true := by simp; omega
    simp only [go_sem, strs, List.length_map, e1]
    rw [yes_f fun hh => hl (by rw [hh])]
theorem sd52 (a b : List Ob) (ha : a.length ≤ 1048576) (hh : ∀ x ∈ a, ∀ y ∈ b, CS Tryz.prog false 33 [.v x.t, .v y.t] [.bool (yes (x = y))] []) : CS Tryz.prog false 52 [.v (obs a), .v (obs b), .fn 33] [.bool (yes (a = b))] [] := by
  refine CS_act tab_ok mdO Tryz.func52 rfl rfl Tryz.ntmps52 (rl := [.tmp 6]) rfl (Nat.le_of_ble_eq_true rfl) ?_
  by_cases hl : a.length = b.length
  · have e1 : ((a.length : Int) != (b.length : Int)) = false := by simp [hl]
    simp only [go_sem, obs, List.length_map, e1]
    refine act_loop_of (md := mdO) tab_ok [1,2,15,16,17] [] 1000 (ι := {i : Nat // i ≤ a.length ∧ ∀ j, j < i → a[j]? = b[j]?}) (fun i => ⟨[(1, .a (.c (.t (.list 5 (b.map Ob.t))))), (2, .a (.c (.fn 33))), (15, .a (.c (.t (.list 5 (a.map Ob.t))))), (16, .a (.c (.t (.int .i64 a.length)))), (17, .a (.c (.t (.int .i64 i.1))))], [], 1000, 32⟩)
      (fun i => a.length - i.1) ⟨0, Nat.zero_le _, by omega⟩ (Nat.le_of_ble_eq_true rfl) (by simp only [go_sem]) (by simp only [go_sem]; rfl) fun i => ?_
    obtain ⟨i, hi, ht⟩ := i
    dsimp only
    simp only [go_sem, List.length_map]
    refine act_split (fun g => ?_) (fun g => ?_) <;> simp only [go_sem] <;> simp only [decide_eq_true_eq, decide_eq_false_iff_not] at g
    · obtain ⟨x, hx⟩ : ∃ x, a[i]? = some x := ⟨_, List.getElem?_eq_getElem (by omega)⟩
      obtain ⟨y, hy⟩ : ∃ y, b[i]? = some y := ⟨_, List.getElem?_eq_getElem (by omega)⟩
      have hc := hh x (List.mem_of_getElem? hx) y (List.mem_of_getElem? hy)
      have hres : (x = y ∧ yes (x = y) = true) ∨ (¬ x = y ∧ yes (x = y) = false) := by
        by_cases hxy : x = y
        · exact .inl ⟨hxy, yes_t hxy⟩
        · exact .inr ⟨hxy, yes_f hxy⟩
      generalize yes (x = y) = q at hc hres
      obtain ⟨k, n, s, ks, kids⟩ := x
      obtain ⟨k', n', s', ks', kids'⟩ := y
      rw [Ob.t_mk, Ob.t_mk] at hc
      simp only [go_sem, List.getElem?_map, hx, hy, List.length_map, Ob.t_mk]
      refine ⟨by omega, by omega, by omega, by omega, ?_⟩
      refine act_callE hc ?_
      simp only [go_sem]
      rcases hres with ⟨hxy, rfl⟩ | ⟨hxy, rfl⟩
      · simp only [go_sem, Bool.not_true]
        refine nextK_of ⟨i + 1, by omega, all_succ ht (by rw [hx, hy, hxy])⟩ (by simp only [go_sem]) ?_ (by dsimp only; omega)
        simp only [go_sem]
        rw [wrap64O (by omega) (by omega)]; rfl
      · simp only [go_sem, Bool.not_false]
        rw [yes_f fun hh => hxy (by subst hh; rw [hx] at hy; exact Option.some.inj hy)]
    · rw [yes_t (List.ext_getElem? fun j => ?_)]
      rcases Nat.lt_or_ge j a.length with hj | hj
      · exact ht j (by omega)
      · rw [List.getElem?_eq_none hj, List.getElem?_eq_none (by omega)]
  · have e1 : ((a.length : Int) != (b.length : Int)) = true := by simp; omega
    simp only [go_sem, obs, List.length_map, e1]
    rw [yes_f fun hh => hl (by rw [hh])]
theorem sd33 (k n : Int) (s : ByteArray) (ks : List ByteArray) (kids : List Ob) (k' n' : Int) (s' : ByteArray) (ks' : List ByteArray) (kids' : List Ob) (h1 : ks.length ≤ 1048576)
    (h : CS Tryz.prog false 52 [.v (obs kids), .v (obs kids'), .fn 33] [.bool (yes (kids = kids'))] []) :
    CS Tryz.prog false 33 [.v (Ob.mk k n s ks kids).t, .v (Ob.mk k' n' s' ks' kids').t] [.bool (yes (Ob.mk k n s ks kids = Ob.mk k' n' s' ks' kids'))] [] := by
  have hks := sd51 ks ks' h1
  have hy : (kids = kids' ∧ yes (kids = kids') = true) ∨ (¬ kids = kids' ∧ yes (kids = kids') = false) := by
    by_cases hxy : kids = kids'
    · exact .inl ⟨hxy, yes_t hxy⟩
    · exact .inr ⟨hxy, yes_f hxy⟩
  generalize yes (kids = kids') = q at h hy
  simp only [obs, strs] at h hks
  rw [Ob.t_mk, Ob.t_mk]
  refine CS_act tab_ok mdO Tryz.func33 rfl rfl Tryz.ntmps33 (rl := [.tmp 4]) rfl (Nat.le_of_ble_eq_true rfl) ?_
  by_cases e1 : k = k'
  · subst e1
    by_cases e2 : n = n'
    · subst e2
      by_cases e3 : s = s'
      · subst e3
        simp only [go_sem, beq_self_eq_true]
        refine act_callE hks ?_
        by_cases e4 : ks = ks'
        · simp only [go_sem, yes_t e4]
          refine act_callE h ?_
          simp only [go_sem]
          rcases hy with ⟨e5, rfl⟩ | ⟨e5, rfl⟩
          · rw [yes_t (by rw [e4, e5])]
          · rw [yes_f fun hh => e5 (by injection hh)]
        · simp only [go_sem, yes_f e4]
          rw [yes_f fun hh => e4 (by injection hh)]
      · simp only [go_sem, beq_self_eq_true, str_beq s s' e3]
        rw [yes_f fun hh => e3 (by injection hh)]
    · have e : (n == n') = false := by simpa using e2
      simp only [go_sem, beq_self_eq_true, e]
      rw [yes_f fun hh => e2 (by injection hh)]
  · have e : (k == k') = false := by simpa using e1
    simp only [go_sem, e]
    rw [yes_f fun hh => e1 (by injection hh)]
theorem sd33' : ∀ (o q : Ob), Sm o → CS Tryz.prog false 33 [.v o.t, .v q.t] [.bool (yes (o = q))] []
  | .mk k n s ks kids, .mk k' n' s' ks' kids', h => by
    cases h with
    | mk _ _ _ _ _ h1 h2 h3 => exact sd33 k n s ks kids k' n' s' ks' kids' h1 (sd52 kids kids' h2 fun o ho q _ => sd33' o q (h3 o ho))
  termination_by o => SizeOf.sizeOf o
  decreasing_by
  have := List.sizeOf_lt_of_mem ho
  simp only [Ob.mk.sizeOf_spec]
  omega
/-! ### Entries -/
theorem gOf_inj {a b : Option Ob} : (a = b ↔ a.isSome = b.isSome ∧ gOf a = gOf b) := by
  cases a <;> cases b <;> simp [gOf]
theorem sd36 (k n : Int) (s : ByteArray) (ks : List ByteArray) (kids : List Ob) (k' n' : Int) (s' : ByteArray) (ks' : List ByteArray) (kids' : List Ob) (key : ByteArray) (hS : Sm (.mk k n s ks kids)) (hS' : Sm (.mk k' n' s' ks' kids')) :
    CS Tryz.prog false 36 [.v (Ob.mk k n s ks kids).t, .v (Ob.mk k' n' s' ks' kids').t, .v (.str key)] [.bool (yes (entryO k ks kids key = entryO k' ks' kids' key))] [] := by
  have h1 := oc22 k n s ks kids key hS
  have h2 := oc22 k' n' s' ks' kids' key hS'
  have hm : Sm (gOf (entryO k ks kids key)) := by
    cases he : entryO k ks kids key with
    | none => exact .mk _ _ _ _ _ (by simp) (by simp) (by simp)
    | some o => cases hS with | mk _ _ _ _ _ _ _ h3 => exact h3 o (entryO_mem he)
  generalize entryO k ks kids key = a at h1 hm
  generalize entryO k' ks' kids' key = b at h2
  have h3 := sd33' (gOf a) (gOf b) hm
  rw [entR_gOf] at h1 h2
  have hi := @gOf_inj a b
  generalize gOf a = x at *
  generalize gOf b = y at *
  generalize a.isSome = p at *
  generalize b.isSome = q at *
  have hy : (x = y ∧ yes (x = y) = true) ∨ (¬ x = y ∧ yes (x = y) = false) := by
    by_cases hxy : x = y
    · exact .inl ⟨hxy, yes_t hxy⟩
    · exact .inr ⟨hxy, yes_f hxy⟩
  generalize yes (x = y) = u at h3 hy
  obtain ⟨xk, xn, xs, xks, xkids⟩ := x
  obtain ⟨yk, yn, ys, yks, ykids⟩ := y
  rw [Ob.t_mk, Ob.t_mk] at h1 h2 h3
  rw [Ob.t_mk, Ob.t_mk]
  refine CS_act tab_ok mdO Tryz.func36 rfl rfl Tryz.ntmps36 (rl := [.tmp 6]) rfl (Nat.le_of_ble_eq_true rfl) ?_
  simp only [go_sem]
  refine act_callE h1 ?_
  simp only [go_sem]
  refine act_callE h2 ?_
  by_cases hpq : p = q
  · subst hpq
    simp only [go_sem, beq_self_eq_true]
    refine act_callE h3 ?_
    simp only [go_sem]
    rcases hy with ⟨e5, rfl⟩ | ⟨e5, rfl⟩
    · rw [yes_t (hi.2 ⟨rfl, e5⟩)]
    · rw [yes_f fun hh => e5 (hi.1 hh).2]
  · have e : (p == q) = false := by simpa using hpq
    simp only [go_sem, e]
    rw [yes_f fun hh => hpq (hi.1 hh).1]
end Go.Proofs.YtikegeligblekaaGreat.M

/- DataOf: both sides, told by what ZlibRead tells. No condition. -/
namespace Go.Proofs.YtikegeligblekaaGreat.M
open Go Go.Proofs
set_option maxRecDepth 100000
set_option maxHeartbeats 2000000
set_option linter.unusedSimpArgs false
set_option linter.unusedVariables false
abbrev noS : ByteArray := ⟨#[]⟩
def restP (out rest : ByteArray) : ByteArray × Nat :=
  if rest.size < 4 ∨ (rest.extract 0 4).toList ≠ (four (adl out)).toList then (noS, 3) else if 4 < rest.size then (noS, 4) else (out, 0)
def zP (s : ByteArray) (r : Rd) : ByteArray × Nat :=
  if s.size < 6 ∨ 12000 < s.size then (noS, 1) else if headB (bn s 0) (bn s 1) = true then (noS, 2) else
  if r.code ≠ 0 then (noS, 10 + r.code) else restP (bytes (ob r.out)) (s.extract (2 + (r.at' + 7) / 8) s.size)
theorem zT_zP (s : ByteArray) (r : Rd) : zT s r = [.str (zP s r).1, .int .i64 ((zP s r).2 : Nat)] := by
  unfold zT zP restT restP
  split
  · rfl
  · split
    · rfl
    · split
      · rfl
      · split
        · rfl
        · split <;> rfl
theorem zP_eq {s : ByteArray} {r r' : Rd} (h : Eqv r r') : zP s r' = zP s r ∨ ((zP s r).2 ≠ 0 ∧ (zP s r').2 ≠ 0) := by
  rcases h with ⟨_, rfl⟩ | ⟨h, h'⟩
  · exact .inl rfl
  unfold zP
  split
  · exact .inl rfl
  · split
    · exact .inl rfl
    · simp only [if_pos h, if_pos h']
      exact .inr ⟨by omega, by omega⟩
/-- What DataOf makes of what ZlibRead tells. -/
def daP (z : ByteArray × Nat) : ByteArray × Int := if z.2 = 0 then (z.1, 0) else (noS, 3)
theorem daP_eq {s : ByteArray} {r r' : Rd} (h : Eqv r r') : daP (zP s r') = daP (zP s r) := by
  rcases zP_eq (s := s) h with h | ⟨h, h'⟩
  · rw [h]
  · unfold daP; rw [if_neg h, if_neg h']
abbrev filS : ByteArray := ⟨#[70, 105, 108, 116, 101, 114]⟩
abbrev parS : ByteArray := ⟨#[68, 101, 99, 111, 100, 101, 80, 97, 114, 109, 115]⟩
abbrev flaS : ByteArray := ⟨#[70, 108, 97, 116, 101, 68, 101, 99, 111, 100, 101]⟩
/-- Not the filter that is known. -/
def flaB : Option Ob → Bool
  | some (.mk k _ s _ _) => (k == 5) && (s.toList == flaS.toList)
  | none => false
def datP (x : It) (z : ByteArray × Nat) : ByteArray × Int :=
  if (!x.hd || x.k != 8 || !decide (cntO x.o 0 ≤ 120)) = true then (noS, 1) else
  if ((entryO x.k x.ks x.kids parS).isSome || (entryO x.k x.ks x.kids filS).isSome && !flaB (entryO x.k x.ks x.kids filS)) = true then (noS, 2) else
  if (entryO x.k x.ks x.kids filS).isSome = true then daP z else if 2600 < x.data.size then (noS, 3) else (x.data, 0)
theorem datP_eq {x : It} {s : ByteArray} {r r' : Rd} (h : Eqv r r') : datP x (zP s r') = datP x (zP s r) := by
  unfold datP; rw [daP_eq h]
def datT (p : ByteArray × Int) : List T := [.str p.1, .int .i64 p.2]
theorem oc12 (o : Ob) : CS Tryz.prog false 28 [.v o.t] [.bool (flaB (some o))] [] := by
  obtain ⟨k, n, s, ks, kids⟩ := o
  rw [Ob.t_mk]
  refine CS_act tab_ok md Tryz.func28 rfl rfl Tryz.ntmps28 (rl := [.tmp 2]) rfl (Nat.le_of_ble_eq_true rfl) ?_
  unfold flaB
  simp only [go_sem]
  refine act_split (fun g => ?_) (fun g => ?_) <;> simp only [go_sem, g]
theorem oc5 (x : It) (hT : Tn x.o) (hs : x.data.size ≤ 1048576) : CS Tryz.prog false 13 [.v x.t] (datT (datP x (zP x.data (insR (x.data.extract 2 x.data.size) 2600)))) [] := by
  have hf := oc20 x.k x.n x.s x.ks x.kids filS hT.sm
  have hp := oc20 x.k x.n x.s x.ks x.kids parS hT.sm
  have ho := oc26 x.o hT
  have hz := c21 x.data 2600 hs
  rw [zT_zP] at hz
  unfold datP
  generalize zP x.data (insR (x.data.extract 2 x.data.size) 2600) = z at hz ⊢
  obtain ⟨zs, zc⟩ := z
  generalize decide (cntO x.o 0 ≤ 120) = ok at ho ⊢
  generalize entryO x.k x.ks x.kids filS = ef at hf ⊢
  generalize entryO x.k x.ks x.kids parS = ep at hp ⊢
  rw [Ob.t_mk] at hf hp ho
  rw [It.t_def]
  generalize hR : (if (!x.hd || x.k != 8 || !ok) = true then (noS, (1 : Int)) else _) = R
  refine CS_act tab_ok md Tryz.func13 rfl rfl Tryz.ntmps13 (rl := [.tmp 2, .tmp 3]) rfl (Nat.le_of_ble_eq_true rfl) ?_
  simp only [go_sem]
  generalize x.hd = hd at hR ⊢
  cases hd
  · obtain rfl : (noS, (1 : Int)) = R := by rw [← hR]; simp
    simp only [go_sem, datT]
  simp only [go_sem]
  generalize (x.k != 8) = k8 at hR ⊢
  cases k8
  rotate_left
  · obtain rfl : (noS, (1 : Int)) = R := by rw [← hR]; simp
    simp only [go_sem, datT]
  simp only [go_sem]
  refine act_callE ho ?_
  cases ok
  · obtain rfl : (noS, (1 : Int)) = R := by rw [← hR]; simp
    simp only [go_sem, datT]
  simp only [go_sem]
  refine act_callE hf ?_
  rw [if_neg (by simp)] at hR
  rcases ep with _ | ⟨pk, pn, ps, pks, pkids⟩
  rotate_left
  · obtain rfl : (noS, (2 : Int)) = R := by rw [← hR]; simp
    rcases ef with _ | ⟨fk, fn, fs, fks, fkids⟩
    · simp only [go_sem, entR, Ob.t_mk]
      refine act_callE hp ?_
      simp only [go_sem, entR, Ob.t_mk, datT]
    · simp only [go_sem, entR, Ob.t_mk]
      refine act_callE hp ?_
      simp only [go_sem, entR, Ob.t_mk, datT]
  rcases ef with _ | ⟨fk, fn, fs, fks, fkids⟩
  · rw [if_neg (by simp), if_neg (by simp)] at hR
    simp only [go_sem, entR, Ob.t_mk]
    refine act_callE hp ?_
    simp only [go_sem, entR, Ob.t_mk]
    by_cases hl : 2600 < x.data.size
    · have e : decide ((x.data.size : Int) > 2600) = true := by simp; omega
      rw [if_pos hl] at hR
      subst hR
      simp only [go_sem, e, datT]
    · have e : decide ((x.data.size : Int) > 2600) = false := by simp; omega
      rw [if_neg hl] at hR
      subst hR
      simp only [go_sem, e, datT]
  · have h12 := oc12 (.mk fk fn fs fks fkids)
    rw [Ob.t_mk] at h12
    generalize flaB (some (Ob.mk fk fn fs fks fkids)) = fb at hR h12
    simp only [go_sem, entR, Ob.t_mk]
    refine act_callE hp ?_
    simp only [go_sem, entR, Ob.t_mk]
    refine act_callE h12 ?_
    cases fb
    · obtain rfl : (noS, (2 : Int)) = R := by rw [← hR]; simp
      simp only [go_sem, datT]
    · rw [if_neg (by simp), if_pos (by simp)] at hR
      simp only [go_sem]
      refine act_callE hz ?_
      unfold daP at hR
      by_cases h0 : zc = 0
      · have e : ((zc : Int) != 0) = false := by simp [h0]
        rw [if_pos h0] at hR
        subst hR
        simp only [go_sem, e, datT]
      · have e : ((zc : Int) != 0) = true := by simp; omega
        rw [if_neg h0] at hR
        subst hR
        simp only [go_sem, e, datT]
theorem oc7 (x : It) (hT : Tn x.o) (hs : x.data.size ≤ 1048576) : CS Tryz.prog false 35 [.v x.t] (datT (datP x (zP x.data (infR (x.data.extract 2 x.data.size) 2600)))) [] := by
  have hf := oc22 x.k x.n x.s x.ks x.kids filS hT.sm
  have hp := oc22 x.k x.n x.s x.ks x.kids parS hT.sm
  have ho := oc27 x.o hT
  have hz := c22 x.data 2600 hs
  rw [zT_zP] at hz
  unfold datP
  generalize zP x.data (infR (x.data.extract 2 x.data.size) 2600) = z at hz ⊢
  obtain ⟨zs, zc⟩ := z
  generalize decide (cntO x.o 0 ≤ 120) = ok at ho ⊢
  generalize entryO x.k x.ks x.kids filS = ef at hf ⊢
  generalize entryO x.k x.ks x.kids parS = ep at hp ⊢
  rw [Ob.t_mk] at hf hp ho
  rw [It.t_def]
  generalize hR : (if (!x.hd || x.k != 8 || !ok) = true then (noS, (1 : Int)) else _) = R
  refine CS_act tab_ok md Tryz.func35 rfl rfl Tryz.ntmps35 (rl := [.tmp 2, .tmp 3]) rfl (Nat.le_of_ble_eq_true rfl) ?_
  simp only [go_sem]
  generalize x.hd = hd at hR ⊢
  cases hd
  · obtain rfl : (noS, (1 : Int)) = R := by rw [← hR]; simp
    simp only [go_sem, datT]
  simp only [go_sem]
  generalize (x.k != 8) = k8 at hR ⊢
  cases k8
  rotate_left
  · obtain rfl : (noS, (1 : Int)) = R := by rw [← hR]; simp
    simp only [go_sem, datT]
  simp only [go_sem]
  refine act_callE ho ?_
  cases ok
  · obtain rfl : (noS, (1 : Int)) = R := by rw [← hR]; simp
    simp only [go_sem, datT]
  simp only [go_sem]
  refine act_callE hf ?_
  rw [if_neg (by simp)] at hR
  rcases ep with _ | ⟨pk, pn, ps, pks, pkids⟩
  rotate_left
  · obtain rfl : (noS, (2 : Int)) = R := by rw [← hR]; simp
    rcases ef with _ | ⟨fk, fn, fs, fks, fkids⟩
    · simp only [go_sem, entR, Ob.t_mk]
      refine act_callE hp ?_
      simp only [go_sem, entR, Ob.t_mk, datT]
    · simp only [go_sem, entR, Ob.t_mk]
      refine act_callE hp ?_
      simp only [go_sem, entR, Ob.t_mk, datT]
  rcases ef with _ | ⟨fk, fn, fs, fks, fkids⟩
  · rw [if_neg (by simp), if_neg (by simp)] at hR
    simp only [go_sem, entR, Ob.t_mk]
    refine act_callE hp ?_
    simp only [go_sem, entR, Ob.t_mk]
    by_cases hl : 2600 < x.data.size
    · have e : decide ((x.data.size : Int) > 2600) = true := by simp; omega
      rw [if_pos hl] at hR
      subst hR
      simp only [go_sem, e, datT]
    · have e : decide ((x.data.size : Int) > 2600) = false := by simp; omega
      rw [if_neg hl] at hR
      subst hR
      simp only [go_sem, e, datT]
  · simp only [go_sem, entR, Ob.t_mk]
    refine act_callE hp ?_
    by_cases hk : fk = 5
    rotate_left
    · have e5 : (fk != 5) = true := by simp [hk]
      obtain rfl : (noS, (2 : Int)) = R := by rw [← hR]; simp [flaB, hk]
      simp only [go_sem, entR, Ob.t_mk, e5, datT]
    have e5 : (fk != 5) = false := by simp [hk]
    have e6 : (fk == 5) = true := by simp [hk]
    have e9 : flaB (some (Ob.mk fk fn fs fks fkids)) = (fs.toList == flaS.toList) := by unfold flaB; simp [hk]
    cases g2 : (fs.toList == flaS.toList)
    · rw [g2] at e9
      obtain rfl : (noS, (2 : Int)) = R := by rw [← hR]; simp [e9]
      simp only [go_sem, entR, Ob.t_mk, e5, g2, datT]
    · rw [g2] at e9
      simp only [go_sem, entR, Ob.t_mk, e5, g2]
      rw [if_neg (by simp [e9]), if_pos (by simp)] at hR
      refine act_callE hz ?_
      unfold daP at hR
      by_cases h0 : zc = 0
      · have e : ((zc : Int) != 0) = false := by simp [h0]
        rw [if_pos h0] at hR
        subst hR
        simp only [go_sem, e, datT]
      · have e : ((zc : Int) != 0) = true := by simp; omega
        rw [if_neg h0] at hR
        subst hR
        simp only [go_sem, e, datT]
end Go.Proofs.YtikegeligblekaaGreat.M

/- Contracts for SameDoc, part 2: items, on the program's side. No condition. -/
namespace Go.Proofs.YtikegeligblekaaGreat.M
open Go Go.Proofs
set_option maxRecDepth 100000
set_option maxHeartbeats 4000000
set_option linter.unusedSimpArgs false
set_option linter.unusedVariables false
def brO : Ob → Ob
  | .mk k n s ks kids => if k = 8 then takeO lenS (takeO filS (.mk k n s ks kids)) else .mk k n s ks kids
theorem br_DK (z : Ps) : brO (DK z) = DK ((z.filter (neB filS)).filter (neB lenS)) := by
  have : brO (DK z) = takeO lenS (takeO filS (DK z)) := rfl
  rw [this, take_DK, take_DK]
def kOf : Ob → Int | .mk k _ _ _ _ => k
theorem br_k (o : Ob) : kOf (brO o) = kOf o := by
  obtain ⟨k, n, s, ks, kids⟩ := o
  by_cases h : k = 8
  · subst h; rfl
  · show kOf (if k = 8 then _ else _) = _
    rw [if_neg h]
theorem br_ne {k n : Int} {s : ByteArray} {ks : List ByteArray} {kids : List Ob} (h : k ≠ 8) : brO (.mk k n s ks kids) = .mk k n s ks kids := if_neg h
theorem br_ok {o : Ob} (h : OkO o) (hT : Tn o) (hn : ndO o ≤ 120) : OkO (brO o) ∧ Tn (brO o) ∧ ndO (brO o) ≤ 120 := by
  obtain ⟨k, n, s, ks, kids⟩ := o
  by_cases hk : k = 8
  · subst hk
    obtain ⟨z, hz, rfl, rfl, he⟩ := dk_of h
    rw [he] at hT hn ⊢
    rw [br_DK]
    refine ⟨ok_DK ((hz.filter _).filter _), tn_DK (tn_DK hT), ?_⟩
    have h1 := nd_filter (neB lenS) (z.filter (neB filS))
    have h2 := nd_filter (neB filS) z
    unfold DK at hn ⊢
    rw [ndO] at hn ⊢
    omega
  · rw [br_ne hk]; exact ⟨h, hT, hn⟩
/-- A right body is told by what is left of it, and two entries. -/
theorem br_ent {k n : Int} {s : ByteArray} {ks : List ByteArray} {kids : List Ob} {k' n' : Int} {s' : ByteArray} {ks' : List ByteArray} {kids' : List Ob} (h : OkO (.mk k n s ks kids)) (h' : OkO (.mk k' n' s' ks' kids')) (hb : brO (.mk k n s ks kids) = brO (.mk k' n' s' ks' kids')) :
    (entryO k ks kids lenS = entryO k' ks' kids' lenS ∧ entryO k ks kids filS = entryO k' ks' kids' filS) ↔ Ob.mk k n s ks kids = Ob.mk k' n' s' ks' kids' := by
  have hkk : k = k' := by have := congrArg kOf hb; rw [br_k, br_k] at this; exact this
  subst hkk
  constructor
  · rintro ⟨h1, h2⟩
    by_cases hk : k = 8
    · subst hk
      obtain ⟨z, hz, rfl, rfl, he⟩ := dk_of h
      obtain ⟨z', hz', rfl, rfl, he'⟩ := dk_of h'
      rw [he, he', br_DK, br_DK] at hb
      rw [he, he', restore hz.1 hz'.1 (DK_inj hb) h2 h1]
    · rw [br_ne hk, br_ne hk] at hb; exact hb
  · intro hh
    injection hh with _ _ _ e1 e2
    rw [e1, e2]; exact ⟨rfl, rfl⟩
theorem sd53 (z : Ps) (hz : OkZ z) (hS : Sm (DK z)) (key : ByteArray) : CS Tryz.prog false 53 [.v (DK z).t, .v (.str key)] [(DK (z.filter (neB key))).t] [] := by
  have h := CS_view (xs := [.v (DK z).t, .v (.str key)]) (d42 8 0 ⟨#[]⟩ (wk z) (wv z) key hS (by simp))
  rw [(del_wo (by simp) hz.1).1] at h
  rw [← take_DK]
  exact h
theorem sd34 (o : Ob) (hok : OkO o) (hT : Tn o) : CS Tryz.prog false 34 [.v o.t] [(brO o).t] [] := by
  obtain ⟨k, n, s, ks, kids⟩ := o
  by_cases hk : k = 8
  · subst hk
    obtain ⟨z, hz, rfl, rfl, he⟩ := dk_of hok
    rw [he] at hT ⊢
    have h1 := sd53 z hz hT.sm filS
    have h2 := sd53 (z.filter (neB filS)) (hz.filter _) (tn_DK hT).sm lenS
    rw [br_DK]
    generalize (z.filter (neB filS)).filter (neB lenS) = z2 at h2 ⊢
    generalize z.filter (neB filS) = z1 at h1 h2
    unfold DK at h1 h2 ⊢
    rw [Ob.t_mk, Ob.t_mk] at h1 h2
    rw [Ob.t_mk, Ob.t_mk]
    generalize wk z = a0 at *
    generalize wv z = b0 at *
    generalize wk z1 = a1 at *
    generalize wv z1 = b1 at *
    generalize wk z2 = a2 at *
    generalize wv z2 = b2 at *
    refine CS_act tab_ok mdO Tryz.func34 rfl rfl Tryz.ntmps34 (rl := [.cell 2 37]) rfl (Nat.le_of_ble_eq_true rfl) ?_
    simp only [go_sem]
    refine act_callE h1 ?_
    simp only [go_sem]
    refine act_callE h2 ?_
    simp only [go_sem]
  · rw [br_ne hk, Ob.t_mk]
    have e : (k != 8) = true := by simpa using hk
    refine CS_act tab_ok mdO Tryz.func34 rfl rfl Tryz.ntmps34 (rl := [.cell 2 37]) rfl (Nat.le_of_ble_eq_true rfl) ?_
    simp only [go_sem, e]
/-! ### Items -/
structure RtI (x : It) : Prop where
  ok : OkO x.o
  T : Tn x.o
  nd : ndO x.o ≤ 120
  hd : x.hd = true → x.k = 8
  no : x.hd = false → x.data = ⟨#[]⟩
  sz : x.data.size ≤ 1048576
noncomputable def dtP (x : It) : ByteArray × Int := datP x (zP x.data (infR (x.data.extract 2 x.data.size) 2600))
theorem dat_no (x : It) (z : ByteArray × Nat) (h : (datP x z).2 ≠ 0) : (datP x z).1 = noS := by
  unfold datP daP at *
  repeat' split
  all_goals first | rfl | (simp_all; done)
def smP (x y : It) : Prop := x.num = y.num ∧ x.hd = y.hd ∧ brO x.o = brO y.o ∧ (dtP x).2 = (dtP y).2 ∧ (if (dtP x).2 = 0 then (dtP x).1 = (dtP y).1 else x.data = y.data ∧ x.o = y.o)
theorem sd17 (x y : It) (hx : RtI x) (hy : RtI y) : CS Tryz.prog false 17 [.v x.t, .v y.t] [.bool (yes (smP x y))] [] := by
  have b1 := sd34 x.o hx.ok hx.T
  have b2 := sd34 y.o hy.ok hy.T
  have d1 : CS Tryz.prog false 35 [.v x.t] (datT (dtP x)) [] := oc7 x hx.T hx.sz
  have d2 : CS Tryz.prog false 35 [.v y.t] (datT (dtP y)) [] := oc7 y hy.T hy.sz
  have so := sd33' (brO x.o) (brO y.o) (br_ok hx.ok hx.T hx.nd).2.1.sm
  have eL := sd36 x.k x.n x.s x.ks x.kids y.k y.n y.s y.ks y.kids lenS hx.T.sm hy.T.sm
  have eF := sd36 x.k x.n x.s x.ks x.kids y.k y.n y.s y.ks y.kids filS hx.T.sm hy.T.sm
  have hbe := br_ent hx.ok hy.ok
  have hP : smP x y ↔ (x.num = y.num ∧ x.hd = y.hd ∧ brO x.o = brO y.o ∧ (dtP x).2 = (dtP y).2 ∧ (if (dtP x).2 = 0 then (dtP x).1 = (dtP y).1 else x.data = y.data ∧ x.o = y.o)) := Iff.rfl
  clear hx hy
  generalize dtP x = p at *
  generalize dtP y = q at *
  generalize smP x y = R at *
  obtain ⟨num, k, n, s, ks, kids, hd, data⟩ := x
  obtain ⟨num', k', n', s', ks', kids', hd', data'⟩ := y
  obtain ⟨pt, pc⟩ := p
  obtain ⟨qt, qc⟩ := q
  simp only [It.o] at *
  generalize brO (.mk k n s ks kids) = u at *
  generalize brO (.mk k' n' s' ks' kids') = v at *
  obtain ⟨uk, un, us, uks, ukids⟩ := u
  obtain ⟨vk, vn, vs, vks, vkids⟩ := v
  rw [Ob.t_mk, Ob.t_mk] at b1 b2 so eL eF
  rw [It.t_def] at d1 d2
  rw [It.t_def, It.t_def]
  refine CS_act tab_ok mdO Tryz.func17 rfl rfl Tryz.ntmps17 (rl := [.tmp 4]) rfl (Nat.le_of_ble_eq_true rfl) ?_
  simp only [go_sem]
  refine act_draw_of tab_ok mix mdO ?_
  by_cases e1 : num = num'
  · by_cases e2 : hd = hd'
    · subst e1 e2
      simp only [go_sem, bne_self_eq_false]
      refine act_callE b1 ?_
      simp only [go_sem]
      refine act_callE b2 ?_
      simp only [go_sem]
      refine act_callE so ?_
      by_cases e3 : Ob.mk uk un us uks ukids = Ob.mk vk vn vs vks vkids
      · simp only [go_sem, yes_t e3, Bool.not_true]
        refine ⟨drawOk_of (by kernel_rfl), ?_⟩
        refine act_callE d1 ?_
        simp only [go_sem, datT]
        refine act_callE d2 ?_
        by_cases e4 : pc = qc
        · subst e4
          simp only [go_sem, datT, bne_self_eq_false]
          by_cases e5 : pc = 0
          · subst e5
            have hP : R ↔ pt = qt := by rw [hP]; simp [e3]
            simp only [go_sem, Int.reduceBEq]
            by_cases e6 : pt = qt
            · rw [yes_t (hP.2 e6), e6]; simp
            · rw [yes_f (fun h => e6 (hP.1 h)), str_beq _ _ e6]
          · have e : (pc == 0) = false := by simpa using e5
            have hP : R ↔ data = data' ∧ Ob.mk k n s ks kids = Ob.mk k' n' s' ks' kids' := by rw [hP]; simp [e3, e5]
            have hbe := hbe e3
            simp only [go_sem, e]
            by_cases e6 : data = data'
            · subst e6
              simp only [go_sem, beq_self_eq_true]
              refine act_callE eL ?_
              by_cases e7 : entryO k ks kids lenS = entryO k' ks' kids' lenS
              · simp only [go_sem, yes_t e7]
                refine act_callE eF ?_
                simp only [go_sem]
                by_cases e8 : entryO k ks kids filS = entryO k' ks' kids' filS
                · rw [yes_t e8, yes_t (hP.2 ⟨rfl, hbe.1 ⟨e7, e8⟩⟩)]
                · rw [yes_f e8, yes_f fun h => e8 (hbe.2 (hP.1 h).2).2]
              · simp only [go_sem, yes_f e7]
                rw [yes_f fun h => e7 (hbe.2 (hP.1 h).2).1]
            · simp only [go_sem, str_beq _ _ e6]
              rw [yes_f fun h => e6 (hP.1 h).1]
        · have e : (pc != qc) = true := by simpa using e4
          simp only [go_sem, datT, e]
          rw [yes_f fun h => e4 (hP.1 h).2.2.2.1]
      · simp only [go_sem, yes_f e3, Bool.not_false]
        refine ⟨drawOk_of (by kernel_rfl), ?_⟩
        rw [yes_f fun h => e3 (hP.1 h).2.2.1]
    · subst e1
      have e : (hd == hd') = false := by simpa using e2
      simp only [go_sem, bne_self_eq_false, e, Bool.not_false]
      refine ⟨drawOk_of (by kernel_rfl), ?_⟩
      rw [yes_f fun h => e2 (hP.1 h).2.1]
  · have e : (num != num') = true := by simpa using e1
    simp only [go_sem, e]
    refine ⟨drawOk_of (by kernel_rfl), ?_⟩
    rw [yes_f fun h => e1 (hP.1 h).1]
end Go.Proofs.YtikegeligblekaaGreat.M

/- Contracts for SameDoc, part 3: documents, on the program's side. No condition. -/
namespace Go.Proofs.YtikegeligblekaaGreat.M
open Go Go.Proofs
set_option maxRecDepth 100000
set_option maxHeartbeats 4000000
set_option linter.unusedSimpArgs false
set_option linter.unusedVariables false
theorem yes_or (p : Prop) : (p ∧ yes p = true) ∨ (¬ p ∧ yes p = false) := by
  by_cases h : p
  · exact .inl ⟨h, yes_t h⟩
  · exact .inr ⟨h, yes_f h⟩
theorem cnt_ok {o : Ob} (h : decide (cntO o 0 ≤ 120) = true) : OkO o ∧ ndO o ≤ 120 := by
  obtain ⟨h1, h2⟩ := ok_of_cnt o 0 (by simpa using h)
  have : cntO o 0 ≤ 120 := by simpa using h
  exact ⟨h1, by omega⟩
theorem entry8 {k : Int} {ks : List ByteArray} {kids : List Ob} {v : ByteArray} {o : Ob} (h : entryO k ks kids v = some o) : k = 8 := by
  unfold entryO at h
  rcases atB_cases k ks kids.length v with h1 | ⟨i, h1, _, h2⟩
  · rw [h1, if_pos (by omega)] at h; cases h
  · exact h2
theorem rti_of {x : It} (h : itB x = true) (hT : Tn x.o) (hs : x.data.size ≤ 1048576) : RtI x := by
  simp only [itB, Bool.and_eq_true] at h
  obtain ⟨⟨_, h1⟩, h2⟩ := h
  obtain ⟨g1, g2⟩ := cnt_ok h1
  refine ⟨g1, hT, g2, fun hh => ?_, fun hh => ?_, hs⟩
  · unfold dataB at h2
    rw [if_pos hh] at h2
    cases he : entryO x.k x.ks x.kids lenS with
    | none => rw [he] at h2; cases h2
    | some o => exact entry8 he
  · unfold dataB at h2
    rw [if_neg (by rw [hh]; decide)] at h2
    exact str_nil (by simpa using h2)
theorem rti_all {a : List It} {r : Int} (h : docB a r = true) (hT : ∀ x ∈ a, Tn x.o ∧ x.data.size ≤ 1048576) : ∀ x ∈ a, RtI x := fun x hx => by
  simp only [docB, Bool.and_eq_true] at h
  obtain ⟨i, hi⟩ := List.getElem?_of_mem hx
  have := List.all_eq_true.1 h.1.2 i (List.mem_range.2 (List.getElem?_eq_some_iff.1 hi).1)
  simp only [itP, hi, Bool.and_eq_true] at this
  exact rti_of this.1 (hT x hx).1 (hT x hx).2
def smL (a b : List It) : Prop := a.length = b.length ∧ ∀ (j : Nat) x y, a[j]? = some x → b[j]? = some y → smP x y
theorem sd16 (a b : List It) (ha : a.length ≤ 1048576) (h1 : ∀ x ∈ a, RtI x) (h2 : ∀ x ∈ b, RtI x) : CS Tryz.prog false 16 [.v (its a), .v (its b), .fn 17] [.bool (yes (smL a b))] [] := by
  refine CS_act tab_ok mdO Tryz.func16 rfl rfl Tryz.ntmps16 (rl := [.tmp 6]) rfl (Nat.le_of_ble_eq_true rfl) ?_
  by_cases hl : a.length = b.length
  · have e1 : ((a.length : Int) != (b.length : Int)) = false := by simp [hl]
    simp only [go_sem, its, List.length_map, e1]
    refine act_loop_of (md := mdO) tab_ok [1,2,15,16,17] [] 1000 (ι := {i : Nat // i ≤ a.length ∧ ∀ j, j < i → ∀ x y, a[j]? = some x → b[j]? = some y → smP x y}) (fun i => ⟨[(1, .a (.c (.t (.list 8 (b.map It.t))))), (2, .a (.c (.fn 17))), (15, .a (.c (.t (.list 8 (a.map It.t))))), (16, .a (.c (.t (.int .i64 a.length)))), (17, .a (.c (.t (.int .i64 i.1))))], [], 1000, 32⟩)
      (fun i => a.length - i.1) ⟨0, Nat.zero_le _, by omega⟩ (Nat.le_of_ble_eq_true rfl) (by simp only [go_sem]) (by simp only [go_sem]; rfl) fun i => ?_
    obtain ⟨i, hi, ht⟩ := i
    dsimp only
    simp only [go_sem, List.length_map]
    refine act_split (fun g => ?_) (fun g => ?_) <;> simp only [go_sem] <;> simp only [decide_eq_true_eq, decide_eq_false_iff_not] at g
    · obtain ⟨x, hx⟩ : ∃ x, a[i]? = some x := ⟨_, List.getElem?_eq_getElem (by omega)⟩
      obtain ⟨y, hy⟩ : ∃ y, b[i]? = some y := ⟨_, List.getElem?_eq_getElem (by omega)⟩
      have hc := sd17 x y (h1 x (List.mem_of_getElem? hx)) (h2 y (List.mem_of_getElem? hy))
      have hres := yes_or (smP x y)
      generalize yes (smP x y) = q at hc hres
      rw [It.t_def, It.t_def] at hc
      simp only [go_sem, List.getElem?_map, hx, hy, List.length_map, It.t_def]
      refine ⟨by omega, by omega, by omega, by omega, ?_⟩
      refine act_callE hc ?_
      simp only [go_sem]
      rcases hres with ⟨hxy, rfl⟩ | ⟨hxy, rfl⟩
      · simp only [go_sem, Bool.not_true]
        refine nextK_of ⟨i + 1, by omega, fun j hj x' y' hx' hy' => ?_⟩ (by simp only [go_sem]) ?_ (by dsimp only; omega)
        · rcases Nat.lt_succ_iff_lt_or_eq.1 hj with hj | rfl
          · exact ht j hj x' y' hx' hy'
          · rw [hx] at hx'; rw [hy] at hy'
            rw [← Option.some.inj hx', ← Option.some.inj hy']; exact hxy
        · simp only [go_sem]
          rw [wrap64O (by omega) (by omega)]; rfl
      · simp only [go_sem, Bool.not_false]
        rw [yes_f fun hh => hxy (hh.2 i x y hx hy)]
    · rw [yes_t ⟨hl, fun j x y hx hy => ht j (by have := (List.getElem?_eq_some_iff.1 hx).1; omega) x y hx hy⟩]
  · have e1 : ((a.length : Int) != (b.length : Int)) = true := by simp; omega
    simp only [go_sem, its, List.length_map, e1]
    rw [yes_f fun hh => hl hh.1]
def smD (a : List It) (r : Int) (b : List It) (q : Int) : Prop := docB a r = true ∧ docB b q = true ∧ r = q ∧ smL a b
theorem sd7 (a : List It) (r : Int) (b : List It) (q : Int) (ha : a.length ≤ 1048576) (hb : b.length ≤ 1048576) (hT : ∀ x ∈ a, Tn x.o ∧ x.data.size ≤ 1048576) (hT' : ∀ x ∈ b, Tn x.o ∧ x.data.size ≤ 1048576) :
    CS Tryz.prog false 7 [.v (docT a r), .v (docT b q)] [.bool (yes (smD a r b q))] [] := by
  have c1 := oc31 a r ha fun x hx => (hT x hx).1
  have c2 := oc31 b q hb fun x hx => (hT' x hx).1
  have hr : docB a r = true → docB b q = true → CS Tryz.prog false 16 [.v (its a), .v (its b), .fn 17] [.bool (yes (smL a b))] [] := fun g1 g2 => sd16 a b ha (rti_all g1 hT) (rti_all g2 hT')
  have hP : smD a r b q ↔ (docB a r = true ∧ docB b q = true ∧ r = q ∧ smL a b) := Iff.rfl
  have hy := yes_or (smL a b)
  generalize smD a r b q = R at *
  generalize docB a r = p1 at *
  generalize docB b q = p2 at *
  generalize yes (smL a b) = u at *
  generalize smL a b = L at *
  unfold docT its at *
  refine CS_act tab_ok mdO Tryz.func7 rfl rfl Tryz.ntmps7 (rl := [.tmp 4]) rfl (Nat.le_of_ble_eq_true rfl) ?_
  simp only [go_sem]
  refine act_callE c1 ?_
  cases p1 with
  | true =>
    simp only [go_sem]
    refine act_callE c2 ?_
    cases p2 with
    | true =>
      by_cases e : r = q
      · subst e
        simp only [go_sem, beq_self_eq_true]
        refine act_callE (hr rfl rfl) ?_
        simp only [go_sem]
        rcases hy with ⟨h, rfl⟩ | ⟨h, rfl⟩
        · rw [yes_t (hP.2 ⟨rfl, rfl, rfl, h⟩)]
        · rw [yes_f fun hh => h (hP.1 hh).2.2.2]
      · have e2 : (r == q) = false := by simpa using e
        simp only [go_sem, e2]
        rw [yes_f fun hh => e (hP.1 hh).2.2.1]
    | false =>
      simp only [go_sem]
      rw [yes_f fun hh => absurd (hP.1 hh).2.1 (by decide)]
  | false =>
    simp only [go_sem]
    rw [yes_f fun hh => absurd (hP.1 hh).1 (by decide)]
end Go.Proofs.YtikegeligblekaaGreat.M

/- Contracts for what is shown, part 3: the reference. No condition. -/
namespace Go.Proofs.YtikegeligblekaaGreat.M
open Go Go.Proofs
set_option maxRecDepth 100000
set_option maxHeartbeats 4000000
set_option linter.unusedSimpArgs false
set_option linter.unusedVariables false
theorem ew47 (x : Nat) (h : x < 16) : CS Tryz.prog false 25 [.v (.int .i64 x)] [.int .u8 (figN x)] [] := by
  refine CS_act tab_ok mdO Tryz.func25 rfl rfl Tryz.ntmps25 (rl := [.tmp 2]) rfl (Nat.le_of_ble_eq_true rfl) ?_
  simp only [go_sem]
  by_cases hx : x < 10
  · have e1 : decide ((x : Int) < 10) = true := by simp; omega
    have e2 : IntKind.u8.wrap (IntKind.i64.wrap (48 + (x : Int))) = ((figN x : Nat) : Int) := by
      rw [IntKind.wrap_i64]; simp only [figN, if_pos hx, IntKind.wrap]; simp [IntKind.bits]; omega
    simp only [go_sem, e1, e2]
  · have e1 : decide ((x : Int) < 10) = false := by simp; omega
    have e2 : IntKind.u8.wrap (IntKind.i64.wrap (IntKind.i64.wrap (97 + (x : Int)) - 10)) = ((figN x : Nat) : Int) := by
      rw [IntKind.wrap_i64, IntKind.wrap_i64]; simp only [figN, if_neg hx, IntKind.wrap]; simp [IntKind.bits]; omega
    simp only [go_sem, e1, e2]
def hexT (l : List UInt8) : List T := l.flatMap fun b => [.int .u8 (figN (b.toNat / 16)), .int .u8 (figN (b.toNat % 16))]
theorem hexT_len (l : List UInt8) : (hexT l).length = 2 * l.length := by
  induction l with
  | nil => rfl
  | cons b r ih => simp [hexT] at ih ⊢; omega
theorem hexT_app (l : List UInt8) (b : UInt8) : hexT (l ++ [b]) = hexT l ++ [.int .u8 (figN (b.toNat / 16)), .int .u8 (figN (b.toNat % 16))] := by simp [hexT]
theorem bytes_app (a b : List T) : bytes (a ++ b) = bytes a ++ bytes b := by
  apply ByteArray.ext
  simp [bytes]
theorem bytes_hex (l : List UInt8) : bytes (hexT l) = bs (hexL l) := by
  induction l with
  | nil => rfl
  | cons b r ih =>
    have e : hexT (b :: r) = [.int .u8 (figN (b.toNat / 16)), .int .u8 (figN (b.toNat % 16))] ++ hexT r := rfl
    have e2 : hexL (b :: r) = [UInt8.ofNat (figN (b.toNat / 16)), UInt8.ofNat (figN (b.toNat % 16))] ++ hexL r := rfl
    rw [e, e2, bytes_app, bs_app, ih]
    rfl
theorem isByte_hex (l : List UInt8) : ∀ b ∈ hexT l, isByte b := fun b hb => by
  obtain ⟨x, _, hx⟩ := List.mem_flatMap.1 hb
  simp at hx
  rcases hx with rfl | rfl <;> trivial
abbrev W40 (o : Ob) : Prop := CS Tryz.prog false 11 [.v o.t] [.str (bs (showO o))] []
theorem ew40a (k n : Int) (s : ByteArray) (ks : List ByteArray) (kids : List Ob) (hk : k = 1 ∨ k = 2 ∨ k = 3) : W40 (.mk k n s ks kids) := by
  unfold W40
  rw [Ob.t_mk, showO]
  refine CS_act tab_ok mdO Tryz.func11 rfl rfl Tryz.ntmps11 (rl := [.tmp 2]) rfl (Nat.le_of_ble_eq_true rfl) ?_
  rcases hk with rfl | rfl | rfl <;> simp only [go_sem, Int.reduceBEq] <;> rfl
theorem ew40b (k n : Int) (s : ByteArray) (ks : List ByteArray) (kids : List Ob) (h1 : -1000000000 ≤ n) (h2 : n ≤ 1000000000) (hk : k = 4 ∨ k = 9) : W40 (.mk k n s ks kids) := by
  have hd := ew46 n (by omega)
  have hz := decS_size n (by omega)
  unfold W40
  rw [Ob.t_mk, showO]
  refine CS_act tab_ok mdO Tryz.func11 rfl rfl Tryz.ntmps11 (rl := [.tmp 2]) rfl (Nat.le_of_ble_eq_true rfl) ?_
  rcases hk with rfl | rfl <;> simp only [go_sem, Int.reduceBEq]
  · refine act_callE hd ?_
    simp only [go_sem]
    rfl
  · refine act_callE hd ?_
    simp only [go_sem]
    refine ⟨by show _ + 4 ≤ _; omega, ?_⟩
    have : (⟨#[32, 48, 32, 82]⟩ : ByteArray) = bs [32, 48, 32, 82] := rfl
    rw [this, decS, ← bs_app]
    rfl
theorem ew40c (n : Int) (s : ByteArray) (ks : List ByteArray) (kids : List Ob) (h1 : s.size ≤ 200) : W40 (.mk 5 n s ks kids) := by
  unfold W40
  rw [Ob.t_mk, showO]
  refine CS_act tab_ok mdO Tryz.func11 rfl rfl Tryz.ntmps11 (rl := [.tmp 2]) rfl (Nat.le_of_ble_eq_true rfl) ?_
  simp only [go_sem, Int.reduceBEq]
  refine ⟨by show 1 + _ ≤ _; omega, ?_⟩
  have : (⟨#[47]⟩ : ByteArray) ++ s = bs (47 :: s.data.toList) := by
    apply ByteArray.ext; simp [bs]
  rw [this]
  rfl
theorem ew40d (n : Int) (s : ByteArray) (ks : List ByteArray) (kids : List Ob) (h1 : s.size ≤ 200) : W40 (.mk 6 n s ks kids) := by
  have hsl : s.data.toList.length = s.size := rfl
  unfold W40
  rw [Ob.t_mk, showO]
  refine CS_act tab_ok mdO Tryz.func11 rfl rfl Tryz.ntmps11 (rl := [.tmp 2]) rfl (Nat.le_of_ble_eq_true rfl) ?_
  simp only [go_sem, Int.reduceBEq]
  refine act_loop_of (md := mdO) tab_ok [1,3,4] [0,288] 2000 (ι := {i : Nat // i ≤ s.size})
    (fun i => ⟨[(1, .a (.c (.ptr 0 0))), (3, .a (.c (.own 288 i.1 0 (1 + 2 * i.1)))), (4, .a (.c (.t (.int .i64 i.1))))],
      [(0, .box [.t (.int .i64 6), .t (.int .i64 n), .t (.str s), .t (.list 1 (ks.map T.str)), .t (.list 5 (kids.map Ob.t))]), (288, .arr 1 (.int .u8 60 :: hexT (s.data.toList.take i.1)) i.1)], 2000, 112⟩)
    (fun i => s.size - i.1) ⟨0, Nat.zero_le _⟩ (Nat.le_of_ble_eq_true rfl) (by simp only [go_sem]) (by simp only [go_sem]; rfl) fun i => ?_
  obtain ⟨i, hi⟩ := i
  dsimp only
  simp only [go_sem]
  have hlen : (hexT (s.data.toList.take i)).length = 2 * i := by rw [hexT_len, List.length_take]; omega
  by_cases hil : i < s.size
  · have e1 : decide ((i : Int) < s.size) = true := by simp; omega
    have hb : s.data.toList[i]? = some (s.data.getD i 0) := by
      have hh : i < s.data.size := hil
      rw [Array.getD, dif_pos hh, List.getElem?_eq_getElem (by simpa using hh)]
      simp
    have htk : s.data.toList.take (i + 1) = s.data.toList.take i ++ [s.data.getD i 0] := by rw [List.take_add_one, hb]; rfl
    have ht : ((i : Int)).toNat = i := rfl
    simp only [go_sem, e1]
    refine act_draw_of tab_ok mix mdO ?_
    simp only [go_sem, ht]
    generalize hB : s.data.getD i 0 = B at htk
    have hB8 : B.toNat < 256 := B.toNat_lt
    have w0 : IntKind.i64.wrap (B.toNat : Int) = (B.toNat : Int) := by rw [IntKind.wrap_i64]; omega
    have t1 : ((B.toNat : Int)).tdiv 16 = ((B.toNat / 16 : Nat) : Int) := by rw [Int.tdiv_eq_ediv_of_nonneg (by omega)]; rfl
    have t2 : ((B.toNat : Int)).tmod 16 = ((B.toNat % 16 : Nat) : Int) := by rw [Int.tmod_eq_emod_of_nonneg (by omega)]; rfl
    have w1 : IntKind.i64.wrap ((B.toNat / 16 : Nat) : Int) = ((B.toNat / 16 : Nat) : Int) := by rw [IntKind.wrap_i64]; omega
    refine ⟨by omega, by omega, by decide, ?_⟩
    rw [w0, t1, w1]
    refine act_callE (ew47 _ (by omega)) ?_
    simp only [go_sem, ht, hB]
    refine ⟨by omega, by omega, by decide, ?_⟩
    rw [w0, t2]
    refine act_callE (ew47 _ (Nat.mod_lt _ (by decide))) ?_
    simp only [go_sem]
    refine ⟨by rw [hlen]; omega, by rw [hlen]; omega, drawOk_of (by kernel_rfl), ?_⟩
    refine nextK_of ⟨i + 1, by omega⟩ (by simp only [go_sem]) ?_ (by dsimp only; omega)
    simp only [go_sem]
    rw [wrap64O (n := (i : Int) + 1) (by omega) (by omega), htk, hexT_app]
    rfl
  · obtain rfl : i = s.size := by omega
    have e1 : decide ((s.size : Int) < s.size) = false := by simp
    simp only [go_sem, e1]
    have hfull : s.data.toList.take s.size = s.data.toList := List.take_of_length_le (by omega)
    rw [hfull] at hlen ⊢
    rw [List.take_of_length_le (by simp [hlen]; omega)]
    refine ⟨by omega, by omega, fun b hb => ?_, ?_⟩
    · rcases List.mem_cons.1 hb with rfl | hb
      · trivial
      · rcases List.mem_append.1 hb with hb | hb
        · exact isByte_hex _ b hb
        · simp at hb; subst hb; trivial
    · have e : (T.int .u8 60 :: (hexT s.data.toList ++ [T.int .u8 62])) = [T.int .u8 60] ++ (hexT s.data.toList ++ [T.int .u8 62]) := rfl
      have e2 : (60 :: (hexL s.data.toList ++ [62]) : List UInt8) = [60] ++ (hexL s.data.toList ++ [62]) := rfl
      rw [e, bytes_app, bytes_app, bytes_hex]
      simp only [Int.reduceEq, if_false, if_true, List.cons_append]
      rw [e2, bs_app, bs_app]
      rfl
/-- Texts, joined as far as they are told. -/
theorem lstL_succ : ∀ (l : List (List UInt8)) (x : List UInt8), l ≠ [] → lstL (l ++ [x]) = lstL l ++ (32 :: x)
  | [], x, h => absurd rfl h
  | [y], x, _ => rfl
  | y :: z :: r, x, _ => by
    have := lstL_succ (z :: r) x (by simp)
    simp only [List.cons_append] at this ⊢
    rw [lstL, lstL, this]; simp
theorem lstL_pre (l : List (List UInt8)) (i : Nat) : (lstL (l.take i)).length ≤ (l.map fun x => x.length + 50).sum := by
  refine Nat.le_trans (lstL_len _) ?_
  induction l generalizing i with
  | nil => simp
  | cons x r ih =>
    cases i with
    | zero => simp
    | succ i =>
      have := ih i
      simp only [List.take_succ_cons, List.map_cons, List.sum_cons] at this ⊢
      omega
theorem ew40e (n : Int) (s : ByteArray) (ks : List ByteArray) (kids : List Ob) (hn : ndL kids ≤ 120) (hok : ∀ o ∈ kids, OkO o) (hkl : kids.length ≤ 1048576) (hh : ∀ o ∈ kids, W40 o) : W40 (.mk 7 n s ks kids) := by
  have hsl := showL_len kids hok
  have hpre := lstL_pre (showL kids)
  rw [showL_map] at hsl hpre
  unfold W40
  rw [Ob.t_mk, showO, showL_map]
  refine CS_act tab_ok mdO Tryz.func11 rfl rfl Tryz.ntmps11 (rl := [.tmp 2]) rfl (Nat.le_of_ble_eq_true rfl) ?_
  simp only [go_sem, Int.reduceBEq]
  refine act_loop_of (md := mdO) tab_ok [1,5,6] [0] 2000 (ι := {i : Nat // i ≤ kids.length})
    (fun i => ⟨[(1, .a (.c (.ptr 0 0))), (5, .a (.c (.t (.str (bs (91 :: lstL ((kids.map showO).take i.1))))))), (6, .a (.c (.t (.int .i64 i.1))))],
      [(0, .box [.t (.int .i64 7), .t (.int .i64 n), .t (.str s), .t (.list 1 (ks.map T.str)), .t (.list 5 (kids.map Ob.t))])], 2000, 112⟩)
    (fun i => kids.length - i.1) ⟨0, Nat.zero_le _⟩ (Nat.le_of_ble_eq_true rfl) (by simp only [go_sem]) (by simp only [go_sem]; rfl) fun i => ?_
  obtain ⟨i, hi⟩ := i
  dsimp only
  simp only [go_sem, List.length_map]
  have hp := hpre i
  by_cases hil : i < kids.length
  · have e1 : decide ((i : Int) < kids.length) = true := by simp; omega
    obtain ⟨x, hx⟩ : ∃ x, kids[i]? = some x := ⟨_, List.getElem?_eq_getElem hil⟩
    have hc := hh x (List.mem_of_getElem? hx)
    have hxl := show_len x (hok x (List.mem_of_getElem? hx))
    have hxn : ndO x ≤ 120 := by
      have key : ∀ {l : List Ob} {i : Nat}, l[i]? = some x → ndO x ≤ ndL l := fun {l} => by
        induction l with
        | nil => intro i h; simp at h
        | cons o r ih =>
          intro i h
          rw [ndL]
          cases i with
          | zero => simp at h; subst h; omega
          | succ i => have := ih (i := i) (by simpa using h); omega
      exact Nat.le_trans (key hx) hn
    have htk : (kids.map showO).take (i + 1) = (kids.map showO).take i ++ [showO x] := by rw [List.take_add_one, List.getElem?_map, hx]; rfl
    have w1 : IntKind.i64.wrap ((i : Int) + 1) = ((i + 1 : Nat) : Int) := wrap64O (by omega) (by omega)
    unfold W40 at hc
    obtain ⟨k', n', s', ks', kids'⟩ := x
    rw [Ob.t_mk] at hc
    simp only [go_sem, e1]
    by_cases h0 : 0 < i
    · have e2 : decide ((i : Int) > 0) = true := by simp; omega
      have hne : (kids.map showO).take i ≠ [] := by
        have hq : ((kids.map showO).take i).length = i := by simp; omega
        intro h; rw [h] at hq; simp at hq; omega
      simp only [go_sem, e2, List.getElem?_map, hx, Ob.t_mk, List.length_map]
      refine ⟨by rw [bs_size, List.length_cons]; show _ + 1 ≤ _; omega, by omega, by omega, ?_⟩
      refine act_callE hc ?_
      simp only [go_sem]
      have e3 : (⟨#[32]⟩ : ByteArray) = bs [32] := rfl
      rw [e3, ← bs_app, ← bs_app]
      refine ⟨by simp only [bs_size, List.length_append, List.length_cons, List.length_nil, List.cons_append, List.size_toArray]; omega, ?_⟩
      refine nextK_of ⟨i + 1, by omega⟩ (by simp only [go_sem]) ?_ (by dsimp only; omega)
      simp only [go_sem]
      rw [w1, htk, lstL_succ _ _ hne]
      simp
    · obtain rfl : i = 0 := by omega
      have e2 : decide (((0 : Nat) : Int) > 0) = false := rfl
      simp only [go_sem, e2, List.getElem?_map, hx, Ob.t_mk, List.length_map]
      refine ⟨by omega, by omega, ?_⟩
      refine act_callE hc ?_
      simp only [go_sem]
      rw [← bs_app]
      refine ⟨by simp only [bs_size, List.length_cons, List.take_zero, lstL, List.length_nil, List.size_toArray]; omega, ?_⟩
      refine nextK_of ⟨1, by omega⟩ (by simp only [go_sem]) ?_ (by dsimp only; omega)
      simp only [go_sem]
      rw [w1, htk]
      simp [lstL]
  · obtain rfl : i = kids.length := by omega
    have e1 : decide ((kids.length : Int) < kids.length) = false := by simp
    simp only [go_sem, e1]
    have hfull : (kids.map showO).take kids.length = kids.map showO := List.take_of_length_le (by simp)
    rw [hfull] at hp ⊢
    refine ⟨by rw [bs_size, List.length_cons]; show _ + 1 ≤ _; omega, ?_⟩
    have e3 : (⟨#[93]⟩ : ByteArray) = bs [93] := rfl
    rw [e3, ← bs_app]
    rfl
end Go.Proofs.YtikegeligblekaaGreat.M

/- Contracts for what is shown, part 4: dicts; the reference's ShowObj. No condition. -/
namespace Go.Proofs.YtikegeligblekaaGreat.M
open Go Go.Proofs
set_option maxRecDepth 100000
set_option maxHeartbeats 4000000
set_option linter.unusedSimpArgs false
set_option linter.unusedVariables false
theorem dicL_succ : ∀ {ks : List ByteArray} {l : List (List UInt8)} (k : ByteArray) (x : List UInt8), ks.length = l.length → dicL (ks ++ [k]) (l ++ [x]) = dicL ks l ++ (32 :: 47 :: k.data.toList ++ (32 :: x))
  | [], [], k, x, _ => by simp [dicL]
  | a :: ks, b :: l, k, x, h => by
    have := dicL_succ (ks := ks) (l := l) k x (by simpa using h)
    simp only [List.cons_append] at this ⊢
    rw [dicL, dicL, this]
    simp
theorem sum_take_le {α : Type} (f : α → Nat) : ∀ (l : List α) (i : Nat), ((l.take i).map f).sum ≤ (l.map f).sum
  | [], i => by simp
  | x :: r, 0 => by simp
  | x :: r, i + 1 => by
    have := sum_take_le f r i
    simp only [List.take_succ_cons, List.map_cons, List.sum_cons]; omega
theorem dicL_pre (ks : List ByteArray) (l : List (List UInt8)) (i : Nat) (h : ∀ k ∈ ks, k.size ≤ 40) : (dicL (ks.take i) (l.take i)).length ≤ (l.map fun x => x.length + 50).sum := by
  refine Nat.le_trans (dicL_len _ _ fun k hk => h k (List.mem_of_mem_take hk)) ?_
  exact Nat.le_trans (sum_le' fun x _ => by omega) (sum_take_le (fun x : List UInt8 => x.length + 50) l i)
theorem nd_mem {x : Ob} : ∀ {l : List Ob} {i : Nat}, l[i]? = some x → ndO x ≤ ndL l := fun {l} => by
  induction l with
  | nil => intro i h; simp at h
  | cons o r ih =>
    intro i h
    rw [ndL]
    cases i with
    | zero => simp at h; subst h; omega
    | succ i => have := ih (i := i) (by simpa using h); omega
theorem ew40f (n : Int) (s : ByteArray) (ks : List ByteArray) (kids : List Ob) (hn : ndL kids ≤ 120) (hok : ∀ o ∈ kids, OkO o) (hkl : kids.length ≤ 1048576) (hl : ks.length = kids.length) (hks : ∀ k ∈ ks, k.size ≤ 40) (hh : ∀ o ∈ kids, W40 o) : W40 (.mk 8 n s ks kids) := by
  have hsl := showL_len kids hok
  have hpre := fun i => dicL_pre ks (showL kids) i hks
  rw [showL_map] at hsl hpre
  unfold W40
  rw [Ob.t_mk, showO, showL_map]
  refine CS_act tab_ok mdO Tryz.func11 rfl rfl Tryz.ntmps11 (rl := [.tmp 2]) rfl (Nat.le_of_ble_eq_true rfl) ?_
  simp only [go_sem, Int.reduceBEq]
  refine act_loop_of (md := mdO) tab_ok [1,7,8] [0] 2000 (ι := {i : Nat // i ≤ kids.length})
    (fun i => ⟨[(1, .a (.c (.ptr 0 0))), (7, .a (.c (.t (.str (bs ([60, 60] ++ dicL (ks.take i.1) ((kids.map showO).take i.1))))))), (8, .a (.c (.t (.int .i64 i.1))))],
      [(0, .box [.t (.int .i64 8), .t (.int .i64 n), .t (.str s), .t (.list 1 (ks.map T.str)), .t (.list 5 (kids.map Ob.t))])], 2000, 112⟩)
    (fun i => kids.length - i.1) ⟨0, Nat.zero_le _⟩ (Nat.le_of_ble_eq_true rfl) (by simp only [go_sem]) (by simp only [go_sem]; rfl) fun i => ?_
  obtain ⟨i, hi⟩ := i
  dsimp only
  simp only [go_sem, List.length_map]
  have hp := hpre i
  by_cases hil : i < kids.length
  · have e1 : decide ((i : Int) < ks.length) = true := by simp; omega
    obtain ⟨x, hx⟩ : ∃ x, kids[i]? = some x := ⟨_, List.getElem?_eq_getElem hil⟩
    obtain ⟨q, hq⟩ : ∃ q, ks[i]? = some q := ⟨_, List.getElem?_eq_getElem (by omega)⟩
    have hqs : q.size ≤ 40 := hks q (List.mem_of_getElem? hq)
    obtain ⟨ql, rfl⟩ : ∃ ql, q = bs ql := ⟨q.data.toList, by apply ByteArray.ext; simp [bs]⟩
    have hqd : (bs ql).data.toList = ql := by simp [bs]
    rw [bs_size] at hqs
    have hc := hh x (List.mem_of_getElem? hx)
    have hxl := show_len x (hok x (List.mem_of_getElem? hx))
    have hxn : ndO x ≤ 120 := Nat.le_trans (nd_mem hx) hn
    have htk : (kids.map showO).take (i + 1) = (kids.map showO).take i ++ [showO x] := by rw [List.take_add_one, List.getElem?_map, hx]; rfl
    have htq : ks.take (i + 1) = ks.take i ++ [bs ql] := by rw [List.take_add_one, hq]; rfl
    have w1 : IntKind.i64.wrap ((i : Int) + 1) = ((i + 1 : Nat) : Int) := wrap64O (by omega) (by omega)
    unfold W40 at hc
    obtain ⟨k', n', s', ks', kids'⟩ := x
    rw [Ob.t_mk] at hc
    simp only [go_sem, e1]
    refine act_draw_of tab_ok mix mdO ?_
    simp only [go_sem, List.getElem?_map, hx, hq, Ob.t_mk, List.length_map]
    have e3 : (⟨#[32, 47]⟩ : ByteArray) = bs [32, 47] := rfl
    have e4 : (⟨#[32]⟩ : ByteArray) = bs [32] := rfl
    rw [e3, e4, ← bs_app, ← bs_app, ← bs_app]
    refine ⟨by simp only [bs_size, List.length_append, List.length_cons, List.length_nil, List.size_toArray]; omega, by omega, by omega, ?_⟩
    refine ⟨by simp only [bs_size, List.length_append, List.length_cons, List.length_nil, List.size_toArray]; omega, ?_⟩
    refine ⟨by simp only [bs_size, List.length_append, List.length_cons, List.length_nil, List.size_toArray]; omega, by omega, by omega, ?_⟩
    refine act_callE hc ?_
    simp only [go_sem]
    rw [← bs_app]
    refine ⟨by simp only [bs_size, List.length_append, List.length_cons, List.length_nil, List.size_toArray]; omega, drawOk_of (by kernel_rfl), ?_⟩
    refine nextK_of ⟨i + 1, by omega⟩ (by simp only [go_sem]) ?_ (by dsimp only; omega)
    simp only [go_sem]
    rw [w1, htk, htq, dicL_succ _ _ (by simp; omega), hqd]
    simp
  · obtain rfl : i = kids.length := by omega
    have e1 : decide ((kids.length : Int) < ks.length) = false := by simp; omega
    simp only [go_sem, e1]
    have hfull : (kids.map showO).take kids.length = kids.map showO := List.take_of_length_le (by simp)
    have hfull2 : ks.take kids.length = ks := List.take_of_length_le (by omega)
    rw [hfull, hfull2] at hp ⊢
    have e3 : (⟨#[32, 62, 62]⟩ : ByteArray) = bs [32, 62, 62] := rfl
    rw [e3, ← bs_app]
    refine ⟨by simp only [bs_size, List.length_append, List.length_cons, List.length_nil, List.size_toArray]; omega, ?_⟩
    rfl
theorem ew40s : ∀ o : Ob, OkO o → Tn o → ndO o ≤ 120 → W40 o
  | .mk k n s ks kids, h, hT, hn => by
    rw [ndO] at hn
    cases h with
    | mk _ _ _ _ _ hf hk =>
      cases hT with
      | mk _ _ _ _ _ t0 t1 tk t2 t3 =>
        have hh : ∀ o ∈ kids, W40 o := fun o ho => by
          obtain ⟨i, hi⟩ := List.getElem?_of_mem ho
          have := nd_mem hi
          exact ew40s o (hk o ho) (t3 o ho) (by omega)
        rcases fields_of hf with (rfl | rfl | rfl | rfl) | ⟨rfl, h1, h2⟩ | ⟨rfl, h1⟩ | ⟨rfl, h1⟩ | ⟨rfl, h1, h2⟩ | ⟨rfl, h1, h2⟩
        · exact ew40a _ _ _ _ _ (by omega)
        · exact ew40a _ _ _ _ _ (by omega)
        · exact ew40a _ _ _ _ _ (by omega)
        · exact ew40e _ _ _ _ (by omega) hk t2 hh
        · exact ew40b _ _ _ _ _ h1 h2 (by omega)
        · exact ew40c _ _ _ _ (by omega)
        · exact ew40d _ _ _ _ h1
        · exact ew40f _ _ _ _ (by omega) hk t2 h1 h2 hh
        · exact ew40b _ _ _ _ _ (by omega) h2 (by omega)
  decreasing_by
  have := List.sizeOf_lt_of_mem ho
  simp only [Ob.mk.sizeOf_spec]
  omega
/-- What ShowObj tells. -/
def shO (o : Ob) : ByteArray := if cntO o 0 ≤ 120 then bs (showO o) else ⟨#[]⟩
end Go.Proofs.YtikegeligblekaaGreat.M

/- Contracts for SameDoc, part 4: the reference's side. No condition. -/
namespace Go.Proofs.YtikegeligblekaaGreat.M
open Go Go.Proofs
set_option maxRecDepth 100000
set_option maxHeartbeats 8000000
set_option linter.unusedSimpArgs false
set_option linter.unusedVariables false
theorem sd26 (z : Ps) (hT : Tn (DK z)) (key : ByteArray) : CS Tryz.prog false 26 [.v (DK z).t, .v (.str key)] [(DK (z.filter (neB key))).t] [] := by
  have h1 : (wk z).length ≤ 1048576 := by cases hT; assumption
  rw [← take_DK]
  exact ew40 8 0 ⟨#[]⟩ (wk z) (wv z) key (by simp) h1
theorem br_comm (z : Ps) : brO (DK z) = DK ((z.filter (neB lenS)).filter (neB filS)) := by
  rw [br_DK, List.filter_filter, List.filter_filter]
  congr 2
  funext p
  exact Bool.and_comm _ _
theorem sd12 (o : Ob) (hok : OkO o) (hT : Tn o) (hn : ndO o ≤ 120) (hk : kOf o = 8) : CS Tryz.prog false 12 [.v o.t] [.str (bs (showO (brO o)))] [] := by
  obtain ⟨g1, g2, g3⟩ := br_ok hok hT hn
  have h3 := ew40s (brO o) g1 g2 g3
  obtain ⟨k, n, s, ks, kids⟩ := o
  obtain rfl : k = 8 := hk
  obtain ⟨z, hz, rfl, rfl, he⟩ := dk_of hok
  rw [he] at hT h3 ⊢
  have h1 := sd26 z hT lenS
  have h2 := sd26 (z.filter (neB lenS)) (tn_DK hT) filS
  unfold W40 at h3
  rw [br_comm] at h3 ⊢
  generalize showO (DK ((z.filter (neB lenS)).filter (neB filS))) = w at *
  generalize (z.filter (neB lenS)).filter (neB filS) = z2 at h2 h3
  generalize z.filter (neB lenS) = z1 at h1 h2
  unfold DK at h1 h2 h3 ⊢
  rw [Ob.t_mk, Ob.t_mk] at h1 h2
  rw [Ob.t_mk] at h3
  rw [Ob.t_mk]
  generalize wk z = a0 at *
  generalize wv z = b0 at *
  generalize wk z1 = a1 at *
  generalize wv z1 = b1 at *
  generalize wk z2 = a2 at *
  generalize wv z2 = b2 at *
  refine CS_act tab_ok mdO Tryz.func12 rfl rfl Tryz.ntmps12 (rl := [.tmp 2]) rfl (Nat.le_of_ble_eq_true rfl) ?_
  simp only [go_sem]
  refine act_callE h1 ?_
  simp only [go_sem]
  refine act_callE h2 ?_
  simp only [go_sem]
  refine act_callE h3 ?_
  simp only [go_sem]
theorem bs_inj {a b : List UInt8} (h : bs a = bs b) : a = b := by
  have := congrArg (fun x => x.data.toList) h
  simpa [bs] using this
theorem show_beq {a b : Ob} (ha : OkO a) (hb : OkO b) : ((bs (showO a)).toList == (bs (showO b)).toList) = yes (a = b) := by
  by_cases h : a = b
  · subst h; rw [yes_t rfl]; simp
  · rw [yes_f h, str_beq _ _ fun hh => h (show_inj ha hb (bs_inj hh))]
theorem dat_hd {x : It} (h : x.hd = false) : dtP x = (noS, 1) := by
  unfold dtP datP
  rw [if_pos (by simp [h])]
/-- Items alike, by the reference's way. -/
theorem sm_no {x y : It} (hx : RtI x) (hy : RtI y) (h1 : x.num = y.num) (h2 : x.hd = y.hd) (h3 : x.hd = false) : smP x y ↔ x.o = y.o := by
  have h4 : y.hd = false := by rw [← h2, h3]
  unfold smP
  rw [dat_hd h3, dat_hd h4, hx.no h3, hy.no h4]
  constructor
  · rintro ⟨_, _, _, _, h⟩
    simpa using h
  · intro h
    exact ⟨h1, h2, by rw [h], rfl, by simpa using h⟩
theorem sm_k {x y : It} (hx : RtI x) (hy : RtI y) (h1 : x.num = y.num) (h2 : x.hd = y.hd) (h3 : x.k ≠ 8) : smP x y ↔ x.o = y.o :=
  sm_no hx hy h1 h2 (by cases hh : x.hd with | false => rfl | true => exact absurd (hx.hd hh) h3)
theorem sm_hd {x y : It} (h1 : x.num = y.num) (h2 : x.hd = y.hd) (h3 : brO x.o = brO y.o) : smP x y ↔ ((dtP x).2 = (dtP y).2 ∧ (dtP x).1 = (dtP y).1 ∧ ((dtP x).2 = 0 ∨ (x.data = y.data ∧ x.o = y.o))) := by
  unfold smP
  constructor
  · rintro ⟨_, _, _, g4, g5⟩
    refine ⟨g4, ?_, ?_⟩
    · split at g5
      · exact g5
      · rename_i h0
        have e1 : (dtP x).1 = noS := dat_no _ _ h0
        have e2 : (dtP y).1 = noS := dat_no _ _ (by show (dtP y).2 ≠ 0; rw [← g4]; exact h0)
        rw [e1, e2]
    · split at g5
      · rename_i h0; exact .inl h0
      · exact .inr g5
  · rintro ⟨g1, g2, g3⟩
    refine ⟨h1, h2, h3, g1, ?_⟩
    split
    · exact g2
    · rename_i h0
      exact g3.resolve_left h0
end Go.Proofs.YtikegeligblekaaGreat.M

/- Contracts for SameDoc, part 5: documents, on the reference's side. No condition. -/
namespace Go.Proofs.YtikegeligblekaaGreat.M
open Go Go.Proofs
set_option maxRecDepth 100000
set_option maxHeartbeats 16000000
set_option linter.unusedSimpArgs false
set_option linter.unusedVariables false
theorem sd5 (a : List It) (r : Int) (b : List It) (q : Int) (ha : a.length ≤ 1048576) (hb : b.length ≤ 1048576) (hT : ∀ x ∈ a, Tn x.o ∧ x.data.size ≤ 1048576) (hT' : ∀ x ∈ b, Tn x.o ∧ x.data.size ≤ 1048576) :
    CS Tryz.prog false 5 [.v (docT a r), .v (docT b q)] [.bool (yes (smD a r b q))] [] := by
  have c1 := oc29 a r ha fun x hx => (hT x hx).1
  have c2 := oc29 b q hb fun x hx => (hT' x hx).1
  have hr1 : docB a r = true → ∀ x ∈ a, RtI x := fun g => rti_all g hT
  have hr2 : docB b q = true → ∀ x ∈ b, RtI x := fun g => rti_all g hT'
  have hP : smD a r b q ↔ (docB a r = true ∧ docB b q = true ∧ r = q ∧ smL a b) := Iff.rfl
  generalize smD a r b q = R0 at *
  generalize docB a r = p1 at *
  generalize docB b q = p2 at *
  unfold docT its at *
  refine CS_act tab_ok mdO Tryz.func5 rfl rfl Tryz.ntmps5 (rl := [.tmp 4]) rfl (Nat.le_of_ble_eq_true rfl) ?_
  simp only [go_sem]
  refine act_callE c1 ?_
  cases p1 with
  | false =>
    simp only [go_sem, Bool.not_false]
    rw [yes_f fun hh => absurd (hP.1 hh).1 (by decide)]
  | true =>
  simp only [go_sem, Bool.not_true]
  refine act_callE c2 ?_
  cases p2 with
  | false =>
    simp only [go_sem, Bool.not_false]
    rw [yes_f fun hh => absurd (hP.1 hh).2.1 (by decide)]
  | true =>
  by_cases e : r = q
  rotate_left
  · have e2 : (r != q) = true := by simpa using e
    simp only [go_sem, Bool.not_true, e2]
    rw [yes_f fun hh => e (hP.1 hh).2.2.1]
  subst e
  by_cases hl : a.length = b.length
  rotate_left
  · have e1 : ((a.length : Int) != (b.length : Int)) = true := by simp; omega
    simp only [go_sem, Bool.not_true, bne_self_eq_false, List.length_map, e1]
    rw [yes_f fun hh => hl (hP.1 hh).2.2.2.1]
  have e1 : ((a.length : Int) != (b.length : Int)) = false := by simp [hl]
  simp only [go_sem, Bool.not_true, bne_self_eq_false, List.length_map, e1]
  refine act_loop_of (md := mdO) tab_ok [2,3,5] [0,16] 1000 (ι := {i : Nat // i ≤ a.length ∧ ∀ j, j < i → ∀ x y, a[j]? = some x → b[j]? = some y → smP x y})
    (fun i => ⟨[(2, .a (.c (.ptr 0 0))), (3, .a (.c (.ptr 16 0))), (5, .a (.c (.t (.int .i64 i.1))))], [(0, .box [.t (.list 8 (a.map It.t)), .t (.int .i64 r)]), (16, .box [.t (.list 8 (b.map It.t)), .t (.int .i64 r)])], 1000, 133⟩)
    (fun i => a.length - i.1) ⟨0, Nat.zero_le _, by omega⟩ (Nat.le_of_ble_eq_true rfl) (by simp only [go_sem]) (by simp only [go_sem]; rfl) fun i => ?_
  obtain ⟨i, hi, ht⟩ := i
  dsimp only
  simp only [go_sem, List.length_map]
  refine act_split (fun g => ?_) (fun g => ?_) <;> simp only [go_sem] <;> simp only [decide_eq_true_eq, decide_eq_false_iff_not] at g
  rotate_left
  · rw [yes_t (hP.2 ⟨rfl, rfl, rfl, hl, fun j x y hx hy => ht j (by have := (List.getElem?_eq_some_iff.1 hx).1; omega) x y hx hy⟩)]
  obtain ⟨x, hx⟩ : ∃ x, a[i]? = some x := ⟨_, List.getElem?_eq_getElem (by omega)⟩
  obtain ⟨y, hy⟩ : ∃ y, b[i]? = some y := ⟨_, List.getElem?_eq_getElem (by omega)⟩
  have rx := hr1 rfl x (List.mem_of_getElem? hx)
  have ry := hr2 rfl y (List.mem_of_getElem? hy)
  have w1 : CS Tryz.prog false 11 [.v x.o.t] [.str (bs (showO x.o))] [] := ew40s x.o rx.ok rx.T rx.nd
  have w2 : CS Tryz.prog false 11 [.v y.o.t] [.str (bs (showO y.o))] [] := ew40s y.o ry.ok ry.T ry.nd
  have hw := show_beq rx.ok ry.ok
  have hW := yes_or (x.o = y.o)
  have b1 := sd12 x.o rx.ok rx.T rx.nd
  have b2 := sd12 y.o ry.ok ry.T ry.nd
  have hbw := show_beq (br_ok rx.ok rx.T rx.nd).1 (br_ok ry.ok ry.T ry.nd).1
  have hB := yes_or (brO x.o = brO y.o)
  have d1 := oc5 x rx.T rx.sz
  have d2 := oc5 y ry.T ry.sz
  rw [datP_eq (inf_eq _ _)] at d1 d2
  have d1' : CS Tryz.prog false 13 [.v x.t] (datT (dtP x)) [] := d1
  have d2' : CS Tryz.prog false 13 [.v y.t] (datT (dtP y)) [] := d2
  clear d1 d2
  have hno := sm_no rx ry
  have hkn := sm_k rx ry
  have hhd := @sm_hd x y
  have hs : smP x y → x.num = y.num ∧ x.hd = y.hd ∧ kOf x.o = kOf y.o ∧ brO x.o = brO y.o := fun h => ⟨h.1, h.2.1, by rw [← br_k x.o, ← br_k y.o, h.2.2.1], h.2.2.1⟩
  have hF : ¬ smP x y → yes R0 = false := fun h => yes_f fun hh => h ((hP.1 hh).2.2.2.2 i x y hx hy)
  have step : smP x y → ∀ j, j < i + 1 → ∀ x y, a[j]? = some x → b[j]? = some y → smP x y := fun h j hj x' y' hx' hy' => by
    rcases Nat.lt_succ_iff_lt_or_eq.1 hj with hj | rfl
    · exact ht j hj x' y' hx' hy'
    · rw [hx] at hx'; rw [hy] at hy'
      rw [← Option.some.inj hx', ← Option.some.inj hy']; exact h
  have wi : IntKind.i64.wrap ((i : Int) + 1) = ((i + 1 : Nat) : Int) := wrap64O (by omega) (by omega)
  clear rx ry hr1 hr2 c1 c2 hP
  generalize smP x y = R at *
  generalize dtP x = p at *
  generalize dtP y = p' at *
  obtain ⟨num, k, n, s, ks, kids, hd, data⟩ := x
  obtain ⟨num', k', n', s', ks', kids', hd', data'⟩ := y
  obtain ⟨pt, pc⟩ := p
  obtain ⟨qt, qc⟩ := p'
  simp only [It.o, kOf] at *
  rw [It.t_def] at d1' d2'
  generalize bs (showO (brO (.mk k n s ks kids))) = C at *
  generalize bs (showO (brO (.mk k' n' s' ks' kids'))) = D at *
  generalize brO (.mk k n s ks kids) = u at *
  generalize brO (.mk k' n' s' ks' kids') = v at *
  generalize bs (showO (.mk k n s ks kids)) = A at *
  generalize bs (showO (.mk k' n' s' ks' kids')) = B at *
  rw [Ob.t_mk] at w1 w2 b1 b2
  generalize (Ob.mk k n s ks kids = Ob.mk k' n' s' ks' kids') = O at *
  generalize (u = v) = U at *
  generalize yes O = W at *
  generalize yes U = V at *
  simp only [go_sem, List.getElem?_map, hx, hy, List.length_map, It.t_def]
  refine ⟨by omega, by omega, by omega, by omega, ?_⟩
  by_cases e2 : num = num'
  rotate_left
  · have e : (num != num') = true := by simpa using e2
    simp only [go_sem, e]
    rw [hF fun h => e2 (hs h).1]
  by_cases e3 : hd = hd'
  rotate_left
  · have e : (hd == hd') = false := by simpa using e3
    subst e2
    simp only [go_sem, bne_self_eq_false, e, Bool.not_false]
    rw [hF fun h => e3 (hs h).2.1]
  by_cases e4 : k = k'
  rotate_left
  · have e : (k != k') = true := by simpa using e4
    subst e2 e3
    simp only [go_sem, bne_self_eq_false, beq_self_eq_true, Bool.not_true, e]
    rw [hF fun h => e4 (hs h).2.2.1]
  subst e2 e3 e4
  simp only [go_sem, bne_self_eq_false, beq_self_eq_true, Bool.not_true]
  refine act_draw_of tab_ok mix mdO ?_
  simp only [go_sem]
  refine act_callE w1 ?_
  simp only [go_sem]
  refine act_callE w2 ?_
  simp only [go_sem, hw]
  refine ⟨drawOk_of (by kernel_rfl), ?_⟩
  by_cases e5 : k = 8
  rotate_left
  · have e : (k != 8) = true := by simpa using e5
    have hi' : R ↔ O := hkn rfl rfl e5
    simp only [go_sem, e]
    rcases hW with ⟨h, rfl⟩ | ⟨h, rfl⟩
    · simp only [go_sem, Bool.not_true]
      refine nextK_of ⟨i + 1, by omega, step (hi'.2 h)⟩ (by simp only [go_sem]) ?_ (by dsimp only; omega)
      simp only [go_sem]
      rw [wi]
    · simp only [go_sem, Bool.not_false]
      rw [hF fun hh => h (hi'.1 hh)]
  have e : (k != 8) = false := by simpa using e5
  simp only [go_sem, e]
  refine act_draw_of tab_ok mix mdO ?_
  simp only [go_sem]
  refine act_callE (b1 e5) ?_
  simp only [go_sem]
  refine act_callE (b2 e5) ?_
  simp only [go_sem, hbw]
  refine ⟨drawOk_of (by kernel_rfl), ?_⟩
  rcases hB with ⟨hu, rfl⟩ | ⟨hu, rfl⟩
  rotate_left
  · simp only [go_sem, Bool.not_false]
    rw [hF fun hh => hu (hs hh).2.2.2]
  cases hd with
  | false =>
    have hi' : R ↔ O := hno rfl rfl rfl
    simp only [go_sem, Bool.not_true, Bool.not_false]
    rcases hW with ⟨h, rfl⟩ | ⟨h, rfl⟩
    · simp only [go_sem, Bool.not_true]
      refine nextK_of ⟨i + 1, by omega, step (hi'.2 h)⟩ (by simp only [go_sem]) ?_ (by dsimp only; omega)
      simp only [go_sem]
      rw [wi]
    · simp only [go_sem, Bool.not_false]
      rw [hF fun hh => h (hi'.1 hh)]
  | true =>
    have hi' := hhd rfl rfl hu
    simp only [go_sem, Bool.not_true]
    refine act_callE d1' ?_
    simp only [go_sem, datT]
    refine act_callE d2' ?_
    by_cases e6 : pc = qc
    rotate_left
    · have e : (pc != qc) = true := by simpa using e6
      simp only [go_sem, datT, e]
      rw [hF fun hh => e6 (hi'.1 hh).1]
    subst e6
    by_cases e7 : pt = qt
    rotate_left
    · simp only [go_sem, datT, bne_self_eq_false, str_beq _ _ e7, Bool.not_false]
      rw [hF fun hh => e7 (hi'.1 hh).2.1]
    subst e7
    by_cases e8 : pc = 0
    · have e : (pc != 0) = false := by simpa using e8
      simp only [go_sem, datT, bne_self_eq_false, beq_self_eq_true, Bool.not_true, e]
      refine nextK_of ⟨i + 1, by omega, step (hi'.2 ⟨rfl, rfl, .inl e8⟩)⟩ (by simp only [go_sem]) ?_ (by dsimp only; omega)
      simp only [go_sem]
      rw [wi]
    have e : (pc != 0) = true := by simpa using e8
    by_cases e9 : data = data'
    rotate_left
    · simp only [go_sem, datT, bne_self_eq_false, beq_self_eq_true, Bool.not_true, e, str_beq _ _ e9, Bool.not_false]
      rw [hF fun hh => e9 ((hi'.1 hh).2.2.resolve_left e8).1]
    subst e9
    rcases hW with ⟨h, rfl⟩ | ⟨h, rfl⟩
    · simp only [go_sem, datT, bne_self_eq_false, beq_self_eq_true, Bool.not_true, e]
      refine nextK_of ⟨i + 1, by omega, step (hi'.2 ⟨rfl, rfl, .inr ⟨rfl, h⟩⟩)⟩ (by simp only [go_sem]) ?_ (by dsimp only; omega)
      simp only [go_sem]
      rw [wi]
    · simp only [go_sem, datT, bne_self_eq_false, beq_self_eq_true, Bool.not_true, Bool.not_false, e]
      rw [hF fun hh => h ((hi'.1 hh).2.2.resolve_left e8).2]
end Go.Proofs.YtikegeligblekaaGreat.M

/- SameDoc: the law. No condition. -/
namespace Go.Proofs.YtikegeligblekaaGreat.M
open Go Go.Proofs
set_option maxRecDepth 100000
set_option maxHeartbeats 4000000
set_option linter.unusedSimpArgs false
set_option linter.unusedVariables false
theorem szIL_le : ∀ (l : List It) (x : Int), 0 ≤ x → szIL l x ≤ x
  | [], x, h => by rw [szIL]; omega
  | o :: r, x, h => by
    rw [szIL]
    split
    · omega
    · have h1 := szO_le' o.o x h
      have h2 : szI o x ≤ x := by
        unfold szI
        split
        · omega
        · split <;> omega
      have := szIL_le r (szI o x) (by omega)
      omega
theorem szD_le (l : List It) (x : Int) (h : 0 ≤ x) : szD l x ≤ x := by
  unfold szD
  split
  · omega
  · have := szIL_le l (x - l.length) (by omega)
    omega
theorem sd3 (a : List It) (r : Int) (b : List It) (q : Int) (hl : a.length ≤ 9223372036854775807) (hW : ∀ o ∈ a, Wd o.o ∧ o.data.size ≤ 9223372036854775807) (hl' : b.length ≤ 9223372036854775807) (hW' : ∀ o ∈ b, Wd o.o ∧ o.data.size ≤ 9223372036854775807) :
    CS Tryz.prog false 3 [.v (docT a r), .v (docT b q)] [.bool true] [] := by
  have h28 := oc28 a r 1048576 (by omega) (by omega) hl hW
  have h29 : 0 ≤ szD a 1048576 → CS Tryz.prog false 4 [.v (docT b q), .v (.int .i64 (szD a 1048576))] [.int .i64 (szD b (szD a 1048576))] [] := fun h => oc28 b q _ h (by have := szD_le a 1048576 (by omega); omega) hl' hW'
  have hrest : 0 ≤ szD a 1048576 → 0 ≤ szD b (szD a 1048576) → CS Tryz.prog false 6 [.v (docT a r)] [docT a r] [] ∧ CS Tryz.prog false 6 [.v (docT b q)] [docT b q] [] ∧ CS Tryz.prog false 5 [.v (docT a r), .v (docT b q)] [.bool (yes (smD a r b q))] [] ∧ CS Tryz.prog false 7 [.v (docT a r), .v (docT b q)] [.bool (yes (smD a r b q))] [] ∧
      CS Tryz.prog false 8 [.v (docT a r), .v (docT a r)] [.bool true] [] ∧ CS Tryz.prog false 8 [.v (docT b q), .v (docT b q)] [.bool true] [] := fun h0 h1 => by
    obtain ⟨g1, g2⟩ := tn_of_szD a 1048576 (by omega) (by omega)
    obtain ⟨k1, k2⟩ := tn_of_szD b (szD a 1048576) (by have := szD_le a 1048576 (by omega); omega) h1
    exact ⟨oc30 a r g1 fun o ho => (g2 o ho).1.sm, oc30 b q k1 fun o ho => (k2 o ho).1.sm, sd5 a r b q g1 k1 g2 k2, sd7 a r b q g1 k1 g2 k2, oc32 a r g1 fun o ho => (g2 o ho).1.sm, oc32 b q k1 fun o ho => (k2 o ho).1.sm⟩
  generalize szD a 1048576 = z at *
  generalize szD b z = z' at *
  generalize yes (smD a r b q) = u at *
  unfold docT its at *
  refine CS_act tab_ok mdO Tryz.func3 rfl rfl Tryz.ntmps3 (rl := [.tmp 4]) rfl (Nat.le_of_ble_eq_true rfl) ?_
  simp only [go_sem]
  refine act_callE h28 ?_
  simp only [go_sem]
  refine act_split (fun h => ?_) (fun h => ?_) <;> simp only [go_sem] <;> simp only [decide_eq_true_eq, decide_eq_false_iff_not] at h
  refine act_callE (h29 (by omega)) ?_
  simp only [go_sem]
  refine act_split (fun h' => ?_) (fun h' => ?_) <;> simp only [go_sem] <;> simp only [decide_eq_true_eq, decide_eq_false_iff_not] at h'
  obtain ⟨t1, t2, s5, s7, e1, e2⟩ := hrest (by omega) (by omega)
  refine act_draw_of tab_ok mix mdO ?_
  simp only [go_sem]
  refine act_callE t1 ?_
  simp only [go_sem]
  refine act_callE t2 ?_
  simp only [go_sem]
  refine act_callE s5 ?_
  simp only [go_sem]
  refine ⟨drawOk_of (by kernel_rfl), ?_⟩
  refine act_callE t1 ?_
  simp only [go_sem]
  refine act_callE t2 ?_
  simp only [go_sem]
  refine act_callE s7 ?_
  simp only [go_sem, bne_self_eq_false, beq_self_eq_true]
  refine act_draw_of tab_ok mix mdO ?_
  simp only [go_sem]
  refine act_callE t1 ?_
  simp only [go_sem]
  refine act_callE e1 ?_
  simp only [go_sem, Bool.not_true]
  refine ⟨drawOk_of (by kernel_rfl), ?_⟩
  refine act_draw_of tab_ok mix mdO ?_
  simp only [go_sem]
  refine act_callE t2 ?_
  simp only [go_sem]
  refine act_callE e2 ?_
  simp only [go_sem, Bool.not_true]
  exact drawOk_of (by kernel_rfl)
end Go.Proofs.YtikegeligblekaaGreat.M
