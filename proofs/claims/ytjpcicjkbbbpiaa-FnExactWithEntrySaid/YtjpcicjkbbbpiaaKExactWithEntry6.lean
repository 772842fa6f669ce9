/- slices.Delete and slices.Insert, walked: cells alone. No condition. -/
import Derived.Test.YtjpcicjkbbbpiaaProg
import Derived.WalkKit
import Derived.Lib.Walk
import Derived.Lib.SliceRun
import Derived.Lib.Hide
import Derived.Deep.RegionLaw
import Derived.Deep.LoopGhost
import Derived.Laws.IdiomCopy
import Derived.Sort.WalkB12
import Derived.Lib.SlicesDelete
import Derived.Lib.AppendZerosOnto
import Derived.Laws.NewBlocks
import Derived.Lib.AppendZeros
import Derived.Lib.JoinLaws
import Derived.Lib.SlicesS
import Derived.Test.YtjpcicjkbbbpiaaKExactWithEntry5
/- slices.Delete and slices.Insert, walked: cells alone. No condition. -/
namespace Go.Proofs.Ytjpcicjkbbbpiaa.M
open Go Go.Proofs Go.RowKit Go.Lib Go.Sort
set_option linter.unusedSimpArgs false
set_option linter.unusedVariables false
theorem isSome_setCellsM (b : Nat) (vs : List Value) (o : Nat) (w : World) (h : ∀ j, j < vs.length → (w.cell? ⟨b, o + j, none⟩).isSome = true) (k : Nat) (hk : (w.cell? ⟨b, k, none⟩).isSome = true) : ((w.setCells b o vs).cell? ⟨b, k, none⟩).isSome = true := by
  by_cases hin : o ≤ k ∧ k < o + vs.length
  · have := World.cell?_setCells_in b vs o w h (k - o) (by omega)
    rw [show o + (k - o) = k by omega] at this
    rw [this]; rfl
  · rw [World.cell?_setCells_out b vs o w ⟨b, k, none⟩ (fun _ _ => by show k < o ∨ o + vs.length ≤ k; omega)]
    exact hk
theorem zeroCells_one (z : Array Value) : Builtin.zeroCells z 1 = z := by
  unfold Builtin.zeroCells
  apply Array.ext
  · simp
  · intro i h1 h2
    simp only [Nat.one_mul] at h1 ⊢
    simp [Nat.mod_eq_of_lt h2, h2]
theorem run_clear_one {P : Program} (w : World) (t e ty : TypeId) (z : Value) (ht : P.underlying t = some (.slice e)) (hv : ∀ w, (zeroValue e).run P w = .ok z w) (h1 : ∀ v ∈ z.cells.toList, v.oneCell' = true) (b o c : Nat)
    (hc : ∀ j, j < z.cells.size → (w.cell? ⟨b, o + j, none⟩).isSome = true) (hf : ∀ j, j < z.cells.size → w.frozen? ⟨b, o + j, none⟩ = false) :
    (Builtin.clear_ #[t] ty #[.slice (some ⟨b, o, none⟩) 1 c]).run P w = .ok (.tuple #[]) (w.setCells b o z.cells.toList) := by
  have hst := run_storeCells_cells (P := P) b o z.cells.toList 0 w (by simpa using hc) (by simpa using hf) h1
  simp only [Nat.add_zero] at hst
  simp [Builtin.clear_, run_underlying ht, hv, zeroCells_one, hst]
theorem run_copy_cellsK {P : Program} (w : World) (dT sT ty elem : TypeId) (b o dLen dCap : Nat) (a : Addr) (sLen sCap : Nat) (cs : List Value) (k : Nat)
    (hu : P.underlying dT = some (.slice elem)) (hs : (P.info? elem).map (·.size) = some k) (hn : cs.length = Nat.min sLen dLen * k)
    (hsrc : ∀ (j : Nat) v, cs[j]? = some v → w.cell? (a.add j) = some v) (hc : ∀ j, j < cs.length → (w.cell? ⟨b, o + j, none⟩).isSome = true) (hf : ∀ j, j < cs.length → w.frozen? ⟨b, o + j, none⟩ = false) (h1 : ∀ v ∈ cs, v.oneCell' = true) :
    (Builtin.copy_ #[dT, sT] ty #[.slice (some ⟨b, o, none⟩) dLen dCap, .slice (some a) sLen sCap]).run P w = .ok (goInt (Nat.min sLen dLen : Nat)) (w.setCells b o cs) := by
  have hl := run_loadCells_list (P := P) w a cs hsrc
  have hst := run_storeCells_cells (P := P) b o cs 0 w (by simpa using hc) (by simpa using hf) h1
  rw [Nat.add_zero] at hst
  rw [hn] at hl
  cases hq : P.info? elem with
  | none => simp [hq] at hs
  | some i =>
    obtain rfl : i.size = k := by simpa [hq] using hs
    simp [Builtin.copy_, run_underlying hu, Builtin.lenOf, Builtin.firstCells, sizeOf, typeInfo, hq, hl, hst]
theorem shape_of {w : World} {a : Addr} (h : (w.cell? a).isSome = true) : ∃ t k, w.shape? a.block = some (t, k + 1) := by
  unfold World.cell? at h
  unfold World.shape?
  split at h
  · rename_i c t f hb
    split at h
    · simp at h
    · have : a.off < c.size := by
        by_cases hlt : a.off < c.size
        · exact hlt
        · rw [Array.getElem?_eq_none (by omega)] at h; simp at h
      exact ⟨t, c.size - 1, by simp; omega⟩
  · simp at h
theorem run_overlaps_any {P : Program} (w : World) (tS tR e : TypeId) (ht : P.underlying tS = some (.slice e)) (i0 : TypeInfo) (hi0 : P.info? e = some i0) (hs0 : 0 < i0.size)
    (a b : Addr) (la ca lb cb : Nat) (hla : 0 < la) (hlb : 0 < lb) (hne : a.block ≠ b.block) (hca : (w.cell? a).isSome = true) (hcb : (w.cell? b).isSome = true) (hf : w.frozen? b = false) :
    ∃ r w1, (Extern.SlicesOverlaps.overlaps #[tS, tS] #[tR] #[.slice (some a) la ca, .slice (some b) lb cb]).run P w = .ok (.bool r) w1 ∧ (w1 = w ∨ w1 = w.drew) := by
  have hnb : (a.block != b.block) = true := by simpa using hne
  have hnb' : (a.block == b.block) = false := by simpa using hne
  obtain ⟨tA, kA, hsa⟩ := shape_of hca
  obtain ⟨tB, kB, hsb⟩ := shape_of hcb
  change ∃ r w1, Sem.run P (α := Value) (do
    let some t := (#[tS, tS] : Array TypeId)[0]? | stuck "slices.overlaps: no parameter types"
    let .slice elem ← underlying t | stuck "slices.overlaps: slice type expected"
    let size ← sizeOf elem
    match (some a : Option Addr), (some b : Option Addr) with
    | some a, some b =>
      if la = 0 ∨ lb = 0 ∨ size = 0 then pure (Value.bool false)
      else if a.block != b.block && (← frozen a) && (← frozen b) then unsupported .addressObserved
      else do
        if a.block != b.block then do
          noView a; noView b
          if ← mayBeOne a b then return Value.bool ((← choose (.extern "sameAddr.stringBytes" 2)) == 1)
        pure (Value.bool (a.block == b.block && a.off < b.off + lb * size && b.off < a.off + la * size))
    | _, _ => pure (Value.bool false)) w = .ok (.bool r) w1 ∧ _
  have h1 : la ≠ 0 := by omega
  have h2 : lb ≠ 0 := by omega
  have h3 : i0.size ≠ 0 := by omega
  have hqf : (Question.extern "sameAddr.stringBytes" 2).forced = false := rfl
  cases hX : ((Question.extern "sameAddr.stringBytes" 2).cut (w.tape w.drawn (Question.extern "sameAddr.stringBytes" 2)) == 1) <;> cases hfa : w.frozen? a <;> cases hfa2 : w.frozen? { block := a.block, off := kA + 1 } <;> cases hfb2 : w.frozen? { block := b.block, off := kB + 1 } <;>
    simp [run_underlying ht, sizeOf, typeInfo, hi0, h1, h2, h3, hnb, hnb', frozen, noView, viewAt, mayBeOne, stringish, shape, Sem.run, hsa, hsb, hfa, hf, hfa2, hfb2, hqf, hX]
theorem step_copy_runM {P : Program} {ops : Array Oper} {o : Oper} {a : Act} {w : World} {K : Act → World → Prop} {Q : Exit → Act → World → Prop} {E : Prop}
    (hg : o.guard = none) (d x : Operand) (dT sT : TypeId) (hop : o.op = Op.call { callee := Callee.builtin Builtin.copy, args := #[d, x], argTypes := #[dT, sT] })
    (v u : Value) (hd : a.eval d = v) (hx : a.eval x = u) {v' : Value} {w' : World} (hr : (Builtin.copy_ #[dT, sT] o.type #[v, u]).run P w = .ok v' w') (hK : K (a.put o.dst v') w') :
    if Region.wanted o (yielded ops a.tmps) = true then Oper.wp P o a w K Q else E := by
  have hw : Region.wanted o (yielded ops a.tmps) = true := by simp [Region.wanted, hg]
  rw [if_pos hw]
  unfold Oper.wp
  simp [execOp, hop, resolve, invoke, builtin, hd, hx, hr, Result.andThen]
  exact hK
theorem wpList_copy_runM {P : Program} (w : World) {ops : Array Oper} {rest : List Oper} {o : Oper} {a : Act} {Q : Exit → Act → World → Prop} (hgd : o.guard = none) (d s : Operand) (t t' : TypeId)
    (ho : o.op = .call { callee := .builtin .copy, args := #[d, s], argTypes := #[t, t'] }) (v u : Value) (hd : a.eval d = v) (hs : a.eval s = u) {v' : Value} {w' : World}
    (hr : (Builtin.copy_ #[t, t'] o.type #[v, u]).run P w = .ok v' w') (h : wpList P ops Q rest (a.put o.dst v') w') : wpList P ops Q (o :: rest) a w :=
  wpList_plain hgd fun K hK => by
    have : o.wp P a w K Q := by
      unfold Oper.wp execOp
      simp only [ho, resolve, invoke, builtin, Sem.run_bind, Sem.run_pure, Result.andThen_ok, List.map_toArray, List.map_cons, List.map_nil, hd, hs, hr]
      exact hK _ _ h
    exact this
set_option maxHeartbeats 4000000 in
set_option maxRecDepth 1000000 in
theorem del58 (b off n c i : Nat) (cs : List Value) (w : World) (hi : i < n) (hnc : n ≤ c) (hcl : cs.length = n * 1)
    (hcs : ∀ (j : Nat) v, cs[j]? = some v → w.cell? ⟨b, off + j, none⟩ = some v) (hfz : ∀ j, j < n * 1 → w.frozen? ⟨b, off + j, none⟩ = false) (h1c : ∀ v ∈ cs, v.oneCell' = true)
    (zv : Value) (hzv : ∀ w, (zeroValue 9).run Try.prog w = .ok zv w) (hz1 : ∀ v ∈ zv.cells.toList, v.oneCell' = true) (hzs : zv.cells.size = 1) (i0 : TypeInfo) (hi0 : Try.prog.info? 9 = some i0) (hi1 : i0.size = 1) :
    Calls Try.prog 58 #[.slice (some ⟨b, off, none⟩) n c, .int .i64 i, .int .i64 (i + 1)] w fun e w' =>
      e = .returned (.slice (some ⟨b, off, none⟩) (n - 1) c) ∧ w' = (w.drew.setCells b (off + i * 1) (cs.drop ((i + 1) * 1))).setCells b (off + (n - 1) * 1) zv.cells.toList := by
  obtain ⟨news, hnews⟩ : ∃ news, news = cs.drop ((i + 1) * 1) := ⟨_, rfl⟩
  have hlen : news.length = (n - (i + 1)) * 1 := by rw [hnews, List.length_drop, hcl, Nat.sub_mul]
  have hex : ∀ j, j < n * 1 → (w.cell? ⟨b, off + j, none⟩).isSome = true := fun j hj => by rw [hcs j _ (List.getElem?_eq_getElem (by omega))]; rfl
  have hin1 : (i + 1) * 1 ≤ n * 1 := Nat.mul_le_mul_right _ hi
  have hsum : i * 1 + 1 = (i + 1) * 1 := by rw [Nat.add_mul, Nat.one_mul]
  have hn1 : (n - 1) * 1 + 1 = n * 1 := by obtain ⟨m, rfl⟩ : ∃ m, n = m + 1 := ⟨n - 1, by omega⟩; rw [Nat.add_sub_cancel, Nat.add_mul, Nat.one_mul]
  obtain ⟨A, hA, hsrc⟩ : ∃ A : Addr, (if c = i + 1 then some (⟨b, off, none⟩ : Addr) else some ⟨b, off + (i + 1) * 1, none⟩) = some A ∧ Hid (∀ (t : Nat) u, news[t]? = some u → w.drew.cell? (A.add t) = some u) := by
    by_cases h : c = i + 1
    · refine ⟨⟨b, off, none⟩, by simp [h], fun t u hu => ?_⟩
      have h0 : news.length = 0 := by rw [hlen, show n - (i + 1) = 0 by omega, Nat.zero_mul]
      rw [List.length_eq_zero_iff.1 h0] at hu
      simp at hu
    · refine ⟨⟨b, off + (i + 1) * 1, none⟩, by simp [h], fun t u hu => ?_⟩
      rw [Addr.add_lit, Nat.add_assoc]
      exact hcs _ u (by rw [hnews, List.getElem?_drop] at hu; exact hu)
  have s1 : Hid (news.length = (n - (i + 1)) * 1) := hlen
  have s2 : Hid (∀ u ∈ news, u.oneCell' = true) := fun u hu => h1c u (by rw [hnews] at hu; exact List.mem_of_mem_drop hu)
  have s3 : Hid (∀ t, t < news.length → (w.drew.cell? ⟨b, off + i * 1 + t, none⟩).isSome = true ∧ w.drew.frozen? ⟨b, off + i * 1 + t, none⟩ = false) := fun t ht => by
    rw [hlen, Nat.sub_mul] at ht
    rw [Nat.add_assoc]
    exact ⟨hex _ (by omega), hfz _ (by omega)⟩
  obtain ⟨W1, hW1⟩ : ∃ W1, W1 = w.drew.setCells b (off + i * 1) news := ⟨_, rfl⟩
  have hx1 : ∀ j, j < n * 1 → (W1.cell? ⟨b, off + j, none⟩).isSome = true := fun j hj => by
    rw [hW1]
    exact isSome_setCellsM b _ _ _ (fun t ht => (s3 t ht).1) _ (hex j hj)
  have hf1 : ∀ j, j < n * 1 → W1.frozen? ⟨b, off + j, none⟩ = false := fun j hj => by rw [hW1, World.frozen?_setCells]; exact hfz j hj
  have hcl : ∀ ty, (Builtin.clear_ #[22] ty #[.slice (some ⟨b, off + (n - 1) * 1, none⟩) 1 (c - (n - 1))]).run Try.prog W1 = .ok (.tuple #[]) (W1.setCells b (off + (n - 1) * 1) zv.cells.toList) :=
    fun ty => run_clear_one W1 22 9 ty zv Try.underlying22 hzv hz1 b _ _ (fun j hj => by rw [Nat.add_assoc]; exact hx1 _ (by rw [hzs] at hj; omega)) (fun j hj => by rw [Nat.add_assoc]; exact hf1 _ (by rw [hzs] at hj; omega))
  have hW : Hid (W1 = w.drew.setCells b (off + i * 1) news) := hW1
  have hN : Hid (news = cs.drop ((i + 1) * 1)) := hnews
  try simp only [Nat.mul_one] at hcl
  have hI1 : (0 : Int) ≤ (i : Int) + 1 := by omega
  have hI2 : (i : Int) + 1 ≤ (n : Int) := by omega
  have hI3 : ((i : Int) + 1).toNat = i + 1 := by omega
  have hI4 : n - i - 1 = n - (i + 1) := by omega
  have hI5 : i + (n - (i + 1)) = n - 1 := by omega
  have hI6 : n - (n - 1) = 1 := by omega
  have hic : i ≤ c := by omega
  have hjc : i + 1 ≤ c := by omega
  have hin : i + 1 ≤ n := hi
  clear hW1 hnews hlen hx1 hf1 hcs hfz h1c hex
  go_enter Try.func58, Try.ntmps58
  go_wp2_with fail
  go_region_law (refine step_append_room rfl (.tmp 22) (.tmp 25) 22 rfl 9 i0 1 Try.underlying22 hi0 hi1 b off i c (by simp [Act.eval, Act.put]) A (n - (i + 1)) (c - (i + 1)) news (by first | (simp [Act.eval, Act.put]; done) | (simp [Act.eval, Act.put]; simpa using hA)) s1.out hsrc.out s2.out (by omega) s3.out ?_; rw [← hW.out])
  go_wp2
  all_goals (go_ret; exact ⟨rfl, by rw [hW.out, hN.out]; first | done | rfl | simp⟩)
set_option maxHeartbeats 4000000 in
set_option maxRecDepth 1000000 in
theorem del59 (b off n c i : Nat) (cs : List Value) (w : World) (hi : i < n) (hnc : n ≤ c) (hcl : cs.length = n * 5)
    (hcs : ∀ (j : Nat) v, cs[j]? = some v → w.cell? ⟨b, off + j, none⟩ = some v) (hfz : ∀ j, j < n * 5 → w.frozen? ⟨b, off + j, none⟩ = false) (h1c : ∀ v ∈ cs, v.oneCell' = true)
    (zv : Value) (hzv : ∀ w, (zeroValue 29).run Try.prog w = .ok zv w) (hz1 : ∀ v ∈ zv.cells.toList, v.oneCell' = true) (hzs : zv.cells.size = 5) (i0 : TypeInfo) (hi0 : Try.prog.info? 29 = some i0) (hi1 : i0.size = 5) :
    Calls Try.prog 59 #[.slice (some ⟨b, off, none⟩) n c, .int .i64 i, .int .i64 (i + 1)] w fun e w' =>
      e = .returned (.slice (some ⟨b, off, none⟩) (n - 1) c) ∧ w' = (w.drew.setCells b (off + i * 5) (cs.drop ((i + 1) * 5))).setCells b (off + (n - 1) * 5) zv.cells.toList := by
  obtain ⟨news, hnews⟩ : ∃ news, news = cs.drop ((i + 1) * 5) := ⟨_, rfl⟩
  have hlen : news.length = (n - (i + 1)) * 5 := by rw [hnews, List.length_drop, hcl, Nat.sub_mul]
  have hex : ∀ j, j < n * 5 → (w.cell? ⟨b, off + j, none⟩).isSome = true := fun j hj => by rw [hcs j _ (List.getElem?_eq_getElem (by omega))]; rfl
  have hin1 : (i + 1) * 5 ≤ n * 5 := Nat.mul_le_mul_right _ hi
  have hsum : i * 5 + 5 = (i + 1) * 5 := by rw [Nat.add_mul, Nat.one_mul]
  have hn1 : (n - 1) * 5 + 5 = n * 5 := by obtain ⟨m, rfl⟩ : ∃ m, n = m + 1 := ⟨n - 1, by omega⟩; rw [Nat.add_sub_cancel, Nat.add_mul, Nat.one_mul]
  obtain ⟨A, hA, hsrc⟩ : ∃ A : Addr, (if c = i + 1 then some (⟨b, off, none⟩ : Addr) else some ⟨b, off + (i + 1) * 5, none⟩) = some A ∧ Hid (∀ (t : Nat) u, news[t]? = some u → w.drew.cell? (A.add t) = some u) := by
    by_cases h : c = i + 1
    · refine ⟨⟨b, off, none⟩, by simp [h], fun t u hu => ?_⟩
      have h0 : news.length = 0 := by rw [hlen, show n - (i + 1) = 0 by omega, Nat.zero_mul]
      rw [List.length_eq_zero_iff.1 h0] at hu
      simp at hu
    · refine ⟨⟨b, off + (i + 1) * 5, none⟩, by simp [h], fun t u hu => ?_⟩
      rw [Addr.add_lit, Nat.add_assoc]
      exact hcs _ u (by rw [hnews, List.getElem?_drop] at hu; exact hu)
  have s1 : Hid (news.length = (n - (i + 1)) * 5) := hlen
  have s2 : Hid (∀ u ∈ news, u.oneCell' = true) := fun u hu => h1c u (by rw [hnews] at hu; exact List.mem_of_mem_drop hu)
  have s3 : Hid (∀ t, t < news.length → (w.drew.cell? ⟨b, off + i * 5 + t, none⟩).isSome = true ∧ w.drew.frozen? ⟨b, off + i * 5 + t, none⟩ = false) := fun t ht => by
    rw [hlen, Nat.sub_mul] at ht
    rw [Nat.add_assoc]
    exact ⟨hex _ (by omega), hfz _ (by omega)⟩
  obtain ⟨W1, hW1⟩ : ∃ W1, W1 = w.drew.setCells b (off + i * 5) news := ⟨_, rfl⟩
  have hx1 : ∀ j, j < n * 5 → (W1.cell? ⟨b, off + j, none⟩).isSome = true := fun j hj => by
    rw [hW1]
    exact isSome_setCellsM b _ _ _ (fun t ht => (s3 t ht).1) _ (hex j hj)
  have hf1 : ∀ j, j < n * 5 → W1.frozen? ⟨b, off + j, none⟩ = false := fun j hj => by rw [hW1, World.frozen?_setCells]; exact hfz j hj
  have hcl : ∀ ty, (Builtin.clear_ #[27] ty #[.slice (some ⟨b, off + (n - 1) * 5, none⟩) 1 (c - (n - 1))]).run Try.prog W1 = .ok (.tuple #[]) (W1.setCells b (off + (n - 1) * 5) zv.cells.toList) :=
    fun ty => run_clear_one W1 27 29 ty zv Try.underlying27 hzv hz1 b _ _ (fun j hj => by rw [Nat.add_assoc]; exact hx1 _ (by rw [hzs] at hj; omega)) (fun j hj => by rw [Nat.add_assoc]; exact hf1 _ (by rw [hzs] at hj; omega))
  have hW : Hid (W1 = w.drew.setCells b (off + i * 5) news) := hW1
  have hN : Hid (news = cs.drop ((i + 1) * 5)) := hnews
  try simp only [Nat.mul_one] at hcl
  have hI1 : (0 : Int) ≤ (i : Int) + 1 := by omega
  have hI2 : (i : Int) + 1 ≤ (n : Int) := by omega
  have hI3 : ((i : Int) + 1).toNat = i + 1 := by omega
  have hI4 : n - i - 1 = n - (i + 1) := by omega
  have hI5 : i + (n - (i + 1)) = n - 1 := by omega
  have hI6 : n - (n - 1) = 1 := by omega
  have hic : i ≤ c := by omega
  have hjc : i + 1 ≤ c := by omega
  have hin : i + 1 ≤ n := hi
  clear hW1 hnews hlen hx1 hf1 hcs hfz h1c hex
  go_enter Try.func59, Try.ntmps59
  go_wp2_with fail
  go_region_law (refine step_append_room rfl (.tmp 22) (.tmp 25) 27 rfl 29 i0 5 Try.underlying27 hi0 hi1 b off i c (by simp [Act.eval, Act.put]) A (n - (i + 1)) (c - (i + 1)) news (by first | (simp [Act.eval, Act.put]; done) | (simp [Act.eval, Act.put]; simpa using hA)) s1.out hsrc.out s2.out (by omega) s3.out ?_; rw [← hW.out])
  go_wp2
  all_goals (go_ret; exact ⟨rfl, by rw [hW.out, hN.out]; first | done | rfl | simp⟩)
end Go.Proofs.Ytjpcicjkbbbpiaa.M

/- slices.Insert, walked: cells alone. No condition. -/
namespace Go.Proofs.Ytjpcicjkbbbpiaa.M
open Go Go.Proofs Go.RowKit Go.Lib Go.Sort
set_option linter.unusedSimpArgs false
set_option linter.unusedVariables false
set_option maxHeartbeats 4000000 in
set_option maxRecDepth 1000000 in
theorem shift43 (b off n c i vb voff m vc : Nat) (cs vs : List Value) (w : World) (hi : i < n) (hm : 0 < m) (hroom : n + m ≤ c) (hbig2 : n + m ≤ 140737488355328) (hvb : vb ≠ b)
    (hcl : cs.length = n * 1) (hvl : vs.length = m * 1)
    (hcs : ∀ (j : Nat) v, cs[j]? = some v → w.cell? ⟨b, off + j, none⟩ = some v) (hsp : ∀ j, j < (n + m) * 1 → (w.cell? ⟨b, off + j, none⟩).isSome = true) (hfz : ∀ j, j < (n + m) * 1 → w.frozen? ⟨b, off + j, none⟩ = false)
    (w1 : World) (hw1 : ∀ x, w1.cell? x = w.cell? x) (hw2 : ∀ x, w1.frozen? x = w.frozen? x) (hov0 : ∀ lb cb, lb = n + m - (i + m) → (callFunc 60 #[.slice (some ⟨vb, voff, none⟩) m vc, .slice (some ⟨b, off + (i + m) * 1, none⟩) lb cb]).run Try.prog w = .ok (.value (.bool false)) w1)
    (hvs : ∀ (j : Nat) v, vs[j]? = some v → w.cell? ⟨vb, voff + j, none⟩ = some v) (h1c : ∀ v ∈ cs, v.oneCell' = true) (h1v : ∀ v ∈ vs, v.oneCell' = true)
    (i0 : TypeInfo) (hi0 : Try.prog.info? 9 = some i0) (hi1 : i0.size = 1) :
    Calls Try.prog 43 #[.slice (some ⟨b, off, none⟩) n c, .int .i64 i, .slice (some ⟨vb, voff, none⟩) m vc] w fun e w' =>
      e = .returned (.slice (some ⟨b, off, none⟩) (n + m) c) ∧ w' = (w1.drew.setCells b (off + (i + m) * 1) (cs.drop (i * 1))).setCells b (off + i * 1) vs := by
  have hsz : (Try.prog.info? 9).map (·.size) = some 1 := by rw [hi0]; simp [hi1]
  have hz1 : ¬ ((m : Int) = 0) := by omega
  have hz2 : ¬ ((i : Int) = (n : Int)) := by omega
  have hov : ∀ cb, (callFunc 60 #[.slice (some ⟨vb, voff, none⟩) m vc, .slice (some ⟨b, off + (i + m) * 1, none⟩) (n + m - (i + m)) cb]).run Try.prog w = .ok (.value (.bool false)) w1 := fun cb => hov0 _ cb rfl
  have hdl : (cs.drop (i * 1)).length = (n - i) * 1 := by rw [List.length_drop, hcl, Nat.sub_mul]
  have hwr : IntKind.i64.wrap ((i : Int) + (m : Int)) = (i : Int) + (m : Int) := by rw [IntKind.wrap_i64]; omega
  have hb1 : (0 : Int) ≤ (i : Int) + (m : Int) := by omega
  have hin : i ≤ n := by omega
  have htn : ((i : Int) + (m : Int)).toNat = i + m := by omega
  have hb2 : ¬ (c = i + m) := by omega
  have hb3 : (i : Int) ≤ (n : Int) + (m : Int) := by omega
  have hb4 : ¬ (c = i) := by omega
  have ha1 : (i + m) * 1 + (n - i) * 1 = (n + m) * 1 := by rw [← Nat.add_mul]; congr 1; omega
  have ha2 : i * 1 + m * 1 = (i + m) * 1 := by rw [Nat.add_mul]
  have ha3 : i * 1 ≤ (i + m) * 1 := Nat.mul_le_mul_right _ (by omega)
  have ha4 : (i + m) * 1 ≤ (n + m) * 1 := Nat.mul_le_mul_right _ (by omega)
  have hcp1 : ∀ ty dc sc, (Builtin.copy_ #[22, 22] ty #[.slice (some ⟨b, off + (i + m) * 1, none⟩) (n + m - (i + m)) dc, .slice (some ⟨b, off + i * 1, none⟩) (n + m - i) sc]).run Try.prog w1.drew = .ok (goInt (n - i : Nat)) (w1.drew.setCells b (off + (i + m) * 1) (cs.drop (i * 1))) := fun ty dc sc => by
    have := run_copy_cellsK w1.drew 22 22 ty 9 b (off + (i + m) * 1) (n + m - (i + m)) dc ⟨b, off + i * 1, none⟩ (n + m - i) sc (cs.drop (i * 1)) 1 Try.underlying22 hsz (by rw [hdl]; congr 1; simp only [Nat.min_def]; split <;> omega)
      (fun j v hj => by rw [Addr.add_lit, Nat.add_assoc, World.cell?_drew, hw1]; exact hcs (i * 1 + j) v (by rwa [List.getElem?_drop] at hj))
      (fun j hj => by rw [Nat.add_assoc, World.cell?_drew, hw1]; exact hsp _ (by omega)) (fun j hj => by rw [Nat.add_assoc, World.frozen?_drew, hw2]; exact hfz _ (by omega)) (fun v hv => h1c v (List.mem_of_mem_drop hv))
    rw [this]; congr 2; simp only [Nat.min_def]; split <;> omega
  obtain ⟨W1, hW1⟩ : ∃ W1, W1 = w1.drew.setCells b (off + (i + m) * 1) (cs.drop (i * 1)) := ⟨_, rfl⟩
  have hsp1 : ∀ k, k < (n + m) * 1 → (W1.cell? ⟨b, off + k, none⟩).isSome = true := fun k hk => by
    rw [hW1]
    exact isSome_setCellsM b _ _ _ (fun j hj => by rw [Nat.add_assoc, World.cell?_drew, hw1]; exact hsp _ (by omega)) _ (by rw [World.cell?_drew, hw1]; exact hsp k hk)
  have hcp2 : ∀ (W : World), (∀ x, W.cell? x = W1.cell? x) → (∀ x, W.frozen? x = W1.frozen? x) → ∀ ty dc, (Builtin.copy_ #[22, 22] ty #[.slice (some ⟨b, off + i * 1, none⟩) (n + m - i) dc, .slice (some ⟨vb, voff, none⟩) m vc]).run Try.prog W = .ok (goInt m) (W.setCells b (off + i * 1) vs) := fun W hWc hWf ty dc => by
    have := run_copy_cellsK W 22 22 ty 9 b (off + i * 1) (n + m - i) dc ⟨vb, voff, none⟩ m vc vs 1 Try.underlying22 hsz (by rw [hvl]; congr 1; simp only [Nat.min_def]; split <;> omega)
      (fun j v hj => by
        rw [Addr.add_lit, hWc, hW1, World.cell?_setCells_out b _ _ _ _ (fun h _ => absurd h hvb), World.cell?_drew, hw1]
        exact hvs j v hj)
      (fun j hj => by rw [hWc, Nat.add_assoc]; exact hsp1 _ (by omega)) (fun j hj => by rw [hWf, hW1, World.frozen?_setCells, World.frozen?_drew, hw2, Nat.add_assoc]; exact hfz _ (by omega)) h1v
    rw [this]; congr 2; simp only [Nat.min_def]; split <;> omega
  rw [← hW1] at hcp1
  try simp only [Nat.mul_one] at hcp1 hcp2 hov
  clear hdl hsp1 hsp hfz hcs hvs h1c h1v ha1 ha2 ha3 ha4 hw1 hw2 hov0
  go_enter Try.func43, Try.ntmps43
  go_wp2_with (simp only [hov])
  go_region_law (refine step_copy_runM rfl _ _ 22 22 rfl _ _ (by simp [Act.eval, Act.put]) (by simp [Act.eval, Act.put]) (hcp1 _ _ _) ?_)
  go_wp2_with (at_builtin; refine wpList_copy_runM _ rfl _ _ 22 22 rfl _ _ rfl rfl (hcp2 _ (fun _ => rfl) (fun _ => rfl) _ _) ?_)
  go_ret
  exact ⟨rfl, by first | rfl | simp⟩
set_option maxHeartbeats 4000000 in
set_option maxRecDepth 100000 in
theorem over43 (b off n c i vb voff m vc : Nat) (vs : List Value) (w : World) (hi : i < n) (hm : 0 < m) (hroom : n + m ≤ c) (hbig2 : n + m ≤ 140737488355328) (hvl : vs.length = m * 1)
    (hsp : ∀ j, j < (n + m) * 1 → (w.cell? ⟨b, off + j, none⟩).isSome = true) (hfz : ∀ j, j < (n + m) * 1 → w.frozen? ⟨b, off + j, none⟩ = false)
    (hvs : ∀ (j : Nat) v, vs[j]? = some v → w.cell? ⟨vb, voff + j, none⟩ = some v) (h1v : ∀ v ∈ vs, v.oneCell' = true)
    (w1 : World) (hw1 : ∀ x, w1.cell? x = w.cell? x) (hw2 : ∀ x, w1.frozen? x = w.frozen? x) (hov0 : ∀ lb cb, lb = n + m - (i + m) → (callFunc 60 #[.slice (some ⟨vb, voff, none⟩) m vc, .slice (some ⟨b, off + (i + m) * 1, none⟩) lb cb]).run Try.prog w = .ok (.value (.bool true)) w1)
    (i0 : TypeInfo) (hi0 : Try.prog.info? 9 = some i0) (hi1 : i0.size = 1) (R : World → Prop)
    (hrot : Calls Try.prog 61 #[.slice (some ⟨b, off + i, none⟩) (n + m - i) (c - i), .int .i64 m] (w1.setCells b (off + n * 1) vs) fun e w' => e = .returned (.tuple #[]) ∧ R w') :
    Calls Try.prog 43 #[.slice (some ⟨b, off, none⟩) n c, .int .i64 i, .slice (some ⟨vb, voff, none⟩) m vc] w fun e w' => e = .returned (.slice (some ⟨b, off, none⟩) (n + m) c) ∧ R w' := by
  have hsz : (Try.prog.info? 9).map (·.size) = some 1 := by rw [hi0]; simp [hi1]
  have hz1 : ¬ ((m : Int) = 0) := by omega
  have hz2 : ¬ ((i : Int) = (n : Int)) := by omega
  have hov : ∀ cb, (callFunc 60 #[.slice (some ⟨vb, voff, none⟩) m vc, .slice (some ⟨b, off + (i + m) * 1, none⟩) (n + m - (i + m)) cb]).run Try.prog w = .ok (.value (.bool true)) w1 := fun cb => hov0 _ cb rfl
  have hwr : IntKind.i64.wrap ((i : Int) + (m : Int)) = (i : Int) + (m : Int) := by rw [IntKind.wrap_i64]; omega
  have hwr2 : IntKind.i64.wrap ((n : Int) + (m : Int)) = (n : Int) + (m : Int) := by rw [IntKind.wrap_i64]; omega
  have hb1 : (0 : Int) ≤ (i : Int) + (m : Int) := by omega
  have hin : i ≤ n := by omega
  have htn : ((i : Int) + (m : Int)).toNat = i + m := by omega
  have hb2 : ¬ (c = i + m) := by omega
  have hb3 : (i : Int) ≤ (n : Int) + (m : Int) := by omega
  have hb4 : ¬ (c = i) := by omega
  have hb5 : ¬ (c = n) := by omega
  have hlm : n + m - n = m := by omega
  have ha2 : n * 1 + m * 1 = (n + m) * 1 := by rw [Nat.add_mul]
  have hcp : ∀ ty dc, (Builtin.copy_ #[22, 22] ty #[.slice (some ⟨b, off + n * 1, none⟩) (n + m - n) dc, .slice (some ⟨vb, voff, none⟩) m vc]).run Try.prog w1 = .ok (goInt m) (w1.setCells b (off + n * 1) vs) := fun ty dc => by
    have := run_copy_cellsK w1 22 22 ty 9 b (off + n * 1) (n + m - n) dc ⟨vb, voff, none⟩ m vc vs 1 Try.underlying22 hsz (by rw [hvl]; congr 1; simp only [Nat.min_def]; split <;> omega)
      (fun j v hj => by rw [Addr.add_lit, hw1]; exact hvs j v hj)
      (fun j hj => by rw [Nat.add_assoc, hw1]; exact hsp _ (by omega)) (fun j hj => by rw [Nat.add_assoc, hw2]; exact hfz _ (by omega)) h1v
    rw [this]; congr 2; simp only [Nat.min_def]; split <;> omega
  rw [hlm] at hcp
  try simp only [Nat.mul_one] at hcp hov hrot
  generalize hW : w1.setCells b (off + n) vs = W1 at hcp hrot
  clear hsp hfz hvs h1v ha2 hw1 hw2 hov0 hW hlm
  go_enter Try.func43, Try.ntmps43
  go_wp2_with (first | (simp only [hov]) | (at_builtin; refine wpList_copy_runM _ rfl _ _ 22 22 rfl _ _ rfl rfl (hcp _ _) ?_))
  refine hrot.mono fun e w3 ⟨he, hR⟩ => ?_
  subst he
  go_wp2_with fail
  all_goals (go_ret; exact ⟨rfl, hR⟩)
set_option maxHeartbeats 4000000 in
set_option maxRecDepth 1000000 in
theorem shift44 (b off n c i vb voff m vc : Nat) (cs vs : List Value) (w : World) (hi : i < n) (hm : 0 < m) (hroom : n + m ≤ c) (hbig2 : n + m ≤ 140737488355328) (hvb : vb ≠ b)
    (hcl : cs.length = n * 5) (hvl : vs.length = m * 5)
    (hcs : ∀ (j : Nat) v, cs[j]? = some v → w.cell? ⟨b, off + j, none⟩ = some v) (hsp : ∀ j, j < (n + m) * 5 → (w.cell? ⟨b, off + j, none⟩).isSome = true) (hfz : ∀ j, j < (n + m) * 5 → w.frozen? ⟨b, off + j, none⟩ = false)
    (w1 : World) (hw1 : ∀ x, w1.cell? x = w.cell? x) (hw2 : ∀ x, w1.frozen? x = w.frozen? x) (hov0 : ∀ lb cb, lb = n + m - (i + m) → (callFunc 62 #[.slice (some ⟨vb, voff, none⟩) m vc, .slice (some ⟨b, off + (i + m) * 5, none⟩) lb cb]).run Try.prog w = .ok (.value (.bool false)) w1)
    (hvs : ∀ (j : Nat) v, vs[j]? = some v → w.cell? ⟨vb, voff + j, none⟩ = some v) (h1c : ∀ v ∈ cs, v.oneCell' = true) (h1v : ∀ v ∈ vs, v.oneCell' = true)
    (i0 : TypeInfo) (hi0 : Try.prog.info? 29 = some i0) (hi1 : i0.size = 5) :
    Calls Try.prog 44 #[.slice (some ⟨b, off, none⟩) n c, .int .i64 i, .slice (some ⟨vb, voff, none⟩) m vc] w fun e w' =>
      e = .returned (.slice (some ⟨b, off, none⟩) (n + m) c) ∧ w' = (w1.drew.setCells b (off + (i + m) * 5) (cs.drop (i * 5))).setCells b (off + i * 5) vs := by
  have hsz : (Try.prog.info? 29).map (·.size) = some 5 := by rw [hi0]; simp [hi1]
  have hz1 : ¬ ((m : Int) = 0) := by omega
  have hz2 : ¬ ((i : Int) = (n : Int)) := by omega
  have hov : ∀ cb, (callFunc 62 #[.slice (some ⟨vb, voff, none⟩) m vc, .slice (some ⟨b, off + (i + m) * 5, none⟩) (n + m - (i + m)) cb]).run Try.prog w = .ok (.value (.bool false)) w1 := fun cb => hov0 _ cb rfl
  have hdl : (cs.drop (i * 5)).length = (n - i) * 5 := by rw [List.length_drop, hcl, Nat.sub_mul]
  have hwr : IntKind.i64.wrap ((i : Int) + (m : Int)) = (i : Int) + (m : Int) := by rw [IntKind.wrap_i64]; omega
  have hb1 : (0 : Int) ≤ (i : Int) + (m : Int) := by omega
  have hin : i ≤ n := by omega
  have htn : ((i : Int) + (m : Int)).toNat = i + m := by omega
  have hb2 : ¬ (c = i + m) := by omega
  have hb3 : (i : Int) ≤ (n : Int) + (m : Int) := by omega
  have hb4 : ¬ (c = i) := by omega
  have ha1 : (i + m) * 5 + (n - i) * 5 = (n + m) * 5 := by rw [← Nat.add_mul]; congr 1; omega
  have ha2 : i * 5 + m * 5 = (i + m) * 5 := by rw [Nat.add_mul]
  have ha3 : i * 5 ≤ (i + m) * 5 := Nat.mul_le_mul_right _ (by omega)
  have ha4 : (i + m) * 5 ≤ (n + m) * 5 := Nat.mul_le_mul_right _ (by omega)
  have hcp1 : ∀ ty dc sc, (Builtin.copy_ #[27, 27] ty #[.slice (some ⟨b, off + (i + m) * 5, none⟩) (n + m - (i + m)) dc, .slice (some ⟨b, off + i * 5, none⟩) (n + m - i) sc]).run Try.prog w1.drew = .ok (goInt (n - i : Nat)) (w1.drew.setCells b (off + (i + m) * 5) (cs.drop (i * 5))) := fun ty dc sc => by
    have := run_copy_cellsK w1.drew 27 27 ty 29 b (off + (i + m) * 5) (n + m - (i + m)) dc ⟨b, off + i * 5, none⟩ (n + m - i) sc (cs.drop (i * 5)) 5 Try.underlying27 hsz (by rw [hdl]; congr 1; simp only [Nat.min_def]; split <;> omega)
      (fun j v hj => by rw [Addr.add_lit, Nat.add_assoc, World.cell?_drew, hw1]; exact hcs (i * 5 + j) v (by rwa [List.getElem?_drop] at hj))
      (fun j hj => by rw [Nat.add_assoc, World.cell?_drew, hw1]; exact hsp _ (by omega)) (fun j hj => by rw [Nat.add_assoc, World.frozen?_drew, hw2]; exact hfz _ (by omega)) (fun v hv => h1c v (List.mem_of_mem_drop hv))
    rw [this]; congr 2; simp only [Nat.min_def]; split <;> omega
  obtain ⟨W1, hW1⟩ : ∃ W1, W1 = w1.drew.setCells b (off + (i + m) * 5) (cs.drop (i * 5)) := ⟨_, rfl⟩
  have hsp1 : ∀ k, k < (n + m) * 5 → (W1.cell? ⟨b, off + k, none⟩).isSome = true := fun k hk => by
    rw [hW1]
    exact isSome_setCellsM b _ _ _ (fun j hj => by rw [Nat.add_assoc, World.cell?_drew, hw1]; exact hsp _ (by omega)) _ (by rw [World.cell?_drew, hw1]; exact hsp k hk)
  have hcp2 : ∀ (W : World), (∀ x, W.cell? x = W1.cell? x) → (∀ x, W.frozen? x = W1.frozen? x) → ∀ ty dc, (Builtin.copy_ #[27, 27] ty #[.slice (some ⟨b, off + i * 5, none⟩) (n + m - i) dc, .slice (some ⟨vb, voff, none⟩) m vc]).run Try.prog W = .ok (goInt m) (W.setCells b (off + i * 5) vs) := fun W hWc hWf ty dc => by
    have := run_copy_cellsK W 27 27 ty 29 b (off + i * 5) (n + m - i) dc ⟨vb, voff, none⟩ m vc vs 5 Try.underlying27 hsz (by rw [hvl]; congr 1; simp only [Nat.min_def]; split <;> omega)
      (fun j v hj => by
        rw [Addr.add_lit, hWc, hW1, World.cell?_setCells_out b _ _ _ _ (fun h _ => absurd h hvb), World.cell?_drew, hw1]
        exact hvs j v hj)
      (fun j hj => by rw [hWc, Nat.add_assoc]; exact hsp1 _ (by omega)) (fun j hj => by rw [hWf, hW1, World.frozen?_setCells, World.frozen?_drew, hw2, Nat.add_assoc]; exact hfz _ (by omega)) h1v
    rw [this]; congr 2; simp only [Nat.min_def]; split <;> omega
  rw [← hW1] at hcp1
  try simp only [Nat.mul_one] at hcp1 hcp2 hov
  clear hdl hsp1 hsp hfz hcs hvs h1c h1v ha1 ha2 ha3 ha4 hw1 hw2 hov0
  go_enter Try.func44, Try.ntmps44
  go_wp2_with (simp only [hov])
  go_region_law (refine step_copy_runM rfl _ _ 27 27 rfl _ _ (by simp [Act.eval, Act.put]) (by simp [Act.eval, Act.put]) (hcp1 _ _ _) ?_)
  go_wp2_with (at_builtin; refine wpList_copy_runM _ rfl _ _ 27 27 rfl _ _ rfl rfl (hcp2 _ (fun _ => rfl) (fun _ => rfl) _ _) ?_)
  go_ret
  exact ⟨rfl, by first | rfl | simp⟩
set_option maxHeartbeats 4000000 in
set_option maxRecDepth 100000 in
theorem over44 (b off n c i vb voff m vc : Nat) (vs : List Value) (w : World) (hi : i < n) (hm : 0 < m) (hroom : n + m ≤ c) (hbig2 : n + m ≤ 140737488355328) (hvl : vs.length = m * 5)
    (hsp : ∀ j, j < (n + m) * 5 → (w.cell? ⟨b, off + j, none⟩).isSome = true) (hfz : ∀ j, j < (n + m) * 5 → w.frozen? ⟨b, off + j, none⟩ = false)
    (hvs : ∀ (j : Nat) v, vs[j]? = some v → w.cell? ⟨vb, voff + j, none⟩ = some v) (h1v : ∀ v ∈ vs, v.oneCell' = true)
    (w1 : World) (hw1 : ∀ x, w1.cell? x = w.cell? x) (hw2 : ∀ x, w1.frozen? x = w.frozen? x) (hov0 : ∀ lb cb, lb = n + m - (i + m) → (callFunc 62 #[.slice (some ⟨vb, voff, none⟩) m vc, .slice (some ⟨b, off + (i + m) * 5, none⟩) lb cb]).run Try.prog w = .ok (.value (.bool true)) w1)
    (i0 : TypeInfo) (hi0 : Try.prog.info? 29 = some i0) (hi1 : i0.size = 5) (R : World → Prop)
    (hrot : Calls Try.prog 63 #[.slice (some ⟨b, off + i * 5, none⟩) (n + m - i) (c - i), .int .i64 m] (w1.setCells b (off + n * 5) vs) fun e w' => e = .returned (.tuple #[]) ∧ R w') :
    Calls Try.prog 44 #[.slice (some ⟨b, off, none⟩) n c, .int .i64 i, .slice (some ⟨vb, voff, none⟩) m vc] w fun e w' => e = .returned (.slice (some ⟨b, off, none⟩) (n + m) c) ∧ R w' := by
  have hsz : (Try.prog.info? 29).map (·.size) = some 5 := by rw [hi0]; simp [hi1]
  have hz1 : ¬ ((m : Int) = 0) := by omega
  have hz2 : ¬ ((i : Int) = (n : Int)) := by omega
  have hov : ∀ cb, (callFunc 62 #[.slice (some ⟨vb, voff, none⟩) m vc, .slice (some ⟨b, off + (i + m) * 5, none⟩) (n + m - (i + m)) cb]).run Try.prog w = .ok (.value (.bool true)) w1 := fun cb => hov0 _ cb rfl
  have hwr : IntKind.i64.wrap ((i : Int) + (m : Int)) = (i : Int) + (m : Int) := by rw [IntKind.wrap_i64]; omega
  have hwr2 : IntKind.i64.wrap ((n : Int) + (m : Int)) = (n : Int) + (m : Int) := by rw [IntKind.wrap_i64]; omega
  have hb1 : (0 : Int) ≤ (i : Int) + (m : Int) := by omega
  have hin : i ≤ n := by omega
  have htn : ((i : Int) + (m : Int)).toNat = i + m := by omega
  have hb2 : ¬ (c = i + m) := by omega
  have hb3 : (i : Int) ≤ (n : Int) + (m : Int) := by omega
  have hb4 : ¬ (c = i) := by omega
  have hb5 : ¬ (c = n) := by omega
  have hlm : n + m - n = m := by omega
  have ha2 : n * 5 + m * 5 = (n + m) * 5 := by rw [Nat.add_mul]
  have hcp : ∀ ty dc, (Builtin.copy_ #[27, 27] ty #[.slice (some ⟨b, off + n * 5, none⟩) (n + m - n) dc, .slice (some ⟨vb, voff, none⟩) m vc]).run Try.prog w1 = .ok (goInt m) (w1.setCells b (off + n * 5) vs) := fun ty dc => by
    have := run_copy_cellsK w1 27 27 ty 29 b (off + n * 5) (n + m - n) dc ⟨vb, voff, none⟩ m vc vs 5 Try.underlying27 hsz (by rw [hvl]; congr 1; simp only [Nat.min_def]; split <;> omega)
      (fun j v hj => by rw [Addr.add_lit, hw1]; exact hvs j v hj)
      (fun j hj => by rw [Nat.add_assoc, hw1]; exact hsp _ (by omega)) (fun j hj => by rw [Nat.add_assoc, hw2]; exact hfz _ (by omega)) h1v
    rw [this]; congr 2; simp only [Nat.min_def]; split <;> omega
  rw [hlm] at hcp
  try simp only [Nat.mul_one] at hcp hov hrot
  generalize hW : w1.setCells b (off + n * 5) vs = W1 at hcp hrot
  clear hsp hfz hvs h1v ha2 hw1 hw2 hov0 hW hlm
  go_enter Try.func44, Try.ntmps44
  go_wp2_with (first | (simp only [hov]) | (at_builtin; refine wpList_copy_runM _ rfl _ _ 27 27 rfl _ _ rfl rfl (hcp _ _) ?_))
  refine hrot.mono fun e w3 ⟨he, hR⟩ => ?_
  subst he
  go_wp2_with fail
  all_goals (go_ret; exact ⟨rfl, hR⟩)
end Go.Proofs.Ytjpcicjkbbbpiaa.M

/- slices.Insert, walked: a new row. No condition. -/
namespace Go.Proofs.Ytjpcicjkbbbpiaa.M
open Go Go.Proofs Go.RowKit Go.Lib Go.Sort
set_option linter.unusedSimpArgs false
set_option linter.unusedVariables false
set_option maxHeartbeats 4000000 in
set_option maxRecDepth 100000 in
theorem grow43 (b off n c i vb voff m vc : Nat) (cs vs : List Value) (w : World) (hi : i < n) (hm : 0 < m) (hnc : n ≤ c) (hroom : c < n + m) (i0 : TypeInfo) (hi0 : Try.prog.info? 9 = some i0) (hi1 : i0.size = 1) (hbig : (n + m) * i0.bytes ≤ 140737488355328) (hbig2 : n + m ≤ 140737488355328)
    (z : Value) (hz0 : i0.zero = some z) (hzs : z.cells.size = 1)
    (hcl : cs.length = n * 1) (hvl : vs.length = m * 1)
    (hcs : ∀ (j : Nat) v, cs[j]? = some v → w.cell? ⟨b, off + j, none⟩ = some v)
    (hvs : ∀ (j : Nat) v, vs[j]? = some v → w.cell? ⟨vb, voff + j, none⟩ = some v) (h1c : ∀ v ∈ cs, v.oneCell' = true) (h1v : ∀ v ∈ vs, v.oneCell' = true) :
    Calls Try.prog 43 #[.slice (some ⟨b, off, none⟩) n c, .int .i64 i, .slice (some ⟨vb, voff, none⟩) m vc] w fun e w' =>
      e = .returned (.slice (some ⟨w.heap.size, 0, none⟩) (n + m) (grownCap w (n + m) c 9)) ∧
      w' = (((w.alloc (.cells ((cs.take (i * 1)).toArray ++ Builtin.zeroCells z.cells (n + m - i) ++ Builtin.zeroCells z.cells (grownCap w (n + m) c 9 - (n + m))) 9)).drew.setCells w.heap.size (i * 1) vs).drew).setCells w.heap.size ((i + m) * 1) (cs.drop (i * 1)) := by
  have hz1 : ¬ ((m : Int) = 0) := by omega
  have hz2 : ¬ ((i : Int) = (n : Int)) := by omega
  have hz3 : (c : Int) < (n : Int) + (m : Int) := by omega
  have hsz : (Try.prog.info? 9).map (·.size) = some 1 := by rw [hi0]; simp [hi1]
  have hbw : b < w.heap.size := block_lt_of_cell (hcs 0 _ (List.getElem?_eq_getElem (by omega)))
  have hvw : vb < w.heap.size := block_lt_of_cell (hvs 0 _ (List.getElem?_eq_getElem (by omega)))
  have hkk : (n : Int) + (m : Int) - (i : Int) = ((n + m - i : Nat) : Int) := by omega
  have hik : i + (n + m - i) = n + m := by omega
  have ha0 : i * 1 ≤ n * 1 := Nat.mul_le_mul_right _ (by omega)
  have hold : (Builtin.firstCells i0.size i (.slice (some ⟨b, off, none⟩) i c)).run Try.prog w.drew = .ok (cs.take (i * 1)).toArray w.drew := by
    rw [hi1]
    exact run_firstCells_some w.drew 1 i ⟨b, off, none⟩ i c (cs.take (i * 1)) (by rw [List.length_take]; omega) (fun j v hj => by
      rw [Addr.add_lit]
      rw [List.getElem?_take] at hj
      split at hj
      · exact hcs j v hj
      · cases hj)
  have hrz : ∀ ty, (Builtin.append_ #[22, 3] ty #[.slice (some ⟨b, off, none⟩) i c, .int .i64 ((n : Int) + (m : Int) - (i : Int))]).run Try.prog w =
      .ok (.slice (some ⟨w.heap.size, 0, none⟩) (n + m) (grownCap w (n + m) c 9)) (w.drew.alloc (.cells ((cs.take (i * 1)).toArray ++ Builtin.zeroCells z.cells (n + m - i) ++ Builtin.zeroCells z.cells (grownCap w (n + m) c 9 - (n + m))) 9)) := fun ty => by
    have h := Lib.run_append_grow_zeros w 22 3 ty 9 i0 _ .i64 .i64 Try.underlying22 Try.underlying3 hi0 hz0 (some ⟨b, off, none⟩) i c (cs.take (i * 1)) hold (n + m - i) (by omega) (by omega) (by omega) (by omega) (Nat.le_trans (Nat.mul_le_mul_right _ (Nat.sub_le _ _)) (by omega)) (by rw [hik]; exact growslice_fits hroom hbig)
    rw [hik] at h
    rw [hkk]
    exact h
  obtain ⟨G, hG⟩ : ∃ G, G = grownCap w (n + m) c 9 := ⟨_, rfl⟩
  obtain ⟨ROW, hROW⟩ : ∃ ROW : Array Value, ROW = (cs.take (i * 1)).toArray ++ Builtin.zeroCells z.cells (n + m - i) ++ Builtin.zeroCells z.cells (G - (n + m)) := ⟨_, rfl⟩
  rw [← hG] at hrz ⊢
  rw [← hROW] at hrz ⊢
  have hs1 : i * 1 + (n + m - i) * 1 = (n + m) * 1 := by rw [← Nat.add_mul, hik]
  have hRl : (n + m) * 1 ≤ ROW.size := by
    rw [hROW]
    simp only [Array.size_append, List.size_toArray, List.length_take, size_zeroCells, hzs]
    omega
  obtain ⟨W1, hW1⟩ : ∃ W1, W1 = w.drew.alloc (.cells ROW 9) := ⟨_, rfl⟩
  rw [← hW1] at hrz
  have hN : ∀ j, j < (n + m) * 1 → (W1.cell? ⟨w.heap.size, j, none⟩).isSome = true := fun j hj => by
    rw [hW1, World.cell?_alloc_at (w := w.drew) ROW _ w.heap.size j rfl, Array.getElem?_eq_getElem (by omega)]; rfl
  have hNf : ∀ j, W1.frozen? ⟨w.heap.size, j, none⟩ = false := fun j => by rw [hW1]; exact World.frozen?_alloc_at (w := w.drew) ROW _ w.heap.size j rfl
  have hOb : ∀ j v, w.cell? ⟨b, j, none⟩ = some v → W1.cell? ⟨b, j, none⟩ = some v := fun j v h => by rw [hW1, World.cell?_alloc_past (w := w.drew) _ b j hbw]; exact h
  have hOv : ∀ j v, w.cell? ⟨vb, j, none⟩ = some v → W1.cell? ⟨vb, j, none⟩ = some v := fun j v h => by rw [hW1, World.cell?_alloc_past (w := w.drew) _ vb j hvw]; exact h
  have ha1 : (i + m) * 1 + (n - i) * 1 = (n + m) * 1 := by rw [← Nat.add_mul]; congr 1; omega
  have ha2 : i * 1 + m * 1 = (i + m) * 1 := by rw [Nat.add_mul]
  have hcpA : ∀ (W : World), (∀ x, W.cell? x = W1.cell? x) → (∀ x, W.frozen? x = W1.frozen? x) → ∀ ty dc, (Builtin.copy_ #[22, 22] ty #[.slice (some ⟨w.heap.size, i * 1, none⟩) (n + m - i) dc, .slice (some ⟨vb, voff, none⟩) m vc]).run Try.prog W = .ok (goInt m) (W.setCells w.heap.size (i * 1) vs) := fun W hWc hWf ty dc => by
    have := run_copy_cellsK W 22 22 ty 9 w.heap.size (i * 1) (n + m - i) dc ⟨vb, voff, none⟩ m vc vs 1 Try.underlying22 hsz (by rw [hvl]; congr 1; simp only [Nat.min_def]; split <;> omega)
      (fun j v hj => by rw [Addr.add_lit, hWc]; exact hOv _ v (hvs j v hj))
      (fun j hj => by rw [hWc]; exact hN _ (by omega)) (fun j hj => by rw [hWf]; exact hNf _) h1v
    rw [this]; congr 2; simp only [Nat.min_def]; split <;> omega
  have hGn : n + m ≤ G := by rw [hG]; exact grownCap_ge w _ _ _
  have hG63 : G ≤ 9223372036854775807 := by
    have := grownCap_le_maxLen w (n + m) c 9 (by unfold maxLen; omega)
    rw [← hG] at this
    unfold maxLen at this
    omega
  have hGi : ¬ (G = i) := by omega
  have hGim : ¬ (G = i + m) := by omega
  have hci : ¬ (c = i) := by omega
  have hbN : b ≠ w.heap.size := by omega
  have hdl : (cs.drop (i * 1)).length = (n - i) * 1 := by rw [List.length_drop, hcl, Nat.sub_mul]
  have hcpB : ∀ (W : World), (∀ x, W.cell? x = (W1.setCells w.heap.size (i * 1) vs).cell? x) → (∀ x, W.frozen? x = (W1.setCells w.heap.size (i * 1) vs).frozen? x) → ∀ ty dc sc, (Builtin.copy_ #[22, 22] ty #[.slice (some ⟨w.heap.size, (i + m) * 1, none⟩) (n + m - (i + m)) dc, .slice (some ⟨b, off + i * 1, none⟩) (n - i) sc]).run Try.prog W = .ok (goInt (n - i : Nat)) (W.setCells w.heap.size ((i + m) * 1) (cs.drop (i * 1))) := fun W hWc hWf ty dc sc => by
    have := run_copy_cellsK W 22 22 ty 9 w.heap.size ((i + m) * 1) (n + m - (i + m)) dc ⟨b, off + i * 1, none⟩ (n - i) sc (cs.drop (i * 1)) 1 Try.underlying22 hsz (by rw [hdl]; congr 1; simp only [Nat.min_def]; split <;> omega)
      (fun j v hj => by
        rw [Addr.add_lit, hWc, World.cell?_setCells_out _ _ _ _ _ (fun h _ => absurd h hbN), Nat.add_assoc]
        exact hOb _ v (hcs (i * 1 + j) v (by rwa [List.getElem?_drop] at hj)))
      (fun j hj => by rw [hWc]; exact isSome_setCellsM _ _ _ _ (fun t ht => hN _ (by omega)) _ (hN _ (by omega)))
      (fun j hj => by rw [hWf, World.frozen?_setCells]; exact hNf _) (fun v hv => h1c v (List.mem_of_mem_drop hv))
    rw [this]; congr 2; simp only [Nat.min_def]; split <;> omega
  subst hW1
  have hE1 : ∀ x, ((w.alloc (.cells ROW 9)).drew).cell? x = (w.drew.alloc (.cells ROW 9)).cell? x := fun x => rfl
  have hE2 : ∀ x, ((w.alloc (.cells ROW 9)).drew).frozen? x = (w.drew.alloc (.cells ROW 9)).frozen? x := fun x => rfl
  have hF1 : ∀ x, (((w.alloc (.cells ROW 9)).drew.setCells w.heap.size (i * 1) vs).drew).cell? x = ((w.drew.alloc (.cells ROW 9)).setCells w.heap.size (i * 1) vs).cell? x := fun x => rfl
  have hF2 : ∀ x, (((w.alloc (.cells ROW 9)).drew.setCells w.heap.size (i * 1) vs).drew).frozen? x = ((w.drew.alloc (.cells ROW 9)).setCells w.heap.size (i * 1) vs).frozen? x := fun x => rfl
  have hw1 : IntKind.i64.wrap ((i : Int) + (m : Int)) = (i : Int) + (m : Int) := by rw [IntKind.wrap_i64]; omega
  have hb1 : (0 : Int) ≤ (i : Int) + (m : Int) := by omega
  have hin : i ≤ n := by omega
  have htn : ((i : Int) + (m : Int)).toNat = i + m := by omega
  have hb3 : (i : Int) ≤ (n : Int) := by omega
  try simp only [Nat.mul_one] at hcpA hcpB hF1 hF2
  clear hkk hik hold hROW hG hRl hs1 ha0 ha1 ha2 hcs hvs h1c h1v hN hNf hOb hOv hbig hbig2 hdl
  go_enter Try.func43, Try.ntmps43
  go_wp2_with (first
    | (at_builtin; refine Lib.wpList_append_run _ rfl _ _ _ _ rfl _ _ rfl rfl _ _ (hrz _) ?_)
    | (at_builtin; refine wpList_copy_runM _ rfl _ _ 22 22 rfl _ _ rfl rfl (hcpA _ hE1 hE2 _ _) ?_)
    | (at_builtin; refine wpList_copy_runM _ rfl _ _ 22 22 rfl _ _ rfl rfl (hcpB _ (fun _ => rfl) (fun _ => rfl) _ _ _) ?_))
  go_region_law (refine step_copy_runM rfl _ _ 22 22 rfl (.slice (some ⟨w.heap.size, i + m, none⟩) (n + m - (i + m)) (G - (i + m))) (.slice (some ⟨b, off + i, none⟩) (n - i) (c - i)) (by simp [Act.eval, Act.put]) (by simp [Act.eval, Act.put]) (hcpB _ hF1 hF2 3 (G - (i + m)) (c - i)) ?_)
  go_wp2
  go_ret
  exact ⟨rfl, by first | rfl | simp⟩
set_option maxHeartbeats 4000000 in
set_option maxRecDepth 100000 in
theorem grow44 (b off n c i vb voff m vc : Nat) (cs vs : List Value) (w : World) (hi : i < n) (hm : 0 < m) (hnc : n ≤ c) (hroom : c < n + m) (i0 : TypeInfo) (hi0 : Try.prog.info? 29 = some i0) (hi1 : i0.size = 5) (hbig : (n + m) * i0.bytes ≤ 140737488355328) (hbig2 : n + m ≤ 140737488355328)
    (z : Value) (hz0 : i0.zero = some z) (hzs : z.cells.size = 5)
    (hcl : cs.length = n * 5) (hvl : vs.length = m * 5)
    (hcs : ∀ (j : Nat) v, cs[j]? = some v → w.cell? ⟨b, off + j, none⟩ = some v)
    (hvs : ∀ (j : Nat) v, vs[j]? = some v → w.cell? ⟨vb, voff + j, none⟩ = some v) (h1c : ∀ v ∈ cs, v.oneCell' = true) (h1v : ∀ v ∈ vs, v.oneCell' = true) :
    Calls Try.prog 44 #[.slice (some ⟨b, off, none⟩) n c, .int .i64 i, .slice (some ⟨vb, voff, none⟩) m vc] w fun e w' =>
      e = .returned (.slice (some ⟨w.heap.size, 0, none⟩) (n + m) (grownCap w (n + m) c 29)) ∧
      w' = (((w.alloc (.cells ((cs.take (i * 5)).toArray ++ Builtin.zeroCells z.cells (n + m - i) ++ Builtin.zeroCells z.cells (grownCap w (n + m) c 29 - (n + m))) 29)).drew.setCells w.heap.size (i * 5) vs).drew).setCells w.heap.size ((i + m) * 5) (cs.drop (i * 5)) := by
  have hz1 : ¬ ((m : Int) = 0) := by omega
  have hz2 : ¬ ((i : Int) = (n : Int)) := by omega
  have hz3 : (c : Int) < (n : Int) + (m : Int) := by omega
  have hsz : (Try.prog.info? 29).map (·.size) = some 5 := by rw [hi0]; simp [hi1]
  have hbw : b < w.heap.size := block_lt_of_cell (hcs 0 _ (List.getElem?_eq_getElem (by omega)))
  have hvw : vb < w.heap.size := block_lt_of_cell (hvs 0 _ (List.getElem?_eq_getElem (by omega)))
  have hkk : (n : Int) + (m : Int) - (i : Int) = ((n + m - i : Nat) : Int) := by omega
  have hik : i + (n + m - i) = n + m := by omega
  have ha0 : i * 5 ≤ n * 5 := Nat.mul_le_mul_right _ (by omega)
  have hold : (Builtin.firstCells i0.size i (.slice (some ⟨b, off, none⟩) i c)).run Try.prog w.drew = .ok (cs.take (i * 5)).toArray w.drew := by
    rw [hi1]
    exact run_firstCells_some w.drew 5 i ⟨b, off, none⟩ i c (cs.take (i * 5)) (by rw [List.length_take]; omega) (fun j v hj => by
      rw [Addr.add_lit]
      rw [List.getElem?_take] at hj
      split at hj
      · exact hcs j v hj
      · cases hj)
  have hrz : ∀ ty, (Builtin.append_ #[27, 3] ty #[.slice (some ⟨b, off, none⟩) i c, .int .i64 ((n : Int) + (m : Int) - (i : Int))]).run Try.prog w =
      .ok (.slice (some ⟨w.heap.size, 0, none⟩) (n + m) (grownCap w (n + m) c 29)) (w.drew.alloc (.cells ((cs.take (i * 5)).toArray ++ Builtin.zeroCells z.cells (n + m - i) ++ Builtin.zeroCells z.cells (grownCap w (n + m) c 29 - (n + m))) 29)) := fun ty => by
    have h := Lib.run_append_grow_zeros w 27 3 ty 29 i0 _ .i64 .i64 Try.underlying27 Try.underlying3 hi0 hz0 (some ⟨b, off, none⟩) i c (cs.take (i * 5)) hold (n + m - i) (by omega) (by omega) (by omega) (by omega) (Nat.le_trans (Nat.mul_le_mul_right _ (Nat.sub_le _ _)) (by omega)) (by rw [hik]; exact growslice_fits hroom hbig)
    rw [hik] at h
    rw [hkk]
    exact h
  obtain ⟨G, hG⟩ : ∃ G, G = grownCap w (n + m) c 29 := ⟨_, rfl⟩
  obtain ⟨ROW, hROW⟩ : ∃ ROW : Array Value, ROW = (cs.take (i * 5)).toArray ++ Builtin.zeroCells z.cells (n + m - i) ++ Builtin.zeroCells z.cells (G - (n + m)) := ⟨_, rfl⟩
  rw [← hG] at hrz ⊢
  rw [← hROW] at hrz ⊢
  have hs1 : i * 5 + (n + m - i) * 5 = (n + m) * 5 := by rw [← Nat.add_mul, hik]
  have hRl : (n + m) * 5 ≤ ROW.size := by
    rw [hROW]
    simp only [Array.size_append, List.size_toArray, List.length_take, size_zeroCells, hzs]
    omega
  obtain ⟨W1, hW1⟩ : ∃ W1, W1 = w.drew.alloc (.cells ROW 29) := ⟨_, rfl⟩
  rw [← hW1] at hrz
  have hN : ∀ j, j < (n + m) * 5 → (W1.cell? ⟨w.heap.size, j, none⟩).isSome = true := fun j hj => by
    rw [hW1, World.cell?_alloc_at (w := w.drew) ROW _ w.heap.size j rfl, Array.getElem?_eq_getElem (by omega)]; rfl
  have hNf : ∀ j, W1.frozen? ⟨w.heap.size, j, none⟩ = false := fun j => by rw [hW1]; exact World.frozen?_alloc_at (w := w.drew) ROW _ w.heap.size j rfl
  have hOb : ∀ j v, w.cell? ⟨b, j, none⟩ = some v → W1.cell? ⟨b, j, none⟩ = some v := fun j v h => by rw [hW1, World.cell?_alloc_past (w := w.drew) _ b j hbw]; exact h
  have hOv : ∀ j v, w.cell? ⟨vb, j, none⟩ = some v → W1.cell? ⟨vb, j, none⟩ = some v := fun j v h => by rw [hW1, World.cell?_alloc_past (w := w.drew) _ vb j hvw]; exact h
  have ha1 : (i + m) * 5 + (n - i) * 5 = (n + m) * 5 := by rw [← Nat.add_mul]; congr 1; omega
  have ha2 : i * 5 + m * 5 = (i + m) * 5 := by rw [Nat.add_mul]
  have hcpA : ∀ (W : World), (∀ x, W.cell? x = W1.cell? x) → (∀ x, W.frozen? x = W1.frozen? x) → ∀ ty dc, (Builtin.copy_ #[27, 27] ty #[.slice (some ⟨w.heap.size, i * 5, none⟩) (n + m - i) dc, .slice (some ⟨vb, voff, none⟩) m vc]).run Try.prog W = .ok (goInt m) (W.setCells w.heap.size (i * 5) vs) := fun W hWc hWf ty dc => by
    have := run_copy_cellsK W 27 27 ty 29 w.heap.size (i * 5) (n + m - i) dc ⟨vb, voff, none⟩ m vc vs 5 Try.underlying27 hsz (by rw [hvl]; congr 1; simp only [Nat.min_def]; split <;> omega)
      (fun j v hj => by rw [Addr.add_lit, hWc]; exact hOv _ v (hvs j v hj))
      (fun j hj => by rw [hWc]; exact hN _ (by omega)) (fun j hj => by rw [hWf]; exact hNf _) h1v
    rw [this]; congr 2; simp only [Nat.min_def]; split <;> omega
  have hGn : n + m ≤ G := by rw [hG]; exact grownCap_ge w _ _ _
  have hG63 : G ≤ 9223372036854775807 := by
    have := grownCap_le_maxLen w (n + m) c 29 (by unfold maxLen; omega)
    rw [← hG] at this
    unfold maxLen at this
    omega
  have hGi : ¬ (G = i) := by omega
  have hGim : ¬ (G = i + m) := by omega
  have hci : ¬ (c = i) := by omega
  have hbN : b ≠ w.heap.size := by omega
  have hdl : (cs.drop (i * 5)).length = (n - i) * 5 := by rw [List.length_drop, hcl, Nat.sub_mul]
  have hcpB : ∀ (W : World), (∀ x, W.cell? x = (W1.setCells w.heap.size (i * 5) vs).cell? x) → (∀ x, W.frozen? x = (W1.setCells w.heap.size (i * 5) vs).frozen? x) → ∀ ty dc sc, (Builtin.copy_ #[27, 27] ty #[.slice (some ⟨w.heap.size, (i + m) * 5, none⟩) (n + m - (i + m)) dc, .slice (some ⟨b, off + i * 5, none⟩) (n - i) sc]).run Try.prog W = .ok (goInt (n - i : Nat)) (W.setCells w.heap.size ((i + m) * 5) (cs.drop (i * 5))) := fun W hWc hWf ty dc sc => by
    have := run_copy_cellsK W 27 27 ty 29 w.heap.size ((i + m) * 5) (n + m - (i + m)) dc ⟨b, off + i * 5, none⟩ (n - i) sc (cs.drop (i * 5)) 5 Try.underlying27 hsz (by rw [hdl]; congr 1; simp only [Nat.min_def]; split <;> omega)
      (fun j v hj => by
        rw [Addr.add_lit, hWc, World.cell?_setCells_out _ _ _ _ _ (fun h _ => absurd h hbN), Nat.add_assoc]
        exact hOb _ v (hcs (i * 5 + j) v (by rwa [List.getElem?_drop] at hj)))
      (fun j hj => by rw [hWc]; exact isSome_setCellsM _ _ _ _ (fun t ht => hN _ (by omega)) _ (hN _ (by omega)))
      (fun j hj => by rw [hWf, World.frozen?_setCells]; exact hNf _) (fun v hv => h1c v (List.mem_of_mem_drop hv))
    rw [this]; congr 2; simp only [Nat.min_def]; split <;> omega
  subst hW1
  have hE1 : ∀ x, ((w.alloc (.cells ROW 29)).drew).cell? x = (w.drew.alloc (.cells ROW 29)).cell? x := fun x => rfl
  have hE2 : ∀ x, ((w.alloc (.cells ROW 29)).drew).frozen? x = (w.drew.alloc (.cells ROW 29)).frozen? x := fun x => rfl
  have hF1 : ∀ x, (((w.alloc (.cells ROW 29)).drew.setCells w.heap.size (i * 5) vs).drew).cell? x = ((w.drew.alloc (.cells ROW 29)).setCells w.heap.size (i * 5) vs).cell? x := fun x => rfl
  have hF2 : ∀ x, (((w.alloc (.cells ROW 29)).drew.setCells w.heap.size (i * 5) vs).drew).frozen? x = ((w.drew.alloc (.cells ROW 29)).setCells w.heap.size (i * 5) vs).frozen? x := fun x => rfl
  have hw1 : IntKind.i64.wrap ((i : Int) + (m : Int)) = (i : Int) + (m : Int) := by rw [IntKind.wrap_i64]; omega
  have hb1 : (0 : Int) ≤ (i : Int) + (m : Int) := by omega
  have hin : i ≤ n := by omega
  have htn : ((i : Int) + (m : Int)).toNat = i + m := by omega
  have hb3 : (i : Int) ≤ (n : Int) := by omega
  try simp only [Nat.mul_one] at hcpA hcpB hF1 hF2
  clear hkk hik hold hROW hG hRl hs1 ha0 ha1 ha2 hcs hvs h1c h1v hN hNf hOb hOv hbig hbig2 hdl
  go_enter Try.func44, Try.ntmps44
  go_wp2_with (first
    | (at_builtin; refine Lib.wpList_append_run _ rfl _ _ _ _ rfl _ _ rfl rfl _ _ (hrz _) ?_)
    | (at_builtin; refine wpList_copy_runM _ rfl _ _ 27 27 rfl _ _ rfl rfl (hcpA _ hE1 hE2 _ _) ?_)
    | (at_builtin; refine wpList_copy_runM _ rfl _ _ 27 27 rfl _ _ rfl rfl (hcpB _ (fun _ => rfl) (fun _ => rfl) _ _ _) ?_))
  go_region_law (refine step_copy_runM rfl _ _ 27 27 rfl (.slice (some ⟨w.heap.size, (i + m) * 5, none⟩) (n + m - (i + m)) (G - (i + m))) (.slice (some ⟨b, off + i * 5, none⟩) (n - i) (c - i)) (by simp [Act.eval, Act.put]) (by simp [Act.eval, Act.put]) (hcpB _ hF1 hF2 3 (G - (i + m)) (c - i)) ?_)
  go_wp2
  go_ret
  exact ⟨rfl, by first | rfl | simp⟩
end Go.Proofs.Ytjpcicjkbbbpiaa.M

/- A function that writes into a part of a list that is lent to it. No condition. -/
namespace Go.Proofs.Ytjpcicjkbbbpiaa.M
open Go Go.Proofs
set_option maxRecDepth 100000
set_option maxHeartbeats 2000000
set_option linter.unusedSimpArgs false
set_option linter.unusedVariables false
theorem sub_calls {P : Program} {τ : Tab} (hτ : TOk P τ) {f : FuncId} {fn : Func} {c : Code} (hf : P.funcs[f]? = some fn) (hb : fn.body = some c) {md : Nat → Md} {N sz o n : Nat} {es es' : List T} (hN : fn.ntmps = N) (hrl : fn.results.toList = []) (h1N : 1 ≤ N)
    (h : act (W P τ md c ((initS N [.ln sz es]).set (some 0) (.a (.c (.own 0 0 o n)))) (endK τ true [] [.ln sz es] [] [[.arr sz es']])))
    {S S' : Addr → Option Value} {w : World} {b base room cap c' : Nat} {q : Addr} (hA : ArrOk S w b base room sz es) (hsc : Sc es) (hbw : b < w.heap.size) (hcap : es.length ≤ cap) (hroom : cap * sz ≤ room) (h0 : 0 < cap) (hon : o + n ≤ es.length)
    (hq : q = ⟨b, base + o * sz, none⟩) (hnc : n ≤ c') (hoc : o + c' ≤ cap) : Calls P f #[.slice (some q) n c'] w fun e w' => e = .returned (.tuple #[]) ∧ Fr [b] w w' ∧ es'.length = es.length ∧ Sc es' ∧ ∃ room', cap * sz ≤ room' ∧ ArrOk S' w' b base room' sz es' := by
  subst hN hq
  obtain ⟨vs, hH, hc, hsz, hle, hrm⟩ := hA
  have hL : ArgsOk (inV (fun _ => False) w) w [.ln sz es] [.slice (some ⟨b, base, none⟩) es.length cap] [b] :=
    ⟨_, [], [b], [], rfl, rfl, ⟨b, base, room, cap, rfl, rfl, hcap, hroom, hsc, vs, hH.scal hsc, hc, hsz, hle, hrm⟩, rfl, rfl⟩
  obtain ⟨pin, μ, R, hpin⟩ := entry_rel (N := fn.ntmps) hL (by simp) (fun b' hb' => by simp at hb'; subst hb'; exact ⟨hbw, id⟩) h1N
  have hnx : ((initS fn.ntmps [.ln sz es]).set (some 0) (.a (.c (.own 0 0 o n)))).nx = (initS fn.ntmps [.ln sz es]).nx := by simp only [St.set]; split <;> rfl
  have hg : (initS fn.ntmps [.ln sz es]).get 0 = .a (.c (.own 0 0 0 es.length)) := rfl
  have ht := R.tmp 0
  rw [hg] at ht
  have ht0 : (#[Value.slice (some ⟨b, base, none⟩) es.length cap] ++ Array.replicate (fn.ntmps - 1) undef).getD 0 undef = .slice (some ⟨b, base, none⟩) es.length cap := by simp [Array.getD]
  have ht' : COk (· < (initS fn.ntmps [.ln sz es]).nx) (initS fn.ntmps [.ln sz es]).hp (Sv (fun b' => False ∨ w.heap.size ≤ b' ∨ b' ∈ [b]) (initS fn.ntmps [.ln sz es]).hp μ w) μ (.own 0 0 0 es.length) (.slice (some ⟨b, base, none⟩) es.length cap) := by rw [← ht0]; exact ht
  have hx : AVOk (· < (initS fn.ntmps [.ln sz es]).nx) (initS fn.ntmps [.ln sz es]).hp (Sv (fun b' => False ∨ w.heap.size ≤ b' ∨ b' ∈ [b]) (initS fn.ntmps [.ln sz es]).hp μ w) μ (.a (.c (.own 0 0 o n))) (.slice (some ⟨b, base + o * sz, none⟩) n c') := by
    refine ⟨ht'.1, rfl, fun sz' es0 he => ?_⟩
    obtain ⟨g1, g2⟩ := ht'.2.2 sz' es0 he
    have he' : arrOf (initS fn.ntmps [.ln sz es]).hp 0 0 = some (sz, es) := rfl
    rw [he'] at he
    obtain ⟨rfl, rfl⟩ := Prod.mk.inj (Option.some.inj he)
    refine ⟨hon, ?_⟩
    unfold SlOk at g2 ⊢
    split at g2
    · obtain ⟨_, _, q, hq⟩ := g2
      simp only [Value.slice.injEq] at hq
      omega
    · rename_i p hp
      obtain ⟨a, cp, e1, e2, e3, e4⟩ := g2
      simp only [Value.slice.injEq, Option.some.injEq] at e1
      obtain ⟨rfl, _, rfl⟩ := e1
      rcases e2 with e2 | e2
      · simp only [Addr.mk.injEq] at e2
        obtain ⟨rfl, e2, _⟩ := e2
        refine ⟨_, c', rfl, .inl (by rw [e2]; simp), hnc, Nat.le_trans (Nat.mul_le_mul_right _ hoc) (by simpa using e4)⟩
      · omega
  have R1 := R.set (some 0) _ _ hx
  have hact : Act.put { tmps := [Value.slice (some ⟨b, base, none⟩) es.length cap].toArray ++ Array.replicate (fn.ntmps - [Value.slice (some ⟨b, base, none⟩) es.length cap].toArray.size) undef, defers := [] } (some 0) (.slice (some ⟨b, base + o * sz, none⟩) n c') =
      { tmps := #[Value.slice (some ⟨b, base + o * sz, none⟩) n c'] ++ Array.replicate (fn.ntmps - #[Value.slice (some ⟨b, base + o * sz, none⟩) n c'].size) undef, defers := [] } := by
    simp only [Act.put, Act.mk.injEq, and_true]
    apply Array.ext
    · simp
    · intro i h1 h2
      simp only [List.size_toArray, List.length_cons, List.length_nil, Array.getElem_setIfInBounds]
      cases i with
      | zero => simp
      | succ i => simp [Array.getElem_append]
  rw [hact] at R1
  refine calls_of_wp hf hb (wp_mono (W_sound hτ c _ _ h ⟨fun b' => False ∨ w.heap.size ≤ b' ∨ b' ∈ [b], w, [b], pin⟩ _ w μ (by rw [hnx]; exact R1)) fun e a' w' hh => ?_)
  obtain ⟨x, s', μ', hxe, hq, R'⟩ := hh
  have fin : retE τ true [] [.ln sz es] s' [] [[.arr sz es']] → a'.defers = [] ∧ ∃ v, (results fn a'.tmps).run P w' = .ok v w' ∧ Ending.returned v = .returned (.tuple #[]) ∧ Fr [b] w w' ∧ es'.length = es.length ∧ Sc es' ∧ ∃ room', cap * sz ≤ room' ∧ ArrOk S' w' b base room' sz es' := fun hr => by
    have hr' : retK τ true fn [.ln sz es] s' fun rs' os' => rs' = [] ∧ os' = [[.arr sz es']] := by unfold retK; rw [hrl]; exact hr
    obtain ⟨v, r1, r2, h1, h2, h3, h4, h5⟩ := exit_ok hτ R' hpin hr'
    obtain ⟨vs', rfl, h2⟩ : ∃ vs' : List Value, v = .tuple vs'.toArray ∧ ResL true (inV _ w') w' [] vs' r1 := h2
    obtain ⟨rfl, rfl⟩ := h2
    obtain ⟨es2, os', r3, r4, e1, e2, e3, ⟨b2, base2, room2, cap2, e4, e5, e6, e7, e8, e9⟩, e10⟩ := h3
    simp only [List.cons.injEq, BC.arr.injEq, true_and, and_true] at e1
    obtain ⟨rfl, _⟩ := e1
    simp only [Value.slice.injEq, Option.some.injEq, Addr.mk.injEq, and_true] at e5
    obtain ⟨⟨rfl, rfl⟩, _, rfl⟩ := e5
    obtain ⟨us, k1, k2, k3, k4, k5⟩ := e9
    exact ⟨R'.defers, _, h1, rfl, R'.mem.fr, e2, e8, room2, e7, us, k1.scal e8, k2, k3, k4, k5⟩
  cases x with
  | normal =>
    obtain rfl : e = .normal := by cases e <;> first | rfl | exact hxe.elim
    exact fin hq
  | exit j => exact hq.elim
  | ret =>
    obtain rfl : e = .ret := by cases e <;> first | rfl | exact hxe.elim
    exact fin hq
end Go.Proofs.Ytjpcicjkbbbpiaa.M

/- slices.Reverse of a part of a list; slices.rotateRight. No condition. -/
namespace Go.Proofs.Ytjpcicjkbbbpiaa.M
open Go Go.Proofs
set_option maxRecDepth 100000
set_option maxHeartbeats 2000000
set_option linter.unusedSimpArgs false
set_option linter.unusedVariables false
@[go_sem] def mdI : Nat → Md := fun f => ⟨true, []⟩
def revS (es : List T) (o n : Nat) : List T := es.take o ++ (((es.drop o).take n).reverse ++ es.drop (o + n))
theorem revS_get (es : List T) (o n : Nat) (h : o + n ≤ es.length) (k : Nat) : (revS es o n)[k]? = if o ≤ k ∧ k < o + n then es[2 * o + n - 1 - k]? else es[k]? := by
  unfold revS
  have h1 : (es.take o).length = o := by simp; omega
  have h2 : (((es.drop o).take n).reverse).length = n := by simp; omega
  by_cases hk : k < o
  · rw [List.getElem?_append_left (by omega), List.getElem?_take_of_lt hk, if_neg (by omega)]
  · rw [List.getElem?_append_right (by omega), h1]
    by_cases hk2 : k < o + n
    · rw [List.getElem?_append_left (by omega), if_pos ⟨by omega, hk2⟩, List.getElem?_reverse (by simp; omega), List.getElem?_take_of_lt (by simp; omega), List.getElem?_drop]
      congr 1
      simp
      omega
    · rw [List.getElem?_append_right (by omega), h2, if_neg (by omega), List.getElem?_drop]
      congr 1
      omega
theorem revS_len (es : List T) (o n : Nat) (h : o + n ≤ es.length) : (revS es o n).length = es.length := by unfold revS; simp; omega
theorem revS_mem (es : List T) (o n : Nat) : ∀ e ∈ revS es o n, e ∈ es := fun e he => by
  unfold revS at he
  rcases List.mem_append.1 he with h | h
  · exact List.mem_of_mem_take h
  rcases List.mem_append.1 h with h | h
  · exact List.mem_of_mem_drop (List.mem_of_mem_take (List.mem_reverse.1 h))
  · exact List.mem_of_mem_drop h
/-- Some rounds on. -/
def RevI (es : List T) (o n i : Nat) (l : List T) : Prop := 2 * i ≤ n ∧ l.length = es.length ∧ ∀ k, l[k]? = if o ≤ k ∧ k < o + n ∧ (k < o + i ∨ o + n ≤ k + i) then es[2 * o + n - 1 - k]? else es[k]?
theorem RevI.next {es : List T} {o n i : Nat} {l : List T} (hon : o + n ≤ es.length) (h : RevI es o n i l) (hi : 2 * i + 1 < n) {x y : T} (hx : l[o + i]? = some x) (hy : l[o + (n - 1 - i)]? = some y) : RevI es o n (i + 1) ((l.set (o + i) y).set (o + (n - 1 - i)) x) := by
  obtain ⟨h1, h2, h3⟩ := h
  have hx' := h3 (o + i)
  have hy' := h3 (o + (n - 1 - i))
  rw [if_neg (by omega), hx] at hx'
  rw [if_neg (by omega), hy] at hy'
  refine ⟨by omega, by simp [h2], fun k => ?_⟩
  rw [List.getElem?_set, List.getElem?_set]
  simp only [List.length_set]
  by_cases e1 : o + (n - 1 - i) = k
  · subst e1
    rw [if_pos rfl, if_pos (by omega), if_pos (by omega), hx']
    congr 1; omega
  · rw [if_neg e1]
    by_cases e2 : o + i = k
    · subst e2
      rw [if_pos rfl, if_pos (by omega), if_pos (by omega), hy']
      congr 1; omega
    · rw [if_neg e2, h3 k]
      by_cases e3 : o ≤ k ∧ k < o + n ∧ (k < o + i ∨ o + n ≤ k + i)
      · rw [if_pos e3, if_pos (by omega)]
      · rw [if_neg e3, if_neg (by omega)]
theorem RevI.fin {es : List T} {o n i : Nat} {l : List T} (hon : o + n ≤ es.length) (h : RevI es o n i l) (hi : ¬ 2 * i + 1 < n) : l = revS es o n := by
  obtain ⟨h1, h2, h3⟩ := h
  refine List.ext_getElem? fun k => ?_
  rw [h3, revS_get es o n hon]
  by_cases e : o ≤ k ∧ k < o + n
  · rw [if_pos e]
    by_cases e2 : k < o + i ∨ o + n ≤ k + i
    · rw [if_pos ⟨e.1, e.2, e2⟩]
    · rw [if_neg (fun h => e2 h.2.2)]
      congr 1; omega
  · rw [if_neg e, if_neg (fun h => e ⟨h.1, h.2.1⟩)]
theorem RevI.mem {es : List T} {o n i : Nat} {l : List T} (h : RevI es o n i l) : ∀ e ∈ l, e ∈ es := fun e he => by
  obtain ⟨k, hk⟩ := List.getElem?_of_mem he
  rw [h.2.2 k] at hk
  split at hk <;> exact List.mem_of_getElem? hk
def Sh1 (e : T) : Prop := ∃ s, e = .str s
theorem rev79 (es : List T) (o n : Nat) (hon : o + n ≤ es.length) (h40 : es.length ≤ 1099511627776) (hn : 0 < n) (hsh : ∀ e ∈ es, Sh1 e)
    {S S' : Addr → Option Value} {w : World} {b base room cap c' : Nat} {q : Addr} (hA : ArrOk S w b base room 1 es) (hsc : Sc es) (hbw : b < w.heap.size) (hcap : es.length ≤ cap) (hroom : cap * 1 ≤ room) (h0 : 0 < cap)
    (hq : q = ⟨b, base + o * 1, none⟩) (hnc : n ≤ c') (hoc : o + c' ≤ cap) : Calls Try.prog 79 #[.slice (some q) n c'] w fun e w' => e = .returned (.tuple #[]) ∧ Fr [b] w w' ∧ (revS es o n).length = es.length ∧ Sc (revS es o n) ∧ ∃ room', cap * 1 ≤ room' ∧ ArrOk S' w' b base room' 1 (revS es o n) := by
  refine sub_calls tab_ok Try.func79 rfl (md := mdI) (N := 28) Try.ntmps79 rfl (by omega) ?_ hA hsc hbw hcap hroom h0 hon hq hnc hoc
  simp only [go_sem]
  have w1 : ∀ x : Int, -4611686018427387904 ≤ x → x ≤ 4611686018427387904 → IntKind.wrap .i64 x = x := fun x h1 h2 => by rw [IntKind.wrap_i64]; omega
  rw [w1 ((n : Int) - 1) (by omega) (by omega)]
  refine act_loop_of (md := mdI) tab_ok [0,2,3] [0] 1000 (ι := {p : Nat × List T // RevI es o n p.1 p.2}) (fun p => ⟨[(0, .a (.c (.own 0 0 o n))), (2, .a (.c (.t (.int .i64 p.1.1)))), (3, .a (.c (.t (.int .i64 ((n : Int) - 1 - p.1.1)))))], [(0, .arr 1 p.1.2 0)], 1000, 28⟩)
    (fun p => n - p.1.1) ⟨(0, es), by omega, rfl, fun k => by rw [if_neg (by omega)]⟩ (Nat.le_of_ble_eq_true rfl) (by simp only [go_sem]) (by simp only [go_sem]; simp) fun p => ?_
  obtain ⟨⟨i, l⟩, hI⟩ := p
  dsimp only at hI
  have hI1 := hI.1
  by_cases hil : 2 * i + 1 < n
  · have e1 : decide ((i : Int) < (n : Int) - 1 - i) = true := by simp; omega
    have hll := hI.2.1
    obtain ⟨x, hx⟩ : ∃ x, l[o + i]? = some x := ⟨_, List.getElem?_eq_getElem (by omega)⟩
    obtain ⟨y, hy⟩ : ∃ y, l[o + (n - 1 - i)]? = some y := ⟨_, List.getElem?_eq_getElem (by omega)⟩
    have t1 : ((n : Int) - 1 - (i : Int)).toNat = n - 1 - i := by omega
    have t2 : ((i : Int)).toNat = i := by omega
    have hy2 : ∀ z, (l.set (o + i) z)[o + (n - 1 - i)]? = some y := fun z => by rw [List.getElem?_set_ne (by omega)]; exact hy
    have hnext := hI.next hon hil hx hy
    simp only [go_sem, e1]
    obtain ⟨s1, rfl⟩ := hsh x (hI.mem x (List.mem_of_getElem? hx))
    obtain ⟨s2, rfl⟩ := hsh y (hI.mem y (List.mem_of_getElem? hy))
    refine act_draw_of tab_ok mix mdI ?_
    simp only [go_sem, t1, t2, hx, hy, hy2]
    refine ⟨by omega, by omega, by omega, by omega, by omega, by omega, by omega, by omega, drawOk_of (by kernel_rfl), ?_⟩
    refine nextK_of (ks := [0,2,3]) (hs := [0]) ⟨(i + 1, (l.set (o + i) _).set (o + (n - 1 - i)) _), hnext⟩ (by simp only [go_sem]) ?_ (by dsimp only; omega)
    simp only [go_sem]
    rw [w1 ((i : Int) + 1) (by omega) (by omega), w1 ((n : Int) - 1 - i - 1) (by omega) (by omega), show (n : Int) - 1 - i - 1 = (n : Int) - 1 - ((i + 1 : Nat) : Int) by omega]
    rfl
  · have e1 : decide ((i : Int) < (n : Int) - 1 - i) = false := by simp; omega
    simp only [go_sem, e1]
    have := hI.fin hon hil
    subst this
    exact ⟨revS_len es o n hon, fun t ht => by
      obtain ⟨e, he, hte⟩ := List.mem_flatMap.1 ht
      exact hsc t (List.mem_flatMap.2 ⟨e, revS_mem es o n e he, hte⟩), rfl⟩
def Sh5 (e : T) : Prop := ∃ a b c d f, e = .agg [a, b, c, d, f]
theorem rev80 (es : List T) (o n : Nat) (hon : o + n ≤ es.length) (h40 : es.length ≤ 1099511627776) (hn : 0 < n) (hsh : ∀ e ∈ es, Sh5 e)
    {S S' : Addr → Option Value} {w : World} {b base room cap c' : Nat} {q : Addr} (hA : ArrOk S w b base room 5 es) (hsc : Sc es) (hbw : b < w.heap.size) (hcap : es.length ≤ cap) (hroom : cap * 5 ≤ room) (h0 : 0 < cap)
    (hq : q = ⟨b, base + o * 5, none⟩) (hnc : n ≤ c') (hoc : o + c' ≤ cap) : Calls Try.prog 80 #[.slice (some q) n c'] w fun e w' => e = .returned (.tuple #[]) ∧ Fr [b] w w' ∧ (revS es o n).length = es.length ∧ Sc (revS es o n) ∧ ∃ room', cap * 5 ≤ room' ∧ ArrOk S' w' b base room' 5 (revS es o n) := by
  refine sub_calls tab_ok Try.func80 rfl (md := mdI) (N := 28) Try.ntmps80 rfl (by omega) ?_ hA hsc hbw hcap hroom h0 hon hq hnc hoc
  simp only [go_sem]
  have w1 : ∀ x : Int, -4611686018427387904 ≤ x → x ≤ 4611686018427387904 → IntKind.wrap .i64 x = x := fun x h1 h2 => by rw [IntKind.wrap_i64]; omega
  rw [w1 ((n : Int) - 1) (by omega) (by omega)]
  refine act_loop_of (md := mdI) tab_ok [0,2,3] [0] 1000 (ι := {p : Nat × List T // RevI es o n p.1 p.2}) (fun p => ⟨[(0, .a (.c (.own 0 0 o n))), (2, .a (.c (.t (.int .i64 p.1.1)))), (3, .a (.c (.t (.int .i64 ((n : Int) - 1 - p.1.1)))))], [(0, .arr 5 p.1.2 0)], 1000, 28⟩)
    (fun p => n - p.1.1) ⟨(0, es), by omega, rfl, fun k => by rw [if_neg (by omega)]⟩ (Nat.le_of_ble_eq_true rfl) (by simp only [go_sem]) (by simp only [go_sem]; simp) fun p => ?_
  obtain ⟨⟨i, l⟩, hI⟩ := p
  dsimp only at hI
  have hI1 := hI.1
  by_cases hil : 2 * i + 1 < n
  · have e1 : decide ((i : Int) < (n : Int) - 1 - i) = true := by simp; omega
    have hll := hI.2.1
    obtain ⟨x, hx⟩ : ∃ x, l[o + i]? = some x := ⟨_, List.getElem?_eq_getElem (by omega)⟩
    obtain ⟨y, hy⟩ : ∃ y, l[o + (n - 1 - i)]? = some y := ⟨_, List.getElem?_eq_getElem (by omega)⟩
    have t1 : ((n : Int) - 1 - (i : Int)).toNat = n - 1 - i := by omega
    have t2 : ((i : Int)).toNat = i := by omega
    have hy2 : ∀ z, (l.set (o + i) z)[o + (n - 1 - i)]? = some y := fun z => by rw [List.getElem?_set_ne (by omega)]; exact hy
    have hnext := hI.next hon hil hx hy
    simp only [go_sem, e1]
    obtain ⟨x1, x2, x3, x4, x5, rfl⟩ := hsh x (hI.mem x (List.mem_of_getElem? hx))
    obtain ⟨y1, y2, y3, y4, y5, rfl⟩ := hsh y (hI.mem y (List.mem_of_getElem? hy))
    refine act_draw_of tab_ok mix mdI ?_
    simp only [go_sem, t1, t2, hx, hy, hy2]
    refine ⟨by omega, by omega, by omega, by omega, by omega, by omega, by omega, by omega, drawOk_of (by kernel_rfl), ?_⟩
    refine nextK_of (ks := [0,2,3]) (hs := [0]) ⟨(i + 1, (l.set (o + i) _).set (o + (n - 1 - i)) _), hnext⟩ (by simp only [go_sem]) ?_ (by dsimp only; omega)
    simp only [go_sem]
    rw [w1 ((i : Int) + 1) (by omega) (by omega), w1 ((n : Int) - 1 - i - 1) (by omega) (by omega), show (n : Int) - 1 - i - 1 = (n : Int) - 1 - ((i + 1 : Nat) : Int) by omega]
    rfl
  · have e1 : decide ((i : Int) < (n : Int) - 1 - i) = false := by simp; omega
    simp only [go_sem, e1]
    have := hI.fin hon hil
    subst this
    exact ⟨revS_len es o n hon, fun t ht => by
      obtain ⟨e, he, hte⟩ := List.mem_flatMap.1 ht
      exact hsc t (List.mem_flatMap.2 ⟨e, revS_mem es o n e he, hte⟩), rfl⟩
end Go.Proofs.Ytjpcicjkbbbpiaa.M

/- slices.rotateRight by one. No condition. -/
namespace Go.Proofs.Ytjpcicjkbbbpiaa.M
open Go Go.Proofs Go.RowKit Go.Lib Go.Sort
set_option maxRecDepth 100000
set_option maxHeartbeats 400000
set_option linter.unusedSimpArgs false
set_option linter.unusedVariables false
theorem ArrOk.room {S S' : Addr → Option Value} {w : World} {b base room cap sz : Nat} {es : List T} (h : ArrOk S w b base room sz es) (hr : cap * sz ≤ room) (hl : es.length ≤ cap) (hsc : Sc es) : ArrOk S' w b base (cap * sz) sz es := by
  obtain ⟨vs, h1, h2, h3, h4, h5⟩ := h
  refine ⟨vs, h1.scal hsc, h2, h3, ?_, fun j hj => h5 j (by omega)⟩
  rw [h1.1, flat_length h3]
  exact Nat.mul_le_mul_right _ hl
theorem rotL73 (es : List T) (i L : Nat) (hi : i + L ≤ es.length) (hL : 1 < L) (h40 : es.length ≤ 1099511627776) (hsh : ∀ e ∈ es, Sh1 e)
    {S S' : Addr → Option Value} {w : World} {b base cap c' : Nat} (hA : ArrOk S w b base (cap * 1) 1 es) (hsc : Sc es) (hbw : b < w.heap.size) (hcap : es.length ≤ cap) (hnc : L ≤ c') (hoc : i + c' ≤ cap) :
    Calls Try.prog 73 #[.slice (some ⟨b, base + i, none⟩) L c', .int .i64 ((L : Int) - 1)] w fun e w' => e = .returned (.tuple #[]) ∧ Fr [b] w w' ∧ ArrOk S' w' b base (cap * 1) 1 (revS (revS (revS es i (L - 1)) (i + (L - 1)) (L - (L - 1))) i L) := by
  have hI1 : (0 : Int) ≤ (L : Int) - 1 := by omega
  have hI2 : (L : Int) - 1 ≤ (L : Int) := by omega
  have hI3 : (L : Int) - 1 ≤ (c' : Int) := by omega
  have hI4 : ((L : Int) - 1).toNat = L - 1 := by omega
  go_enter Try.func73, Try.ntmps73
  go_wp2_with fail
  refine (rev79 es i (L - 1) (by omega) h40 (by omega) hsh (S' := S') (c' := c') hA hsc hbw hcap (Nat.le_refl _) (by omega) (by first | rfl | simp) (by omega) (by omega)).mono fun e w1 ⟨he, hF1, hl1, hs1, room1, hr1, hA1⟩ => ?_
  subst he
  replace hA1 := hA1.room (S' := S') hr1 (by omega) hs1
  have hsh1 : ∀ e ∈ revS es i (L - 1), Sh1 e := fun e he => hsh e (revS_mem _ _ _ e he)
  have hbw1 : b < w1.heap.size := Nat.lt_of_lt_of_le hbw hF1.size
  go_wp2_with fail
  have hs21 := rev79 (revS es i (L - 1)) (i + (L - 1)) (L - (L - 1)) (by omega) (by omega) (by omega) hsh1 (S' := S') (c' := c' - (L - 1)) (q := ⟨b, base + i + (L - 1), none⟩) hA1 hs1 hbw1 (by omega) (Nat.le_refl _) (by omega) (by first | rfl | (simp only [Addr.mk.injEq, true_and, and_true]; omega)) (by omega) (by omega)
  refine hs21.mono fun e w2 ⟨he, hF2, hl2, hs2, room2, hr2, hA2⟩ => ?_
  clear hs21
  subst he
  replace hA2 := hA2.room (S' := S') hr2 (by omega) hs2
  have hsh2 : ∀ e ∈ revS (revS es i (L - 1)) (i + (L - 1)) (L - (L - 1)), Sh1 e := fun e he => hsh1 e (revS_mem _ _ _ e he)
  have hbw2 : b < w2.heap.size := Nat.lt_of_lt_of_le hbw1 hF2.size
  have hs3 := rev79 (revS (revS es i (L - 1)) (i + (L - 1)) (L - (L - 1))) i L (by omega) (by omega) (by omega) hsh2 (S' := S') (c' := c') (q := ⟨b, base + i, none⟩) hA2 hs2 hbw2 (by omega) (Nat.le_refl _) (by omega) (by first | rfl | (simp only [Addr.mk.injEq, true_and, and_true]; omega)) (by omega) (by omega)
  generalize he2 : revS (revS es i (L - 1)) (i + (L - 1)) (L - (L - 1)) = es2 at *
  generalize he1 : revS es i (L - 1) = es1 at *
  clear hA1 hA2 hsh1 hsh2 hsh hA
  go_wp2_with fail
  refine hs3.mono fun e w3 ⟨he, hF3, hl3, hs3', room3, hr3, hA3⟩ => ?_
  subst he
  replace hA3 := hA3.room (S' := S') hr3 (by omega) hs3'
  clear hs3
  go_wp2_with fail
  all_goals (go_end0; subst he2 he1; exact ⟨rfl, (hF1.trans hF2 fun k hk _ => hk).trans hF3 fun k hk _ => hk, hA3⟩)
theorem rotR73 (es : List T) (i L : Nat) (hi : i + L ≤ es.length) (hL : 1 < L) (h40 : es.length ≤ 1099511627776) (hsh : ∀ e ∈ es, Sh1 e)
    {S S' : Addr → Option Value} {w : World} {b base cap c' : Nat} (hA : ArrOk S w b base (cap * 1) 1 es) (hsc : Sc es) (hbw : b < w.heap.size) (hcap : es.length ≤ cap) (hnc : L ≤ c') (hoc : i + c' ≤ cap) :
    Calls Try.prog 61 #[.slice (some ⟨b, base + i, none⟩) L c', .int .i64 1] w fun e w' => e = .returned (.tuple #[]) ∧ Fr [b] w w' ∧ ArrOk S' w' b base (cap * 1) 1 (revS (revS (revS es i (L - 1)) (i + (L - 1)) (L - (L - 1))) i L) := by
  have hr := rotL73 es i L hi hL h40 hsh (S' := S') hA hsc hbw hcap hnc hoc
  generalize revS (revS (revS es i (L - 1)) (i + (L - 1)) (L - (L - 1))) i L = es3 at *
  clear hA
  go_enter Try.func61, Try.ntmps61
  go_wp2_with fail
  refine hr.mono fun e w1 ⟨he, hF1, hA1⟩ => ?_
  subst he
  go_wp2_with fail
  all_goals (go_end0; exact ⟨rfl, hF1, hA1⟩)
theorem rotL74 (es : List T) (i L : Nat) (hi : i + L ≤ es.length) (hL : 1 < L) (h40 : es.length ≤ 1099511627776) (hsh : ∀ e ∈ es, Sh5 e)
    {S S' : Addr → Option Value} {w : World} {b base cap c' : Nat} (hA : ArrOk S w b base (cap * 5) 5 es) (hsc : Sc es) (hbw : b < w.heap.size) (hcap : es.length ≤ cap) (hnc : L ≤ c') (hoc : i + c' ≤ cap) :
    Calls Try.prog 74 #[.slice (some ⟨b, base + i * 5, none⟩) L c', .int .i64 ((L : Int) - 1)] w fun e w' => e = .returned (.tuple #[]) ∧ Fr [b] w w' ∧ ArrOk S' w' b base (cap * 5) 5 (revS (revS (revS es i (L - 1)) (i + (L - 1)) (L - (L - 1))) i L) := by
  have hI1 : (0 : Int) ≤ (L : Int) - 1 := by omega
  have hI2 : (L : Int) - 1 ≤ (L : Int) := by omega
  have hI3 : (L : Int) - 1 ≤ (c' : Int) := by omega
  have hI4 : ((L : Int) - 1).toNat = L - 1 := by omega
  go_enter Try.func74, Try.ntmps74
  go_wp2_with fail
  refine (rev80 es i (L - 1) (by omega) h40 (by omega) hsh (S' := S') (c' := c') hA hsc hbw hcap (Nat.le_refl _) (by omega) (by first | rfl | simp) (by omega) (by omega)).mono fun e w1 ⟨he, hF1, hl1, hs1, room1, hr1, hA1⟩ => ?_
  subst he
  replace hA1 := hA1.room (S' := S') hr1 (by omega) hs1
  have hsh1 : ∀ e ∈ revS es i (L - 1), Sh5 e := fun e he => hsh e (revS_mem _ _ _ e he)
  have hbw1 : b < w1.heap.size := Nat.lt_of_lt_of_le hbw hF1.size
  go_wp2_with fail
  have hs21 := rev80 (revS es i (L - 1)) (i + (L - 1)) (L - (L - 1)) (by omega) (by omega) (by omega) hsh1 (S' := S') (c' := c' - (L - 1)) (q := ⟨b, base + i * 5 + (L - 1) * 5, none⟩) hA1 hs1 hbw1 (by omega) (Nat.le_refl _) (by omega) (by first | rfl | (simp only [Addr.mk.injEq, true_and, and_true]; omega)) (by omega) (by omega)
  refine hs21.mono fun e w2 ⟨he, hF2, hl2, hs2, room2, hr2, hA2⟩ => ?_
  clear hs21
  subst he
  replace hA2 := hA2.room (S' := S') hr2 (by omega) hs2
  have hsh2 : ∀ e ∈ revS (revS es i (L - 1)) (i + (L - 1)) (L - (L - 1)), Sh5 e := fun e he => hsh1 e (revS_mem _ _ _ e he)
  have hbw2 : b < w2.heap.size := Nat.lt_of_lt_of_le hbw1 hF2.size
  have hs3 := rev80 (revS (revS es i (L - 1)) (i + (L - 1)) (L - (L - 1))) i L (by omega) (by omega) (by omega) hsh2 (S' := S') (c' := c') (q := ⟨b, base + i * 5, none⟩) hA2 hs2 hbw2 (by omega) (Nat.le_refl _) (by omega) (by first | rfl | (simp only [Addr.mk.injEq, true_and, and_true]; omega)) (by omega) (by omega)
  generalize he2 : revS (revS es i (L - 1)) (i + (L - 1)) (L - (L - 1)) = es2 at *
  generalize he1 : revS es i (L - 1) = es1 at *
  clear hA1 hA2 hsh1 hsh2 hsh hA
  go_wp2_with fail
  refine hs3.mono fun e w3 ⟨he, hF3, hl3, hs3', room3, hr3, hA3⟩ => ?_
  subst he
  replace hA3 := hA3.room (S' := S') hr3 (by omega) hs3'
  clear hs3
  go_wp2_with fail
  all_goals (go_end0; subst he2 he1; exact ⟨rfl, (hF1.trans hF2 fun k hk _ => hk).trans hF3 fun k hk _ => hk, hA3⟩)
theorem rotR74 (es : List T) (i L : Nat) (hi : i + L ≤ es.length) (hL : 1 < L) (h40 : es.length ≤ 1099511627776) (hsh : ∀ e ∈ es, Sh5 e)
    {S S' : Addr → Option Value} {w : World} {b base cap c' : Nat} (hA : ArrOk S w b base (cap * 5) 5 es) (hsc : Sc es) (hbw : b < w.heap.size) (hcap : es.length ≤ cap) (hnc : L ≤ c') (hoc : i + c' ≤ cap) :
    Calls Try.prog 63 #[.slice (some ⟨b, base + i * 5, none⟩) L c', .int .i64 1] w fun e w' => e = .returned (.tuple #[]) ∧ Fr [b] w w' ∧ ArrOk S' w' b base (cap * 5) 5 (revS (revS (revS es i (L - 1)) (i + (L - 1)) (L - (L - 1))) i L) := by
  have hr := rotL74 es i L hi hL h40 hsh (S' := S') hA hsc hbw hcap hnc hoc
  generalize revS (revS (revS es i (L - 1)) (i + (L - 1)) (L - (L - 1))) i L = es3 at *
  clear hA
  go_enter Try.func63, Try.ntmps63
  go_wp2_with fail
  refine hr.mono fun e w1 ⟨he, hF1, hA1⟩ => ?_
  subst he
  go_wp2_with fail
  all_goals (go_end0; exact ⟨rfl, hF1, hA1⟩)
end Go.Proofs.Ytjpcicjkbbbpiaa.M

/- slices.Delete and slices.Insert as contracts: over lists of one's own. No condition. -/
namespace Go.Proofs.Ytjpcicjkbbbpiaa.M
open Go Go.Proofs
set_option maxRecDepth 100000
set_option maxHeartbeats 2000000
set_option linter.unusedSimpArgs false
set_option linter.unusedVariables false
theorem CS_calls' {P : Program} {own : Bool} {f : FuncId} {fn : Func} {c : Code} (hf : P.funcs[f]? = some fn) (hb : fn.body = some c) (hname : (fn.name == "runtime.NumGoroutine") = false) {args : List AA} {rs : List T} {os : List (List BC)}
    (h : ∀ (G : Nat → Prop) (w : World) (vals : List Value) (bs : List Nat), ArgsOk (inV G w) w args vals bs → bs.Nodup → (∀ b ∈ bs, b < w.heap.size ∧ ¬ G b) → (∀ b, G b → b < w.heap.size) →
      Calls P f vals.toArray w fun e w' => ∃ v, e = .returned v ∧ ∃ r1 r2, Fr bs w w' ∧ ResOk own (inV (fun b => G b ∨ (w.heap.size ≤ b ∨ b ∈ bs) ∧ b ∉ r1 ++ r2) w') w' rs v r1 ∧
      OutsOk (inV (fun b => G b ∨ (w.heap.size ≤ b ∨ b ∈ bs) ∧ b ∉ r1 ++ r2) w') w' args vals os r2 ∧ (r1 ++ r2).Nodup ∧ ∀ b ∈ r1 ++ r2, b < w'.heap.size ∧ (b ∈ bs ∨ w.heap.size ≤ b)) : CS P own f args rs os := by
  intro G w vals bs hA hnd hbs hG
  have hname' : ¬ fn.name = "runtime.NumGoroutine" := by simpa using hname
  exact .inl ⟨by simp [callFunc, hf, hname', hb], h G w vals bs hA hnd hbs hG⟩
theorem Fr.mono {bs bs' : List Nat} {w w' : World} (h : Fr bs w w') (hb : ∀ k ∈ bs, k ∈ bs') : Fr bs' w w' := ⟨h.os, h.tape, h.output, h.size, fun k hk hn => h.block k hk fun hh => hn (hb k hh), h.stay, h.unfr⟩
theorem Fr.setCells (w : World) (b o : Nat) (vs : List Value) : Fr [b] w (w.setCells b o vs) :=
  ⟨setCells_os b vs o w, setCells_tape b vs o w, setCells_output b vs o w, Nat.le_of_eq (setCells_size b vs o w).symm, fun k _ hk => setCells_block b (by simpa using hk) vs o w, fun a h => setCells_stay b vs o w a h, fun a _ hf => by rw [World.frozen?_setCells]; exact hf⟩
section
variable {S S' : Addr → Option Value}
theorem HoldL.take {ts : List T} {vs : List Value} (h : HoldL S ts vs) (n : Nat) : HoldL S (ts.take n) (vs.take n) :=
  ⟨by simp [h.1], fun v hv => h.2.1 v (List.mem_of_mem_take hv), fun j t v a b => by
    rw [List.getElem?_take] at a b
    split at a
    · rename_i hj; rw [if_pos hj] at b; exact h.2.2 j t v a b
    · cases a⟩
theorem HoldL.drop {ts : List T} {vs : List Value} (h : HoldL S ts vs) (n : Nat) : HoldL S (ts.drop n) (vs.drop n) :=
  ⟨by simp [h.1], fun v hv => h.2.1 v (List.mem_of_mem_drop hv), fun j t v a b => by
    rw [List.getElem?_drop] at a b
    exact h.2.2 _ t v a b⟩
theorem cells_rest {w : World} {b base : Nat} {vs : List Value} {room : Nat} (hc : ∀ (j : Nat) v, vs[j]? = some v → w.cell? ⟨b, base + j, none⟩ = some v) (hle : vs.length ≤ room) (hr : ∀ j, j < room → (w.cell? ⟨b, base + j, none⟩).isSome = true) :
    ∃ ex : List Value, vs.length + ex.length = room ∧ ∀ (j : Nat) v, (vs ++ ex)[j]? = some v → w.cell? ⟨b, base + j, none⟩ = some v := by
  refine ⟨(List.range (room - vs.length)).map fun k => (w.cell? ⟨b, base + (vs.length + k), none⟩).getD undef, by simp; omega, fun j v hj => ?_⟩
  by_cases h : j < vs.length
  · rw [List.getElem?_append_left h] at hj; exact hc j v hj
  · have hlt := (List.getElem?_eq_some_iff.1 hj).1
    simp at hlt
    have this : j < room := by omega
    rw [List.getElem?_append_right (by omega), List.getElem?_map, List.getElem?_range (by omega)] at hj
    simp only [Option.map_some, Option.some.injEq] at hj
    rw [show vs.length + (j - vs.length) = j by omega] at hj
    obtain ⟨u, hu⟩ := Option.isSome_iff_exists.1 (hr j this)
    rw [hu] at hj ⊢
    exact congrArg some hj
end
theorem rot_one (es : List T) (x : T) (i : Nat) (hi : i < es.length) : revS (revS (revS (es ++ [x]) i (es.length + 1 - i - 1)) (i + (es.length + 1 - i - 1)) (es.length + 1 - i - (es.length + 1 - i - 1))) i (es.length + 1 - i) = es.take i ++ x :: es.drop i := by
  have h0 : (es ++ [x]).length = es.length + 1 := by simp
  have e1 : es.length + 1 - i - 1 = es.length - i := by omega
  have e2 : es.length + 1 - i - (es.length - i) = 1 := by omega
  have e3 : i + (es.length - i) = es.length := by omega
  rw [e1, e2, e3]
  have h1 : (revS (es ++ [x]) i (es.length - i)).length = es.length + 1 := by rw [revS_len _ _ _ (by omega), h0]
  have h2 : (revS (revS (es ++ [x]) i (es.length - i)) es.length 1).length = es.length + 1 := by rw [revS_len _ _ _ (by omega), h1]
  refine List.ext_getElem? fun k => ?_
  rw [revS_get _ _ _ (by omega)]
  by_cases hk : i ≤ k ∧ k < i + (es.length + 1 - i)
  · rw [if_pos hk, revS_get _ _ _ (by omega)]
    by_cases hk2 : k = i
    · subst hk2
      rw [if_pos (by omega), revS_get _ _ _ (by omega), if_neg (by omega)]
      rw [show 2 * es.length + 1 - 1 - (2 * k + (es.length + 1 - k) - 1 - k) = es.length by omega]
      have hl : (es.take k).length = k := by simp; omega
      rw [List.getElem?_append_right (Nat.le_refl _), List.getElem?_append_right (by omega), hl, Nat.sub_self, Nat.sub_self]
      rfl
    · rw [if_neg (by omega), revS_get _ _ _ (by omega), if_pos (by omega), List.getElem?_append_left (by omega), List.getElem?_append_right (by simp; omega)]
      have hl : (es.take i).length = i := by simp; omega
      rw [hl]
      obtain ⟨q, hq⟩ : ∃ q, k - i = q + 1 := ⟨k - i - 1, by omega⟩
      rw [hq, List.getElem?_cons_succ, List.getElem?_drop]
      congr 1
      omega
  · rw [if_neg hk, revS_get _ _ _ (by omega), if_neg (by omega), revS_get _ _ _ (by omega), if_neg (by omega)]
    by_cases hk2 : k < i
    · rw [List.getElem?_append_left (by omega), List.getElem?_append_left (by simp; omega), List.getElem?_take_of_lt hk2]
    · rw [List.getElem?_eq_none (by omega), List.getElem?_eq_none (by simp; omega)]
theorem c58 (es : List T) (i : Nat) (hi : i < es.length) : CS Try.prog true 58 [.mv 1 es, .v (.int .i64 i), .v (.int .i64 ((i : Int) + 1))] [.list 1 (es.eraseIdx i)] [] := by
  refine CS_calls' Try.func58 rfl rfl fun G w vals bs hA hnd hbs hG => ?_
  obtain ⟨v0, _, r0, _, rfl, rfl, h0, v1, _, r1, _, rfl, rfl, ⟨rfl, h1⟩, v2, _, r2, _, rfl, rfl, ⟨rfl, h2⟩, rfl, rfl⟩ := hA
  cases h1; cases h2
  rcases h0 with ⟨_, rfl, _⟩ | ⟨b, base, room, cap, rfl, rfl, hcap, hroom, hsc, vs, hH, hc, hsz, hle, hrm⟩
  · simp at hi
  have hfl := flat_length hsz
  have hvl := hH.1
  obtain ⟨i0, z, hi0, hi1, _, hi3, hi4, _, hi6, _⟩ := (tab_ok 9 _ rfl).info
  have hi1 : i0.size = 1 := hi1
  have hi4 : z.cells.size = 1 := hi4
  have hn1 : (es.length - 1) * 1 + 1 = es.length * 1 := by omega
  refine (del58 b base es.length cap i vs w hi hcap (by omega) hc (fun j hj => (hrm j (by omega)).2) hH.2.1 z (fun w => by simp [zeroValue, typeInfo, hi0, hi3]) hi6 hi4 i0 hi0 hi1).mono fun e w' ⟨he, hw⟩ => ⟨_, he, [b], [], ?_, ?_, ⟨rfl, rfl⟩, by simp, fun q hq => ?_⟩
  · subst hw
    exact ((((Fr.drew w).mono (bs' := [b]) (by simp)).trans (Fr.setCells _ b _ _) fun k hk _ => hk).trans (Fr.setCells _ b _ _) fun k hk _ => hk)
  · have hel : (es.eraseIdx i).length = es.length - 1 := List.length_eraseIdx_of_lt hi
    have hW1 : ∀ (j : Nat) v, (splice vs (i * 1) (vs.drop ((i + 1) * 1)))[j]? = some v → (w.drew.setCells b (base + i * 1) (vs.drop ((i + 1) * 1))).cell? ⟨b, base + j, none⟩ = some v :=
      setCells_splice (w := w.drew) (by simp; omega) hc
    have hs1 : ∀ j, j < room → ((w.drew.setCells b (base + i * 1) (vs.drop ((i + 1) * 1))).cell? ⟨b, base + j, none⟩).isSome = true := fun j hj =>
      setCells_isSome (fun t ht => by
        have := (hrm (i * 1 + t) (by simp at ht; omega)).1
        rw [Nat.add_assoc]; exact this) (hrm j hj).1
    rw [show es.length - 1 = (es.eraseIdx i).length from hel.symm] at hw ⊢
    refine .inr ⟨b, base, room, cap, rfl, rfl, by omega, hroom, ?_, vs.take (i * 1) ++ vs.drop ((i + 1) * 1), ?_, fun j v hj => ?_, ?_, by simp; omega, fun j hj => ?_⟩
    · intro t ht
      rw [List.eraseIdx_eq_take_drop_succ, flat_append] at ht
      refine hsc t ?_
      rcases List.mem_append.1 ht with h | h
      · rw [← flat_take hsz] at h; exact List.mem_of_mem_take h
      · rw [← flat_drop hsz] at h; exact List.mem_of_mem_drop h
    · rw [List.eraseIdx_eq_take_drop_succ, flat_append, ← flat_take hsz, ← flat_drop hsz]
      exact ((hH.scal hsc).take _).append ((hH.scal hsc).drop _)
    · have hjl := (List.getElem?_eq_some_iff.1 hj).1
      simp at hjl
      subst hw
      rw [World.cell?_setCells_out _ _ _ _ _ (fun _ _ => .inl (by simp; omega))]
      refine hW1 j v ?_
      unfold splice
      rw [List.getElem?_append_left (by simp; omega)]
      exact hj
    · intro e he
      rw [List.eraseIdx_eq_take_drop_succ] at he
      rcases List.mem_append.1 he with h | h
      · exact hsz e (List.mem_of_mem_take h)
      · exact hsz e (List.mem_of_mem_drop h)
    · subst hw
      refine ⟨setCells_isSome (fun t ht => ?_) (hs1 j hj), by rw [World.frozen?_setCells, World.frozen?_setCells]; exact (hrm j hj).2⟩
      have : t < 1 := by simpa [hi4] using ht
      rw [Nat.add_assoc]
      exact hs1 _ (by omega)
  · subst hw
    simp only [List.append_nil, List.mem_singleton] at hq
    subst hq
    have := (hbs q (by simp)).1
    exact ⟨by rw [setCells_size, setCells_size]; exact this, .inl (by simp)⟩
theorem c59 (es : List T) (i : Nat) (hi : i < es.length) : CS Try.prog true 59 [.mv 5 es, .v (.int .i64 i), .v (.int .i64 ((i : Int) + 1))] [.list 5 (es.eraseIdx i)] [] := by
  refine CS_calls' Try.func59 rfl rfl fun G w vals bs hA hnd hbs hG => ?_
  obtain ⟨v0, _, r0, _, rfl, rfl, h0, v1, _, r1, _, rfl, rfl, ⟨rfl, h1⟩, v2, _, r2, _, rfl, rfl, ⟨rfl, h2⟩, rfl, rfl⟩ := hA
  cases h1; cases h2
  rcases h0 with ⟨_, rfl, _⟩ | ⟨b, base, room, cap, rfl, rfl, hcap, hroom, hsc, vs, hH, hc, hsz, hle, hrm⟩
  · simp at hi
  have hfl := flat_length hsz
  have hvl := hH.1
  obtain ⟨i0, z, hi0, hi1, _, hi3, hi4, _, hi6, _⟩ := (tab_ok 29 _ rfl).info
  have hi1 : i0.size = 5 := hi1
  have hi4 : z.cells.size = 5 := hi4
  have hn1 : (es.length - 1) * 5 + 5 = es.length * 5 := by omega
  refine (del59 b base es.length cap i vs w hi hcap (by omega) hc (fun j hj => (hrm j (by omega)).2) hH.2.1 z (fun w => by simp [zeroValue, typeInfo, hi0, hi3]) hi6 hi4 i0 hi0 hi1).mono fun e w' ⟨he, hw⟩ => ⟨_, he, [b], [], ?_, ?_, ⟨rfl, rfl⟩, by simp, fun q hq => ?_⟩
  · subst hw
    exact ((((Fr.drew w).mono (bs' := [b]) (by simp)).trans (Fr.setCells _ b _ _) fun k hk _ => hk).trans (Fr.setCells _ b _ _) fun k hk _ => hk)
  · have hel : (es.eraseIdx i).length = es.length - 1 := List.length_eraseIdx_of_lt hi
    have hW1 : ∀ (j : Nat) v, (splice vs (i * 5) (vs.drop ((i + 1) * 5)))[j]? = some v → (w.drew.setCells b (base + i * 5) (vs.drop ((i + 1) * 5))).cell? ⟨b, base + j, none⟩ = some v :=
      setCells_splice (w := w.drew) (by simp; omega) hc
    have hs1 : ∀ j, j < room → ((w.drew.setCells b (base + i * 5) (vs.drop ((i + 1) * 5))).cell? ⟨b, base + j, none⟩).isSome = true := fun j hj =>
      setCells_isSome (fun t ht => by
        have := (hrm (i * 5 + t) (by simp at ht; omega)).1
        rw [Nat.add_assoc]; exact this) (hrm j hj).1
    rw [show es.length - 1 = (es.eraseIdx i).length from hel.symm] at hw ⊢
    refine .inr ⟨b, base, room, cap, rfl, rfl, by omega, hroom, ?_, vs.take (i * 5) ++ vs.drop ((i + 1) * 5), ?_, fun j v hj => ?_, ?_, by simp; omega, fun j hj => ?_⟩
    · intro t ht
      rw [List.eraseIdx_eq_take_drop_succ, flat_append] at ht
      refine hsc t ?_
      rcases List.mem_append.1 ht with h | h
      · rw [← flat_take hsz] at h; exact List.mem_of_mem_take h
      · rw [← flat_drop hsz] at h; exact List.mem_of_mem_drop h
    · rw [List.eraseIdx_eq_take_drop_succ, flat_append, ← flat_take hsz, ← flat_drop hsz]
      exact ((hH.scal hsc).take _).append ((hH.scal hsc).drop _)
    · have hjl := (List.getElem?_eq_some_iff.1 hj).1
      simp at hjl
      subst hw
      rw [World.cell?_setCells_out _ _ _ _ _ (fun _ _ => .inl (by simp; omega))]
      refine hW1 j v ?_
      unfold splice
      rw [List.getElem?_append_left (by simp; omega)]
      exact hj
    · intro e he
      rw [List.eraseIdx_eq_take_drop_succ] at he
      rcases List.mem_append.1 he with h | h
      · exact hsz e (List.mem_of_mem_take h)
      · exact hsz e (List.mem_of_mem_drop h)
    · subst hw
      refine ⟨setCells_isSome (fun t ht => ?_) (hs1 j hj), by rw [World.frozen?_setCells, World.frozen?_setCells]; exact (hrm j hj).2⟩
      have : t < 5 := by simpa [hi4] using ht
      rw [Nat.add_assoc]
      exact hs1 _ (by omega)
  · subst hw
    simp only [List.append_nil, List.mem_singleton] at hq
    subst hq
    have := (hbs q (by simp)).1
    exact ⟨by rw [setCells_size, setCells_size]; exact this, .inl (by simp)⟩
theorem c43end (es : List T) (x : T) (h21 : es.length ≤ 2097152) (hs1 : Sc es) (hs2 : Sc [x]) : CS Try.prog true 43 [.mv 1 es, .v (.int .i64 es.length), .v (.list 1 [x])] [.list 1 (es ++ [x])] [] := by
  refine CS_act tab_ok mdI Try.func43 rfl rfl Try.ntmps43 (rl := [.tmp 6]) rfl (Nat.le_of_ble_eq_true rfl) ?_
  have e1 : (((1 : Nat) : Int) == 0) = false := rfl
  have e2 : (((es.length : Nat) : Int) == (es.length : Nat)) = true := by simp
  simp only [go_sem]
  refine ⟨by omega, by omega, by omega, ?_⟩
  simp only [go_sem, e1, e2]
  have hsc : Sc (es ++ [x]) := fun t ht => by
    rw [flat_append] at ht
    rcases List.mem_append.1 ht with h | h
    · exact hs1 t h
    · exact hs2 t h
  rw [List.take_of_length_le (by simp)]
  exact ⟨by omega, by simp, hsc, rfl⟩
theorem c43 (es : List T) (i : Nat) (x : T) (hi : i ≤ es.length) (h21 : es.length ≤ 2097152) (hs1 : Sc es) (hs2 : Sc [x]) (hsh : ∀ e ∈ es ++ [x], Sh1 e) : CS Try.prog true 43 [.mv 1 es, .v (.int .i64 i), .v (.list 1 [x])] [.list 1 (es.take i ++ x :: es.drop i)] [] := by
  by_cases hi' : i = es.length
  · subst hi'
    rw [List.take_of_length_le (Nat.le_refl _), List.drop_of_length_le (Nat.le_refl _)]
    exact c43end es x h21 hs1 hs2
  have hi : i < es.length := by omega
  clear hi'
  refine CS_calls' Try.func43 rfl rfl fun G w vals bs hA hnd hbs hG => ?_
  obtain ⟨v0, _, r0, _, rfl, rfl, h0, v1, _, r1, _, rfl, rfl, ⟨rfl, h1⟩, v2, _, r2, _, rfl, rfl, ⟨rfl, h2⟩, rfl, rfl⟩ := hA
  cases h1
  rcases h0 with ⟨_, rfl, _⟩ | ⟨b, base, room, cap, rfl, rfl, hcap, hroom, hsc, vs, hH, hc, hsz, hle, hrm⟩
  · simp at hi
  have hfl := flat_length hsz
  have hvl := hH.1
  have hel : (es.take i ++ x :: es.drop i).length = es.length + 1 := by simp; omega
  cases h2 with
  | list _ _ va vn vc us hn hvc hxz hul huv hu1 hux =>
    have hxK : x.cells.length = 1 := hxz x (by simp)
    have hfx : (flat [x]).length = 1 := by simp [flat, hxK]
    have huH : HoldL (inV G w) (flat [x]) us := ⟨hul, hu1, hux⟩
    have hua : ∀ (j : Nat) v, us[j]? = some v → w.cell? (va.add j) = some v := fun j v h => ((inV_some (G := G)).1 (huv j v h)).2
    obtain ⟨u0, hu0⟩ : ∃ u, us[0]? = some u := ⟨_, List.getElem?_eq_getElem (by omega)⟩
    have hG0 : G va.block := by have := ((inV_some (G := G)).1 (huv 0 u0 hu0)).1; exact this
    obtain ⟨vb, voff, vsp⟩ := va
    have hsp : vsp = none := by
      have := hua 0 u0 hu0
      unfold World.cell? at this
      split at this
      · cases hs : vsp with
        | none => rfl
        | some q => simp [Addr.add, hs] at this
      · cases this
    subst hsp
    have hn : vn = 1 := hn
    subst hn
    have hvb : vb ≠ b := fun h => by subst h; exact (hbs vb (by simp)).2 hG0
    have hus : ∀ (j : Nat) v, us[j]? = some v → w.cell? ⟨vb, voff + j, none⟩ = some v := fun j v h => by have := hua j v h; rwa [Addr.add_lit] at this
    obtain ⟨i0, z, hi0, hi1, hib, hi3, hi4, _, hi6, _⟩ := (tab_ok 9 _ rfl).info
    have hi1 : i0.size = 1 := hi1
    have hib : i0.bytes = 16 := hib
    have hi4 : z.cells.size = 1 := hi4
    have hflat : flat (es.take i ++ x :: es.drop i) = (flat es).take (i * 1) ++ (flat [x] ++ (flat es).drop (i * 1)) := by
      rw [show es.take i ++ x :: es.drop i = es.take i ++ ([x] ++ es.drop i) from rfl, flat_append, flat_append, ← flat_take hsz, ← flat_drop hsz]
    have hscN : Sc (es.take i ++ x :: es.drop i) := fun t ht => by
      rw [hflat] at ht
      rcases List.mem_append.1 ht with h | h
      · exact hs1 t (List.mem_of_mem_take h)
      · rcases List.mem_append.1 h with h | h
        · exact hs2 t h
        · exact hs1 t (List.mem_of_mem_drop h)
    have hszN : ∀ e ∈ es.take i ++ x :: es.drop i, e.cells.length = 1 := fun e he => by
      rcases List.mem_append.1 he with h | h
      · exact hsz e (List.mem_of_mem_take h)
      · rcases List.mem_cons.1 h with rfl | h
        · exact hxK
        · exact hsz e (List.mem_of_mem_drop h)
    have hHN : ∀ {S' : Addr → Option Value}, HoldL S' (flat (es.take i ++ x :: es.drop i)) (vs.take (i * 1) ++ (us ++ vs.drop (i * 1))) := fun {S'} => by
      rw [hflat]
      exact ((hH.scal hs1).take _).append ((huH.scal hs2).append ((hH.scal hs1).drop _))
    by_cases hroom2 : cap < es.length + 1
    · -- a new row
      have hgr := grow43 b base es.length cap i vb voff 1 vc vs us w hi (by omega) hcap hroom2 i0 hi0 hi1 (by rw [hib]; omega) (by omega) z hi3 hi4 (by omega) (by omega) hc hus hH.2.1 huH.2.1
      have hG2 : es.length + 1 ≤ grownCap w (es.length + 1) cap 9 := grownCap_ge w _ _ _
      generalize grownCap w (es.length + 1) cap 9 = gc at hgr hG2
      refine hgr.mono fun e w' ⟨he, hw⟩ => ⟨_, he, [w.heap.size], [], ?_, ?_, ⟨rfl, rfl⟩, by simp, fun q hq => ?_⟩
      · subst hw
        exact (((((Fr.alloc w _).trans (Fr.drew _) fun k hk _ => hk).mono (bs' := [b]) (by simp)).trans (Fr.setCells _ w.heap.size _ _) fun k hk hk2 => by simp at hk; omega).trans (Fr.drew _) (by simp)).trans (Fr.setCells _ w.heap.size _ _) fun k hk hk2 => by simp at hk; omega
      · generalize hrow : ((vs.take (i * 1)).toArray ++ Builtin.zeroCells z.cells (es.length + 1 - i) ++ Builtin.zeroCells z.cells (gc - (es.length + 1))) = row at hw
        have hrs : row.size = gc * 1 := by
          rw [← hrow]
          simp only [Array.size_append, List.size_toArray, List.length_take, size_zeroCells, hi4]
          omega
        have hnew := new_row w row 9
        have hrl : row.toList.length = gc * 1 := by simpa using hrs
        have hold : ∀ (j : Nat) v, row.toList[j]? = some v → (w.alloc (.cells row 9)).drew.cell? ⟨w.heap.size, 0 + j, none⟩ = some v := fun j v h => by
          rw [Nat.zero_add]; exact (hnew j v h).1
        have hs1' := setCells_splice (w := (w.alloc (.cells row 9)).drew) (b := w.heap.size) (base := 0) (off := i * 1) (ovs := row.toList) (vs := us) (by omega) hold
        have hpl : ∀ (l : List Value) (o : Nat) (n : List Value), o + n.length ≤ l.length → (splice l o n).length = l.length := fun l o n h => by unfold splice; simp; omega
        have hs2' := setCells_splice (w := ((w.alloc (.cells row 9)).drew.setCells w.heap.size (i * 1) us).drew) (b := w.heap.size) (base := 0) (off := (i + 1) * 1) (ovs := splice row.toList (i * 1) us) (vs := vs.drop (i * 1)) (by rw [hpl _ _ _ (by omega)]; simp; omega) (by simpa using hs1')
        rw [show es.length + 1 = (es.take i ++ x :: es.drop i).length from hel.symm]
        refine .inr ⟨w.heap.size, 0, gc * 1, gc, rfl, rfl, by omega, Nat.le_refl _, hscN, _, hHN, fun j v hj => ?_, hszN, by simp; omega, fun j hj => ?_⟩
        · have hjl := (List.getElem?_eq_some_iff.1 hj).1
          simp at hjl
          subst hw
          have := hs2' j v ?_
          · simpa using this
          rw [splice_get (by rw [hpl _ _ _ (by omega)]; simp; omega), splice_get (by omega)]
          by_cases hj1 : j < i * 1
          · rw [List.getElem?_append_left (by simp; omega)] at hj
            rw [if_pos (by omega), if_pos hj1, ← hrow]
            simp only [Array.toList_append, List.toList_toArray, List.append_assoc]
            rw [List.getElem?_append_left (by simp; omega)]
            exact hj
          · rw [List.getElem?_append_right (by simp; omega)] at hj
            have hl1 : (vs.take (i * 1)).length = i * 1 := by simp; omega
            rw [hl1] at hj
            by_cases hj2 : j < (i + 1) * 1
            · rw [List.getElem?_append_left (by omega)] at hj
              rw [if_pos hj2, if_neg hj1, if_pos (by omega)]
              exact hj
            · rw [List.getElem?_append_right (by omega)] at hj
              rw [if_neg hj2, if_pos (by simp; omega)]
              rw [← hj]; congr 1; omega
        · subst hw
          have hb0 : ∀ t, t < gc * 1 → ((w.alloc (.cells row 9)).drew.cell? ⟨w.heap.size, 0 + t, none⟩).isSome = true := fun t ht => by rw [hold t _ (List.getElem?_eq_getElem (by omega))]; rfl
          have hb1 : ∀ t, t < gc * 1 → (((w.alloc (.cells row 9)).drew.setCells w.heap.size (i * 1) us).cell? ⟨w.heap.size, 0 + t, none⟩).isSome = true := fun t ht =>
            setCells_isSome (fun k hk => by have := hb0 (i * 1 + k) (by omega); rwa [Nat.zero_add] at this) (hb0 t ht)
          refine ⟨setCells_isSome (fun k hk => ?_) (hb1 j hj), ?_⟩
          · have := hb1 ((i + 1) * 1 + k) (by simp at hk; omega)
            rwa [Nat.zero_add] at this
          · rw [World.frozen?_setCells]
            show World.frozen? (World.setCells _ _ _ _) _ = false
            rw [World.frozen?_setCells, Nat.zero_add]
            exact (hnew j _ (List.getElem?_eq_getElem (by omega))).2
      · subst hw
        simp only [List.append_nil, List.mem_singleton] at hq
        subst hq
        refine ⟨?_, .inr (Nat.le_refl _)⟩
        rw [setCells_size]
        show _ < (World.setCells _ _ _ _).heap.size
        rw [setCells_size]
        show _ < (w.alloc _).heap.size
        simp
    · -- in its place
      have hci : (w.cell? ⟨b, base + (i + 1) * 1, none⟩).isSome = true ∧ w.frozen? ⟨b, base + (i + 1) * 1, none⟩ = false := hrm _ (by omega)
      obtain ⟨r, w1, hrun, hw1⟩ := run_overlaps_any w 22 4 9 Try.underlying22 i0 hi0 (by omega) ⟨vb, voff, none⟩ ⟨b, base + (i + 1) * 1, none⟩ 1 vc (es.length + 1 - (i + 1)) 0 (by omega) (by omega) hvb (by have := hus 0 u0 hu0; rw [Nat.add_zero] at this; rw [this]; rfl) hci.1 hci.2
      have hwc : ∀ x, w1.cell? x = w.cell? x := fun x => by rcases hw1 with rfl | rfl <;> rfl
      have hwf : ∀ x, w1.frozen? x = w.frozen? x := fun x => by rcases hw1 with rfl | rfl <;> rfl
      have hF1 : Fr [b] w w1 := by
        rcases hw1 with rfl | rfl
        · exact Fr.refl _ _
        · exact (Fr.drew w).mono (by simp)
      have hov : ∀ lb cb, lb = es.length + 1 - (i + 1) → (callFunc 60 #[.slice (some ⟨vb, voff, none⟩) 1 vc, .slice (some ⟨b, base + (i + 1) * 1, none⟩) lb cb]).run Try.prog w = .ok (.value (.bool r)) w1 := fun lb cb e => by
        subst e
        rw [run_callFunc_extern Try.func60 (by kernel_rfl) (by kernel_rfl) (by kernel_rfl) (e := Extern.SlicesOverlaps.overlaps #[22, 22] #[4]) (by kernel_rfl)]
        have : ∀ cb', (Extern.SlicesOverlaps.overlaps #[22, 22] #[4] #[.slice (some ⟨vb, voff, none⟩) 1 vc, .slice (some ⟨b, base + (i + 1) * 1, none⟩) (es.length + 1 - (i + 1)) cb']) = (Extern.SlicesOverlaps.overlaps #[22, 22] #[4] #[.slice (some ⟨vb, voff, none⟩) 1 vc, .slice (some ⟨b, base + (i + 1) * 1, none⟩) (es.length + 1 - (i + 1)) 0]) := fun _ => rfl
        rw [this, hrun]
        rfl
      have hbw := (hbs b (by simp)).1
      cases r with
      | true =>
        have hls : (es ++ [x]).length = es.length + 1 := by simp
        have hscA : Sc (es ++ [x]) := fun t ht => by
          rw [flat_append] at ht
          rcases List.mem_append.1 ht with h | h
          · exact hs1 t h
          · exact hs2 t h
        obtain ⟨ex, hex, hall⟩ := cells_rest hc (by omega) (fun j hj => (hrm j hj).1)
        have hxl : (vs ++ ex).length = room := by simpa using hex
        have hsp' := setCells_splice (w := w1) (b := b) (base := base) (off := es.length * 1) (ovs := vs ++ ex) (vs := us) (by omega) (fun j v h => by rw [hwc]; exact hall j v h)
        have hA : ArrOk (inV G w) (w1.setCells b (base + es.length * 1) us) b base (cap * 1) 1 (es ++ [x]) := by
          refine ⟨vs ++ us, by rw [flat_append]; exact hH.append huH, fun j v hj => ?_, fun e he => ?_, by simp; omega, fun j hj => ⟨?_, by rw [World.frozen?_setCells, hwf]; exact (hrm j (by omega)).2⟩⟩
          · refine hsp' j v ?_
            rw [splice_get (by omega)]
            have hjl := (List.getElem?_eq_some_iff.1 hj).1
            simp at hjl
            by_cases hj1 : j < es.length * 1
            · rw [if_pos hj1, List.getElem?_append_left (by omega)]
              rw [List.getElem?_append_left (by omega)] at hj
              exact hj
            · rw [if_neg hj1, if_pos (by omega)]
              rw [List.getElem?_append_right (by omega), hvl, hfl] at hj
              exact hj
          · rcases List.mem_append.1 he with h | h
            · exact hsz e h
            · exact hxz e h
          · exact setCells_isSome (fun k hk => by rw [hwc, Nat.add_assoc]; exact (hrm _ (by omega)).1) (by rw [hwc]; exact (hrm j (by omega)).1)
        have hbw1 : b < (w1.setCells b (base + es.length * 1) us).heap.size := by rw [setCells_size]; exact Nat.lt_of_lt_of_le hbw hF1.size
        have hrot := rotR73 (es ++ [x]) i (es.length + 1 - i) (by rw [hls]; omega) (by omega) (by rw [hls]; omega) hsh (S' := fun _ => none) (c' := cap - i) hA hscA hbw1 (by rw [hls]; omega) (by omega) (by omega)
        have hfin : revS (revS (revS (es ++ [x]) i (es.length + 1 - i - 1)) (i + (es.length + 1 - i - 1)) (es.length + 1 - i - (es.length + 1 - i - 1))) i (es.length + 1 - i) = es.take i ++ x :: es.drop i := rot_one es x i hi
        rw [hfin] at hrot
        refine (over43 b base es.length cap i vb voff 1 vc us w hi (by omega) (by omega) (by omega) (by omega) (fun j hj => (hrm j (by omega)).1) (fun j hj => (hrm j (by omega)).2) hus huH.2.1 w1 hwc hwf hov i0 hi0 hi1 _ hrot).mono fun e w' ⟨he, hF2, hA2⟩ => ⟨_, he, [b], [], ?_, ?_, ⟨rfl, rfl⟩, by simp, fun q hq => ?_⟩
        · exact (hF1.trans (Fr.setCells _ b _ _) fun k hk _ => hk).trans hF2 fun k hk _ => hk
        · rw [show es.length + 1 = (es.take i ++ x :: es.drop i).length from hel.symm]
          obtain ⟨k1, k2, k3, k4, k5, k6⟩ := hA2
          exact .inr ⟨b, base, cap * 1, cap, rfl, rfl, by omega, Nat.le_refl _, hscN, k1, k2.scal hscN, k3, k4, k5, k6⟩
        · simp only [List.append_nil, List.mem_singleton] at hq
          subst hq
          exact ⟨Nat.lt_of_lt_of_le hbw1 hF2.size, .inl (by simp)⟩
      | false =>
      have hsh := shift43 b base es.length cap i vb voff 1 vc vs us w hi (by omega) (by omega) (by omega) hvb (by omega) (by omega) hc (fun j hj => (hrm j (by omega)).1) (fun j hj => (hrm j (by omega)).2) w1 hwc hwf hov hus hH.2.1 huH.2.1 i0 hi0 hi1
      obtain ⟨ex, hex, hall⟩ := cells_rest hc (by omega) (fun j hj => (hrm j hj).1)
      refine hsh.mono fun e w' ⟨he, hw⟩ => ⟨_, he, [b], [], ?_, ?_, ⟨rfl, rfl⟩, by simp, fun q hq => ?_⟩
      · subst hw
        exact (((hF1.trans (Fr.drew w1) (by simp)).trans (Fr.setCells _ b _ _) fun k hk _ => hk).trans (Fr.setCells _ b _ _) fun k hk _ => hk)
      · have hpl : ∀ (l : List Value) (o : Nat) (n : List Value), o + n.length ≤ l.length → (splice l o n).length = l.length := fun l o n h => by unfold splice; simp; omega
        have hxl : (vs ++ ex).length = room := by simpa using hex
        have hs1' := setCells_splice (w := w1.drew) (b := b) (base := base) (off := (i + 1) * 1) (ovs := vs ++ ex) (vs := vs.drop (i * 1)) (by simp only [List.length_drop]; omega) (fun j v h => by rw [World.cell?_drew, hwc]; exact hall j v h)
        have hs2' := setCells_splice (w := w1.drew.setCells b (base + (i + 1) * 1) (vs.drop (i * 1))) (b := b) (base := base) (off := i * 1) (ovs := splice (vs ++ ex) ((i + 1) * 1) (vs.drop (i * 1))) (vs := us) (by rw [hpl _ _ _ (by simp only [List.length_drop]; omega)]; omega) hs1'
        rw [show es.length + 1 = (es.take i ++ x :: es.drop i).length from hel.symm]
        refine .inr ⟨b, base, room, cap, rfl, rfl, by omega, hroom, hscN, _, hHN, fun j v hj => ?_, hszN, by simp; omega, fun j hj => ?_⟩
        · have hjl := (List.getElem?_eq_some_iff.1 hj).1
          simp at hjl
          subst hw
          refine hs2' j v ?_
          rw [splice_get (by rw [hpl _ _ _ (by simp only [List.length_drop]; omega)]; omega), splice_get (by simp only [List.length_drop]; omega)]
          by_cases hj1 : j < i * 1
          · rw [List.getElem?_append_left (by simp; omega)] at hj
            rw [if_pos hj1, if_pos (by omega), List.getElem?_append_left (by omega)]
            rw [List.getElem?_take_of_lt hj1] at hj
            exact hj
          · rw [List.getElem?_append_right (by simp; omega)] at hj
            have hl1 : (vs.take (i * 1)).length = i * 1 := by simp; omega
            rw [hl1] at hj
            by_cases hj2 : j < (i + 1) * 1
            · rw [List.getElem?_append_left (by omega)] at hj
              rw [if_neg hj1, if_pos (by omega)]
              exact hj
            · rw [List.getElem?_append_right (by omega)] at hj
              rw [if_neg hj1, if_neg (by omega), if_neg hj2, if_pos (by simp; omega)]
              rw [← hj]; congr 1; omega
        · subst hw
          have hb1 : ∀ t, t < room → ((w1.drew.setCells b (base + (i + 1) * 1) (vs.drop (i * 1))).cell? ⟨b, base + t, none⟩).isSome = true := fun t ht =>
            setCells_isSome (fun k hk => by have := (hrm ((i + 1) * 1 + k) (by simp at hk; omega)).1; rw [Nat.add_assoc, World.cell?_drew, hwc]; exact this) (by rw [World.cell?_drew, hwc]; exact (hrm t ht).1)
          refine ⟨setCells_isSome (fun k hk => ?_) (hb1 j hj), ?_⟩
          · rw [Nat.add_assoc]; exact hb1 (i * 1 + k) (by omega)
          · rw [World.frozen?_setCells, World.frozen?_setCells, World.frozen?_drew, hwf]; exact (hrm j hj).2
      · subst hw
        simp only [List.append_nil, List.mem_singleton] at hq
        subst hq
        exact ⟨by rw [setCells_size, setCells_size]; exact Nat.lt_of_lt_of_le hbw hF1.size, .inl (by simp)⟩
theorem c44end (es : List T) (x : T) (h21 : es.length ≤ 2097152) (hs1 : Sc es) (hs2 : Sc [x]) : CS Try.prog true 44 [.mv 5 es, .v (.int .i64 es.length), .v (.list 5 [x])] [.list 5 (es ++ [x])] [] := by
  refine CS_act tab_ok mdI Try.func44 rfl rfl Try.ntmps44 (rl := [.tmp 6]) rfl (Nat.le_of_ble_eq_true rfl) ?_
  have e1 : (((1 : Nat) : Int) == 0) = false := rfl
  have e2 : (((es.length : Nat) : Int) == (es.length : Nat)) = true := by simp
  simp only [go_sem]
  refine ⟨by omega, by omega, by omega, ?_⟩
  simp only [go_sem, e1, e2]
  have hsc : Sc (es ++ [x]) := fun t ht => by
    rw [flat_append] at ht
    rcases List.mem_append.1 ht with h | h
    · exact hs1 t h
    · exact hs2 t h
  rw [List.take_of_length_le (by simp)]
  exact ⟨by omega, by simp, hsc, rfl⟩
theorem c44 (es : List T) (i : Nat) (x : T) (hi : i ≤ es.length) (h21 : es.length ≤ 2097152) (hs1 : Sc es) (hs2 : Sc [x]) (hsh : ∀ e ∈ es ++ [x], Sh5 e) : CS Try.prog true 44 [.mv 5 es, .v (.int .i64 i), .v (.list 5 [x])] [.list 5 (es.take i ++ x :: es.drop i)] [] := by
  by_cases hi' : i = es.length
  · subst hi'
    rw [List.take_of_length_le (Nat.le_refl _), List.drop_of_length_le (Nat.le_refl _)]
    exact c44end es x h21 hs1 hs2
  have hi : i < es.length := by omega
  clear hi'
  refine CS_calls' Try.func44 rfl rfl fun G w vals bs hA hnd hbs hG => ?_
  obtain ⟨v0, _, r0, _, rfl, rfl, h0, v1, _, r1, _, rfl, rfl, ⟨rfl, h1⟩, v2, _, r2, _, rfl, rfl, ⟨rfl, h2⟩, rfl, rfl⟩ := hA
  cases h1
  rcases h0 with ⟨_, rfl, _⟩ | ⟨b, base, room, cap, rfl, rfl, hcap, hroom, hsc, vs, hH, hc, hsz, hle, hrm⟩
  · simp at hi
  have hfl := flat_length hsz
  have hvl := hH.1
  have hel : (es.take i ++ x :: es.drop i).length = es.length + 1 := by simp; omega
  cases h2 with
  | list _ _ va vn vc us hn hvc hxz hul huv hu1 hux =>
    have hxK : x.cells.length = 5 := hxz x (by simp)
    have hfx : (flat [x]).length = 5 := by simp [flat, hxK]
    have huH : HoldL (inV G w) (flat [x]) us := ⟨hul, hu1, hux⟩
    have hua : ∀ (j : Nat) v, us[j]? = some v → w.cell? (va.add j) = some v := fun j v h => ((inV_some (G := G)).1 (huv j v h)).2
    obtain ⟨u0, hu0⟩ : ∃ u, us[0]? = some u := ⟨_, List.getElem?_eq_getElem (by omega)⟩
    have hG0 : G va.block := by have := ((inV_some (G := G)).1 (huv 0 u0 hu0)).1; exact this
    obtain ⟨vb, voff, vsp⟩ := va
    have hsp : vsp = none := by
      have := hua 0 u0 hu0
      unfold World.cell? at this
      split at this
      · cases hs : vsp with
        | none => rfl
        | some q => simp [Addr.add, hs] at this
      · cases this
    subst hsp
    have hn : vn = 1 := hn
    subst hn
    have hvb : vb ≠ b := fun h => by subst h; exact (hbs vb (by simp)).2 hG0
    have hus : ∀ (j : Nat) v, us[j]? = some v → w.cell? ⟨vb, voff + j, none⟩ = some v := fun j v h => by have := hua j v h; rwa [Addr.add_lit] at this
    obtain ⟨i0, z, hi0, hi1, hib, hi3, hi4, _, hi6, _⟩ := (tab_ok 29 _ rfl).info
    have hi1 : i0.size = 5 := hi1
    have hib : i0.bytes = 80 := hib
    have hi4 : z.cells.size = 5 := hi4
    have hflat : flat (es.take i ++ x :: es.drop i) = (flat es).take (i * 5) ++ (flat [x] ++ (flat es).drop (i * 5)) := by
      rw [show es.take i ++ x :: es.drop i = es.take i ++ ([x] ++ es.drop i) from rfl, flat_append, flat_append, ← flat_take hsz, ← flat_drop hsz]
    have hscN : Sc (es.take i ++ x :: es.drop i) := fun t ht => by
      rw [hflat] at ht
      rcases List.mem_append.1 ht with h | h
      · exact hs1 t (List.mem_of_mem_take h)
      · rcases List.mem_append.1 h with h | h
        · exact hs2 t h
        · exact hs1 t (List.mem_of_mem_drop h)
    have hszN : ∀ e ∈ es.take i ++ x :: es.drop i, e.cells.length = 5 := fun e he => by
      rcases List.mem_append.1 he with h | h
      · exact hsz e (List.mem_of_mem_take h)
      · rcases List.mem_cons.1 h with rfl | h
        · exact hxK
        · exact hsz e (List.mem_of_mem_drop h)
    have hHN : ∀ {S' : Addr → Option Value}, HoldL S' (flat (es.take i ++ x :: es.drop i)) (vs.take (i * 5) ++ (us ++ vs.drop (i * 5))) := fun {S'} => by
      rw [hflat]
      exact ((hH.scal hs1).take _).append ((huH.scal hs2).append ((hH.scal hs1).drop _))
    by_cases hroom2 : cap < es.length + 1
    · -- a new row
      have hgr := grow44 b base es.length cap i vb voff 1 vc vs us w hi (by omega) hcap hroom2 i0 hi0 hi1 (by rw [hib]; omega) (by omega) z hi3 hi4 (by omega) (by omega) hc hus hH.2.1 huH.2.1
      have hG2 : es.length + 1 ≤ grownCap w (es.length + 1) cap 29 := grownCap_ge w _ _ _
      generalize grownCap w (es.length + 1) cap 29 = gc at hgr hG2
      refine hgr.mono fun e w' ⟨he, hw⟩ => ⟨_, he, [w.heap.size], [], ?_, ?_, ⟨rfl, rfl⟩, by simp, fun q hq => ?_⟩
      · subst hw
        exact (((((Fr.alloc w _).trans (Fr.drew _) fun k hk _ => hk).mono (bs' := [b]) (by simp)).trans (Fr.setCells _ w.heap.size _ _) fun k hk hk2 => by simp at hk; omega).trans (Fr.drew _) (by simp)).trans (Fr.setCells _ w.heap.size _ _) fun k hk hk2 => by simp at hk; omega
      · generalize hrow : ((vs.take (i * 5)).toArray ++ Builtin.zeroCells z.cells (es.length + 1 - i) ++ Builtin.zeroCells z.cells (gc - (es.length + 1))) = row at hw
        have hrs : row.size = gc * 5 := by
          rw [← hrow]
          simp only [Array.size_append, List.size_toArray, List.length_take, size_zeroCells, hi4]
          omega
        have hnew := new_row w row 29
        have hrl : row.toList.length = gc * 5 := by simpa using hrs
        have hold : ∀ (j : Nat) v, row.toList[j]? = some v → (w.alloc (.cells row 29)).drew.cell? ⟨w.heap.size, 0 + j, none⟩ = some v := fun j v h => by
          rw [Nat.zero_add]; exact (hnew j v h).1
        have hs1' := setCells_splice (w := (w.alloc (.cells row 29)).drew) (b := w.heap.size) (base := 0) (off := i * 5) (ovs := row.toList) (vs := us) (by omega) hold
        have hpl : ∀ (l : List Value) (o : Nat) (n : List Value), o + n.length ≤ l.length → (splice l o n).length = l.length := fun l o n h => by unfold splice; simp; omega
        have hs2' := setCells_splice (w := ((w.alloc (.cells row 29)).drew.setCells w.heap.size (i * 5) us).drew) (b := w.heap.size) (base := 0) (off := (i + 1) * 5) (ovs := splice row.toList (i * 5) us) (vs := vs.drop (i * 5)) (by rw [hpl _ _ _ (by omega)]; simp; omega) (by simpa using hs1')
        rw [show es.length + 1 = (es.take i ++ x :: es.drop i).length from hel.symm]
        refine .inr ⟨w.heap.size, 0, gc * 5, gc, rfl, rfl, by omega, Nat.le_refl _, hscN, _, hHN, fun j v hj => ?_, hszN, by simp; omega, fun j hj => ?_⟩
        · have hjl := (List.getElem?_eq_some_iff.1 hj).1
          simp at hjl
          subst hw
          have := hs2' j v ?_
          · simpa using this
          rw [splice_get (by rw [hpl _ _ _ (by omega)]; simp; omega), splice_get (by omega)]
          by_cases hj1 : j < i * 5
          · rw [List.getElem?_append_left (by simp; omega)] at hj
            rw [if_pos (by omega), if_pos hj1, ← hrow]
            simp only [Array.toList_append, List.toList_toArray, List.append_assoc]
            rw [List.getElem?_append_left (by simp; omega)]
            exact hj
          · rw [List.getElem?_append_right (by simp; omega)] at hj
            have hl1 : (vs.take (i * 5)).length = i * 5 := by simp; omega
            rw [hl1] at hj
            by_cases hj2 : j < (i + 1) * 5
            · rw [List.getElem?_append_left (by omega)] at hj
              rw [if_pos hj2, if_neg hj1, if_pos (by omega)]
              exact hj
            · rw [List.getElem?_append_right (by omega)] at hj
              rw [if_neg hj2, if_pos (by simp; omega)]
              rw [← hj]; congr 1; omega
        · subst hw
          have hb0 : ∀ t, t < gc * 5 → ((w.alloc (.cells row 29)).drew.cell? ⟨w.heap.size, 0 + t, none⟩).isSome = true := fun t ht => by rw [hold t _ (List.getElem?_eq_getElem (by omega))]; rfl
          have hb1 : ∀ t, t < gc * 5 → (((w.alloc (.cells row 29)).drew.setCells w.heap.size (i * 5) us).cell? ⟨w.heap.size, 0 + t, none⟩).isSome = true := fun t ht =>
            setCells_isSome (fun k hk => by have := hb0 (i * 5 + k) (by omega); rwa [Nat.zero_add] at this) (hb0 t ht)
          refine ⟨setCells_isSome (fun k hk => ?_) (hb1 j hj), ?_⟩
          · have := hb1 ((i + 1) * 5 + k) (by simp at hk; omega)
            rwa [Nat.zero_add] at this
          · rw [World.frozen?_setCells]
            show World.frozen? (World.setCells _ _ _ _) _ = false
            rw [World.frozen?_setCells, Nat.zero_add]
            exact (hnew j _ (List.getElem?_eq_getElem (by omega))).2
      · subst hw
        simp only [List.append_nil, List.mem_singleton] at hq
        subst hq
        refine ⟨?_, .inr (Nat.le_refl _)⟩
        rw [setCells_size]
        show _ < (World.setCells _ _ _ _).heap.size
        rw [setCells_size]
        show _ < (w.alloc _).heap.size
        simp
    · -- in its place
      have hci : (w.cell? ⟨b, base + (i + 1) * 5, none⟩).isSome = true ∧ w.frozen? ⟨b, base + (i + 1) * 5, none⟩ = false := hrm _ (by omega)
      obtain ⟨r, w1, hrun, hw1⟩ := run_overlaps_any w 27 4 29 Try.underlying27 i0 hi0 (by omega) ⟨vb, voff, none⟩ ⟨b, base + (i + 1) * 5, none⟩ 1 vc (es.length + 1 - (i + 1)) 0 (by omega) (by omega) hvb (by have := hus 0 u0 hu0; rw [Nat.add_zero] at this; rw [this]; rfl) hci.1 hci.2
      have hwc : ∀ x, w1.cell? x = w.cell? x := fun x => by rcases hw1 with rfl | rfl <;> rfl
      have hwf : ∀ x, w1.frozen? x = w.frozen? x := fun x => by rcases hw1 with rfl | rfl <;> rfl
      have hF1 : Fr [b] w w1 := by
        rcases hw1 with rfl | rfl
        · exact Fr.refl _ _
        · exact (Fr.drew w).mono (by simp)
      have hov : ∀ lb cb, lb = es.length + 1 - (i + 1) → (callFunc 62 #[.slice (some ⟨vb, voff, none⟩) 1 vc, .slice (some ⟨b, base + (i + 1) * 5, none⟩) lb cb]).run Try.prog w = .ok (.value (.bool r)) w1 := fun lb cb e => by
        subst e
        rw [run_callFunc_extern Try.func62 (by kernel_rfl) (by kernel_rfl) (by kernel_rfl) (e := Extern.SlicesOverlaps.overlaps #[27, 27] #[4]) (by kernel_rfl)]
        have : ∀ cb', (Extern.SlicesOverlaps.overlaps #[27, 27] #[4] #[.slice (some ⟨vb, voff, none⟩) 1 vc, .slice (some ⟨b, base + (i + 1) * 5, none⟩) (es.length + 1 - (i + 1)) cb']) = (Extern.SlicesOverlaps.overlaps #[27, 27] #[4] #[.slice (some ⟨vb, voff, none⟩) 1 vc, .slice (some ⟨b, base + (i + 1) * 5, none⟩) (es.length + 1 - (i + 1)) 0]) := fun _ => rfl
        rw [this, hrun]
        rfl
      have hbw := (hbs b (by simp)).1
      cases r with
      | true =>
        have hls : (es ++ [x]).length = es.length + 1 := by simp
        have hscA : Sc (es ++ [x]) := fun t ht => by
          rw [flat_append] at ht
          rcases List.mem_append.1 ht with h | h
          · exact hs1 t h
          · exact hs2 t h
        obtain ⟨ex, hex, hall⟩ := cells_rest hc (by omega) (fun j hj => (hrm j hj).1)
        have hxl : (vs ++ ex).length = room := by simpa using hex
        have hsp' := setCells_splice (w := w1) (b := b) (base := base) (off := es.length * 5) (ovs := vs ++ ex) (vs := us) (by omega) (fun j v h => by rw [hwc]; exact hall j v h)
        have hA : ArrOk (inV G w) (w1.setCells b (base + es.length * 5) us) b base (cap * 5) 5 (es ++ [x]) := by
          refine ⟨vs ++ us, by rw [flat_append]; exact hH.append huH, fun j v hj => ?_, fun e he => ?_, by simp; omega, fun j hj => ⟨?_, by rw [World.frozen?_setCells, hwf]; exact (hrm j (by omega)).2⟩⟩
          · refine hsp' j v ?_
            rw [splice_get (by omega)]
            have hjl := (List.getElem?_eq_some_iff.1 hj).1
            simp at hjl
            by_cases hj1 : j < es.length * 5
            · rw [if_pos hj1, List.getElem?_append_left (by omega)]
              rw [List.getElem?_append_left (by omega)] at hj
              exact hj
            · rw [if_neg hj1, if_pos (by omega)]
              rw [List.getElem?_append_right (by omega), hvl, hfl] at hj
              exact hj
          · rcases List.mem_append.1 he with h | h
            · exact hsz e h
            · exact hxz e h
          · exact setCells_isSome (fun k hk => by rw [hwc, Nat.add_assoc]; exact (hrm _ (by omega)).1) (by rw [hwc]; exact (hrm j (by omega)).1)
        have hbw1 : b < (w1.setCells b (base + es.length * 5) us).heap.size := by rw [setCells_size]; exact Nat.lt_of_lt_of_le hbw hF1.size
        have hrot := rotR74 (es ++ [x]) i (es.length + 1 - i) (by rw [hls]; omega) (by omega) (by rw [hls]; omega) hsh (S' := fun _ => none) (c' := cap - i) hA hscA hbw1 (by rw [hls]; omega) (by omega) (by omega)
        have hfin : revS (revS (revS (es ++ [x]) i (es.length + 1 - i - 1)) (i + (es.length + 1 - i - 1)) (es.length + 1 - i - (es.length + 1 - i - 1))) i (es.length + 1 - i) = es.take i ++ x :: es.drop i := rot_one es x i hi
        rw [hfin] at hrot
        refine (over44 b base es.length cap i vb voff 1 vc us w hi (by omega) (by omega) (by omega) (by omega) (fun j hj => (hrm j (by omega)).1) (fun j hj => (hrm j (by omega)).2) hus huH.2.1 w1 hwc hwf hov i0 hi0 hi1 _ hrot).mono fun e w' ⟨he, hF2, hA2⟩ => ⟨_, he, [b], [], ?_, ?_, ⟨rfl, rfl⟩, by simp, fun q hq => ?_⟩
        · exact (hF1.trans (Fr.setCells _ b _ _) fun k hk _ => hk).trans hF2 fun k hk _ => hk
        · rw [show es.length + 1 = (es.take i ++ x :: es.drop i).length from hel.symm]
          obtain ⟨k1, k2, k3, k4, k5, k6⟩ := hA2
          exact .inr ⟨b, base, cap * 5, cap, rfl, rfl, by omega, Nat.le_refl _, hscN, k1, k2.scal hscN, k3, k4, k5, k6⟩
        · simp only [List.append_nil, List.mem_singleton] at hq
          subst hq
          exact ⟨Nat.lt_of_lt_of_le hbw1 hF2.size, .inl (by simp)⟩
      | false =>
      have hsh := shift44 b base es.length cap i vb voff 1 vc vs us w hi (by omega) (by omega) (by omega) hvb (by omega) (by omega) hc (fun j hj => (hrm j (by omega)).1) (fun j hj => (hrm j (by omega)).2) w1 hwc hwf hov hus hH.2.1 huH.2.1 i0 hi0 hi1
      obtain ⟨ex, hex, hall⟩ := cells_rest hc (by omega) (fun j hj => (hrm j hj).1)
      refine hsh.mono fun e w' ⟨he, hw⟩ => ⟨_, he, [b], [], ?_, ?_, ⟨rfl, rfl⟩, by simp, fun q hq => ?_⟩
      · subst hw
        exact (((hF1.trans (Fr.drew w1) (by simp)).trans (Fr.setCells _ b _ _) fun k hk _ => hk).trans (Fr.setCells _ b _ _) fun k hk _ => hk)
      · have hpl : ∀ (l : List Value) (o : Nat) (n : List Value), o + n.length ≤ l.length → (splice l o n).length = l.length := fun l o n h => by unfold splice; simp; omega
        have hxl : (vs ++ ex).length = room := by simpa using hex
        have hs1' := setCells_splice (w := w1.drew) (b := b) (base := base) (off := (i + 1) * 5) (ovs := vs ++ ex) (vs := vs.drop (i * 5)) (by simp only [List.length_drop]; omega) (fun j v h => by rw [World.cell?_drew, hwc]; exact hall j v h)
        have hs2' := setCells_splice (w := w1.drew.setCells b (base + (i + 1) * 5) (vs.drop (i * 5))) (b := b) (base := base) (off := i * 5) (ovs := splice (vs ++ ex) ((i + 1) * 5) (vs.drop (i * 5))) (vs := us) (by rw [hpl _ _ _ (by simp only [List.length_drop]; omega)]; omega) hs1'
        rw [show es.length + 1 = (es.take i ++ x :: es.drop i).length from hel.symm]
        refine .inr ⟨b, base, room, cap, rfl, rfl, by omega, hroom, hscN, _, hHN, fun j v hj => ?_, hszN, by simp; omega, fun j hj => ?_⟩
        · have hjl := (List.getElem?_eq_some_iff.1 hj).1
          simp at hjl
          subst hw
          refine hs2' j v ?_
          rw [splice_get (by rw [hpl _ _ _ (by simp only [List.length_drop]; omega)]; omega), splice_get (by simp only [List.length_drop]; omega)]
          by_cases hj1 : j < i * 5
          · rw [List.getElem?_append_left (by simp; omega)] at hj
            rw [if_pos hj1, if_pos (by omega), List.getElem?_append_left (by omega)]
            rw [List.getElem?_take_of_lt hj1] at hj
            exact hj
          · rw [List.getElem?_append_right (by simp; omega)] at hj
            have hl1 : (vs.take (i * 5)).length = i * 5 := by simp; omega
            rw [hl1] at hj
            by_cases hj2 : j < (i + 1) * 5
            · rw [List.getElem?_append_left (by omega)] at hj
              rw [if_neg hj1, if_pos (by omega)]
              exact hj
            · rw [List.getElem?_append_right (by omega)] at hj
              rw [if_neg hj1, if_neg (by omega), if_neg hj2, if_pos (by simp; omega)]
              rw [← hj]; congr 1; omega
        · subst hw
          have hb1 : ∀ t, t < room → ((w1.drew.setCells b (base + (i + 1) * 5) (vs.drop (i * 5))).cell? ⟨b, base + t, none⟩).isSome = true := fun t ht =>
            setCells_isSome (fun k hk => by have := (hrm ((i + 1) * 5 + k) (by simp at hk; omega)).1; rw [Nat.add_assoc, World.cell?_drew, hwc]; exact this) (by rw [World.cell?_drew, hwc]; exact (hrm t ht).1)
          refine ⟨setCells_isSome (fun k hk => ?_) (hb1 j hj), ?_⟩
          · rw [Nat.add_assoc]; exact hb1 (i * 5 + k) (by omega)
          · rw [World.frozen?_setCells, World.frozen?_setCells, World.frozen?_drew, hwf]; exact (hrm j hj).2
      · subst hw
        simp only [List.append_nil, List.mem_singleton] at hq
        subst hq
        exact ⟨by rw [setCells_size, setCells_size]; exact Nat.lt_of_lt_of_le hbw hF1.size, .inl (by simp)⟩
end Go.Proofs.Ytjpcicjkbbbpiaa.M

/- Contracts for WithEntry, part 1: withoutEntry. No condition. -/
namespace Go.Proofs.Ytjpcicjkbbbpiaa.M
open Go Go.Proofs
set_option maxRecDepth 100000
set_option maxHeartbeats 2000000
set_option linter.unusedSimpArgs false
set_option linter.unusedVariables false
@[go_sem] def mdW : Nat → Md := fun f => if f == 58 || f == 59 || f == 43 || f == 44 then ⟨true, [0]⟩ else if f == 28 then ⟨true, []⟩ else ⟨false, []⟩
/-- A tree without a key. -/
def delO (k n : Int) (s : ByteArray) (ks : List ByteArray) (kids : List Ob) (key : ByteArray) : Ob :=
  if keyAt ks key < 0 then .mk k n s ks kids else .mk k n s (ks.eraseIdx (keyAt ks key).toNat) (kids.eraseIdx (keyAt ks key).toNat)
theorem obRs_cells : ∀ {l : List Ob} {ps : List (Sl × Sl)}, ∀ e ∈ obRs l ps, e.cells.length = 5
  | [], ps, e, he => by simp [obRs] at he
  | o :: r, [], e, he => by simp [obRs] at he
  | o :: r, p :: ps, e, he => by
    rcases List.mem_cons.1 he with rfl | he
    · exact obR_cells o _ _
    · exact obRs_cells e he
theorem obRs_erase : ∀ {l : List Ob} {ps : List (Sl × Sl)} {i : Nat}, ps.length = l.length → (obRs l ps).eraseIdx i = obRs (l.eraseIdx i) (ps.eraseIdx i)
  | [], [], i, _ => by simp [obRs]
  | o :: r, p :: ps, 0, _ => by simp [obRs]
  | o :: r, p :: ps, i + 1, h => by simp [obRs, obRs_erase (l := r) (ps := ps) (i := i) (by simpa using h)]
theorem obDs_erase : ∀ {l : List Ob} {ps : List (Sl × Sl)} {i : Nat}, ps.length = l.length → ∃ rest, (obDs l ps).Perm (obDs (l.eraseIdx i) (ps.eraseIdx i) ++ rest)
  | [], [], i, _ => ⟨[], by simp [obDs]⟩
  | o :: r, p :: ps, 0, _ => ⟨obD o p.1 p.2, by simp only [obDs, List.eraseIdx_cons_zero]; exact List.perm_append_comm⟩
  | o :: r, p :: ps, i + 1, h => by
    obtain ⟨rest, hr⟩ := obDs_erase (l := r) (ps := ps) (i := i) (by simpa using h)
    exact ⟨rest, by simp only [obDs, List.eraseIdx_cons_succ, List.append_assoc]; exact hr.append_left _⟩
theorem map_erase {α β : Type} (f : α → β) : ∀ (l : List α) (i : Nat), (l.map f).eraseIdx i = (l.eraseIdx i).map f
  | [], i => by simp
  | x :: r, 0 => by simp
  | x :: r, i + 1 => by simp [map_erase f r i]
theorem RA_own (k n : Int) (s : ByteArray) (ks : List ByteArray) (l : List Ob) {ps : List (Sl × Sl)} (h : ps.length = l.length) : RA (.agg [.int .i64 k, .int .i64 n, .str s, .list 1 (ks.map T.str), .list 5 (obRs l ps)]) (Ob.mk k n s ks l).t (obDs l ps) := by
  rw [Ob.t_mk]
  exact ⟨_, rfl, _, _, [], _, rfl, rfl, ⟨rfl, rfl, rfl⟩, _, _, [], _, rfl, rfl, ⟨rfl, rfl, rfl⟩, _, _, [], _, rfl, rfl, ⟨rfl, rfl, rfl⟩, _, _, [], _, rfl, rfl, RT_strs ks, _, _, _, [], rfl, (List.append_nil _).symm, RT_obs h, rfl, rfl⟩
theorem RAL_one {x t : T} {d : De} (h : RA x t d) : RAL [x] [t] d := ⟨_, _, _, [], rfl, (List.append_nil _).symm, h, rfl, rfl⟩
theorem d42 (k n : Int) (s : ByteArray) (ks : List ByteArray) (kids : List Ob) (key : ByteArray) (hS : Sm (.mk k n s ks kids)) (hl : ks.length = kids.length) :
    CSD Try.prog 42 [.b (.v (Ob.mk k n s ks kids).t), .b (.v (.str key))] [(delO k n s ks kids key).t] [] := by
  obtain ⟨h1, h2⟩ : ks.length ≤ 1048576 ∧ kids.length ≤ 1048576 := by cases hS; exact ⟨by assumption, by assumption⟩
  have hc := d31' _ hS
  have hi := CSD_scal rfl (oc57 ks key h1)
  have ha := firstF_cases (keyP ks key) ks.length
  unfold delO
  unfold keyAt at *
  generalize firstF (keyP ks key) ks.length = z at hi ha ⊢
  unfold D31 at hc
  rw [Ob.t_mk k n s ks kids]
  refine CSD_views (xs := [.v (.agg [.int .i64 k, .int .i64 n, .str s, .list 1 (ks.map T.str), .list 5 (kids.map Ob.t)]), .v (.str key)]) tab_ok Try.func42 rfl rfl Try.ntmps42 (rl := [.cell 4 29]) rfl (Nat.le_of_ble_eq_true rfl) ?_
  refine WWD_seqB tab_ok mdW ?_
  simp only [go_sem]
  refine WWD_seq ?_
  refine WWD_region tab_ok mdW 1 rfl rfl rfl ?_
  simp only [go_sem]
  refine ⟨_, _, [], [], _, hc, ⟨_, _, _, rfl, rfl, RdA_obv _ _ _ _ _ _ _, rfl, rfl, rfl⟩, .refl _, ?_⟩
  rintro _ _ ⟨_, rfl, hra⟩
  obtain ⟨y, z', rfl, rfl⟩ := RAr_ob hra
  unfold restD obR obD
  simp only [go_sem]
  refine WWD_seq ?_
  refine WWD_region tab_ok mdW 3 rfl rfl rfl ?_
  simp only [go_sem]
  refine ⟨_, _, [], [], _, hi, ⟨_, _, _, rfl, rfl, .inl ⟨y, rfl, by simp⟩, _, _, _, rfl, rfl, .inr rfl, rfl, rfl, rfl⟩, .refl _, ?_⟩
  rintro _ _ ⟨_, rfl, rfl, _, rfl⟩
  unfold restD
  simp only [go_sem]
  refine WWD_seq ?_
  refine WWD_seqB tab_ok mdW ?_
  simp only [go_sem]
  refine WWD_cond tab_ok (q := decide (z ≥ 0)) (by simp only [go_sem]) (fun g => ?_) (fun g => ?_) <;> simp only [decide_eq_true_eq, decide_eq_false_iff_not] at g
  · obtain ⟨i, hil, rfl, _⟩ : ∃ i : Nat, i < ks.length ∧ z = i ∧ True := by
      rcases ha with ⟨rfl, _⟩ | ⟨i, h3, h4, _⟩
      · omega
      · exact ⟨i, h3, h4, trivial⟩
    refine WWD_openbox (K := 900) (b := 64) (j := 3) (.refl _) rfl rfl (Nat.le_of_ble_eq_true rfl) (fun _ : Unit => ks.map T.str) (fun _ => []) (fun xs d h => ?_) fun _ => ?_
    · rw [flat_strs] at h
      obtain ⟨h3, h4⟩ := RCrL_strs h
      exact ⟨(), by rw [flat_strs]; exact h3, h4.symm, rfl, fun e he => by obtain ⟨s, _, rfl⟩ := List.mem_map.1 he; rfl⟩
    simp only [go_sem]
    refine WWD_openbox (K := 901) (b := 64) (j := 4) (.refl _) rfl rfl (Nat.le_of_ble_eq_true rfl) (fun ps : {ps : List (Sl × Sl) // ps.length = kids.length} => obRs kids ps.1) (fun ps => obDs kids ps.1) (fun xs d h => ?_) fun ps => ?_
    · obtain ⟨ps, h3, h4, h5⟩ := RCrL_obs h
      exact ⟨⟨ps, h3⟩, h4, h5, by rw [obRs_len h3, List.length_map], fun e he => obRs_cells e he⟩
    obtain ⟨ps, hps⟩ := ps
    simp only [go_sem, List.length_map]
    refine WWD_act tab_ok mdW ?_
    simp only [go_sem]
    refine act_draw_of tab_ok mix mdW ?_
    simp only [go_sem, List.length_map, obRs_len hps]
    have w1 : IntKind.i64.wrap ((i : Int) + 1) = (i : Int) + 1 := wrap64O (by omega) (by omega)
    have hl1 : (ks.map T.str).length = ks.length := List.length_map ..
    have hl2 := obRs_len hps
    refine ⟨sc_strs ks, ?_⟩
    rw [w1]
    refine act_callE (c58 (ks.map T.str) i (by omega)) ?_
    simp only [go_sem, hl2, w1]
    refine ⟨sc_obRs hps, ?_⟩
    refine act_callE (c59 (obRs kids ps) i (by omega)) ?_
    simp only [go_sem]
    refine ⟨drawOk_of (by kernel_rfl), ?_⟩
    obtain ⟨rest, hrest⟩ := obDs_erase (i := i) hps
    have hpe : (ps.eraseIdx i).length = (kids.eraseIdx i).length := by rw [List.length_eraseIdx_of_lt (by omega), List.length_eraseIdx_of_lt (by omega), hps]
    rw [map_erase, obRs_erase hps, if_neg (by omega)]
    refine WWD_seqB tab_ok mdW ?_
    simp only [go_sem]
    refine WWD_act tab_ok mdW ?_
    simp only [go_sem]
    refine ⟨[.agg [.int .i64 k, .int .i64 n, .str s, .list 1 ((ks.eraseIdx i).map T.str), .list 5 (obRs (kids.eraseIdx i) (ps.eraseIdx i))]], [], ?_, rfl, obDs (kids.eraseIdx i) (ps.eraseIdx i), rest, RAL_one (RA_own _ _ _ _ _ hpe), by simpa using hrest⟩
    simp only [go_sem]
    rw [List.take_of_length_le (Nat.le_refl _), List.take_of_length_le (Nat.le_refl _)]
    exact ⟨Nat.le_refl _, sc_strs _, Nat.le_refl _, sc_obRs hpe, rfl⟩
  · rw [if_pos (by omega)]
    refine WWD_act tab_ok mdW ?_
    simp only [go_sem]
    refine WWD_seqB tab_ok mdW ?_
    simp only [go_sem]
    refine WWD_act tab_ok mdW ?_
    simp only [go_sem]
    exact ⟨[obR (.mk k n s ks kids) y z'], [], by simp only [go_sem, obR], rfl, obD (.mk k n s ks kids) y z', [], RAL_one (RA_ob _ y z'), by simp [obD]⟩
end Go.Proofs.Ytjpcicjkbbbpiaa.M

/- Contracts for WithEntry, part 2: the program's WithEntry. No condition. -/
namespace Go.Proofs.Ytjpcicjkbbbpiaa.M
open Go Go.Proofs
set_option maxRecDepth 100000
set_option maxHeartbeats 4000000
set_option linter.unusedSimpArgs false
set_option linter.unusedVariables false
theorem cntL_len : ∀ (l : List Ob) (d c : Int), cntLO l d c ≤ 120 → c ≤ 120 → c + l.length ≤ 120
  | [], d, c, h, hc => by simpa using hc
  | o :: r, d, c, h, hc => by
    rw [cntLO] at h
    split at h
    · omega
    · have h1 := cntO_ge o d
      have := cntL_len r d _ h (by omega)
      rw [List.length_cons]
      omega
theorem cnt_dict {n : Int} {s : ByteArray} {ks : List ByteArray} {kids : List Ob} (h : cntO (.mk 8 n s ks kids) 0 ≤ 120) : n = 0 ∧ s.toList = (⟨#[]⟩ : ByteArray).toList ∧ ks.length = kids.length ∧ keysB ks = true ∧ kids.length ≤ 119 := by
  rw [cntO] at h
  rw [if_neg (by omega)] at h
  split at h
  · omega
  · rename_i hf
    have hl := cntL_len _ _ _ h (by omega)
    simp [fieldsB] at hf
    exact ⟨hf.1, by simp [hf.2.1], hf.2.2.1, hf.2.2.2, by omega⟩
/-- Where a key is put. -/
def ltB (key k : ByteArray) : Bool := Op.bytesLess k.toList key.toList
def atK (ks : List ByteArray) (key : ByteArray) : Nat := (ks.takeWhile (ltB key)).length
theorem atK_le (ks : List ByteArray) (key : ByteArray) : atK ks key ≤ ks.length := (List.takeWhile_sublist _).length_le
theorem atK_eq : ∀ {ks : List ByteArray} {key : ByteArray} {i : Nat}, i ≤ ks.length → (∀ j x, j < i → ks[j]? = some x → ltB key x = true) → (∀ x, ks[i]? = some x → ltB key x = false) → atK ks key = i
  | [], key, i, h1, _, _ => by simp at h1; subst h1; rfl
  | k :: r, key, 0, _, _, h3 => by
    have := h3 k rfl
    simp [atK, List.takeWhile_cons, this]
  | k :: r, key, i + 1, h1, h2, h3 => by
    have h4 := h2 0 k (by omega) rfl
    have := atK_eq (ks := r) (key := key) (i := i) (by simpa using h1) (fun j x hj hx => h2 (j + 1) x (by omega) (by simpa using hx)) (fun x hx => h3 x (by simpa using hx))
    simp [atK, List.takeWhile_cons, h4] at this ⊢
    exact this
def putL {α : Type} (l : List α) (i : Nat) (x : α) : List α := l.take i ++ x :: l.drop i
def insO : Ob → ByteArray → Ob → Ob
  | .mk k n s ks kids, key, v => .mk k n s (putL ks (atK ks key) key) (putL kids (atK ks key) v)
theorem insO_mk (k n : Int) (s : ByteArray) (ks : List ByteArray) (kids : List Ob) (key : ByteArray) (v : Ob) : insO (.mk k n s ks kids) key v = .mk k n s (putL ks (atK ks key) key) (putL kids (atK ks key) v) := rfl
def withO (k n : Int) (s : ByteArray) (ks : List ByteArray) (kids : List Ob) (key : ByteArray) (v : Ob) : Option Ob :=
  if k = 8 ∧ cntO (.mk k n s ks kids) 0 ≤ 120 then (if cntO (insO (delO k n s ks kids key) key v) 0 ≤ 120 then some (insO (delO k n s ks kids key) key v) else none) else none
theorem delO_shape (k n : Int) (s : ByteArray) (ks : List ByteArray) (kids : List Ob) (key : ByteArray) (hl : ks.length = kids.length) :
    ∃ ks' kids', delO k n s ks kids key = .mk k n s ks' kids' ∧ ks'.length ≤ ks.length ∧ ks'.length = kids'.length ∧ (∀ x ∈ ks', x ∈ ks) ∧ ∀ x ∈ kids', x ∈ kids := by
  unfold delO
  split
  · exact ⟨ks, kids, rfl, Nat.le_refl _, hl, fun _ h => h, fun _ h => h⟩
  · refine ⟨_, _, rfl, List.length_eraseIdx_le .., ?_, fun x h => List.mem_of_mem_eraseIdx h, fun x h => List.mem_of_mem_eraseIdx h⟩
    rw [List.length_eraseIdx, List.length_eraseIdx, hl]
theorem putL_len {α : Type} (l : List α) (i : Nat) (x : α) : (putL l i x).length = l.length + 1 := by
  unfold putL
  rw [List.length_append, List.length_cons, List.length_take, List.length_drop]
  omega
theorem putL_mem {α : Type} {l : List α} {i : Nat} {x y : α} (h : y ∈ putL l i x) : y = x ∨ y ∈ l := by
  unfold putL at h
  rcases List.mem_append.1 h with h | h
  · exact .inr (List.mem_of_mem_take h)
  · rcases List.mem_cons.1 h with h | h
    · exact .inl h
    · exact .inr (List.mem_of_mem_drop h)
theorem map_put {α β : Type} (f : α → β) (l : List α) (i : Nat) (x : α) : (l.map f).take i ++ f x :: (l.map f).drop i = (putL l i x).map f := by simp [putL, List.map_take, List.map_drop]
theorem sh_obRs : ∀ {l : List Ob} {ps : List (Sl × Sl)}, ∀ e ∈ obRs l ps, Sh5 e
  | [], ps, e, he => by simp [obRs] at he
  | o :: r, [], e, he => by simp [obRs] at he
  | .mk k n s ks kids :: r, p :: ps, e, he => by
    rcases List.mem_cons.1 he with rfl | he
    · exact ⟨_, _, _, _, _, rfl⟩
    · exact sh_obRs e he
theorem obRs_put {l : List Ob} {ps : List (Sl × Sl)} (i : Nat) (x : Ob) (p : Sl × Sl) (h : ps.length = l.length) : (obRs l ps).take i ++ obR x p.1 p.2 :: (obRs l ps).drop i = obRs (putL l i x) (putL ps i p) := by
  unfold putL
  induction l generalizing ps i with
  | nil =>
    obtain rfl := List.eq_nil_of_length_eq_zero h
    simp [obRs]
  | cons o r ih =>
    cases ps with
    | nil => simp at h
    | cons q ps =>
      cases i with
      | zero => simp [obRs]
      | succ i => simp only [obRs, List.take_succ_cons, List.drop_succ_cons, List.cons_append]; rw [ih i (by simpa using h)]
theorem obDs_put {l : List Ob} {ps : List (Sl × Sl)} (i : Nat) (x : Ob) (p : Sl × Sl) (h : ps.length = l.length) : (obD x p.1 p.2 ++ obDs l ps).Perm (obDs (putL l i x) (putL ps i p)) := by
  unfold putL
  induction l generalizing ps i with
  | nil =>
    obtain rfl := List.eq_nil_of_length_eq_zero h
    simp [obDs]
  | cons o r ih =>
    cases ps with
    | nil => simp at h
    | cons q ps =>
      cases i with
      | zero => simp [obDs]
      | succ i =>
        simp only [obDs, List.take_succ_cons, List.drop_succ_cons, List.cons_append]
        refine List.Perm.trans ?_ ((ih i (by simpa using h)).append_left _)
        rw [← List.append_assoc, ← List.append_assoc]
        exact List.perm_append_comm.append_right _
theorem d14 (k n : Int) (s : ByteArray) (ks : List ByteArray) (kids : List Ob) (key : ByteArray) (v : Ob) (hT : Tn (.mk k n s ks kids)) (hTv : Tn v) (hkey : key.size ≤ 1048576) :
    CSD Try.prog 14 [.b (.v (Ob.mk k n s ks kids).t), .b (.v (.str key)), .b (.v v.t)] (entR (withO k n s ks kids key v)) [] := by
  have hok := oc27 _ hT
  have hcv := d31' v hTv.sm
  unfold D31 at hcv
  obtain ⟨vk, vn, vs, vks, vkids⟩ := v
  rw [Ob.t_mk] at hok
  unfold withO
  rw [Ob.t_mk, Ob.t_mk]
  refine CSD_views (xs := [.v (.agg [.int .i64 k, .int .i64 n, .str s, .list 1 (ks.map T.str), .list 5 (kids.map Ob.t)]), .v (.str key), .v (.agg [.int .i64 vk, .int .i64 vn, .str vs, .list 1 (vks.map T.str), .list 5 (vkids.map Ob.t)])]) tab_ok Try.func14 rfl rfl Try.ntmps14 (rl := [.cell 6 29, .tmp 7]) rfl (Nat.le_of_ble_eq_true rfl) ?_
  refine WWD_seqB tab_ok mdW ?_
  simp only [go_sem]
  have fail : ∀ {Q : Prop}, True := trivial
  by_cases hk : k = 8
  · have e1 : (k != 8) = false := by simp [hk]
    refine WWD_seqB tab_ok mdW ?_
    simp only [go_sem, e1]
    refine act_callE hok ?_
    simp only [go_sem]
    by_cases h120 : cntO (.mk k n s ks kids) 0 ≤ 120
    · have e2 : decide (cntO (.mk k n s ks kids) 0 ≤ 120) = true := by simp [h120]
      simp only [go_sem, e2]
      obtain ⟨_, _, hl, _, hkl⟩ := cnt_dict (by rw [← hk]; exact h120)
      have hd := d42 k n s ks kids key hT.sm hl
      rw [if_pos ⟨hk, h120⟩]
      obtain ⟨ks', kids', hde, hl1, hl2, hm1, hm2⟩ := delO_shape k n s ks kids key hl
      rw [hde] at hd ⊢
      have hTo : Tn (insO (.mk k n s ks' kids') key (.mk vk vn vs vks vkids)) := by
        cases hT with
        | mk _ _ _ _ _ t0 t1 tk t2 t3 =>
          refine .mk _ _ _ _ _ t0 (by rw [putL_len]; omega) (fun x hx => ?_) (by rw [putL_len]; omega) fun x hx => ?_
          · rcases putL_mem hx with rfl | h
            · exact hkey
            · exact tk _ (hm1 _ h)
          · rcases putL_mem hx with rfl | h
            · exact hTv
            · exact t3 _ (hm2 _ h)
      have hok2 := CSD_scal rfl (oc27 _ hTo)
      refine WWD_seq ?_
      refine WWD_region tab_ok mdW 2 rfl rfl rfl ?_
      simp only [go_sem]
      refine ⟨_, _, [], [], _, hd, ⟨_, _, _, rfl, rfl, RdA_obv _ _ _ _ _ _ _, _, _, _, rfl, rfl, .inr rfl, rfl, rfl, rfl⟩, .refl _, ?_⟩
      rintro _ _ ⟨_, rfl, hra⟩
      obtain ⟨y, z, rfl, rfl⟩ := RAr_ob hra
      unfold restD obR obD
      simp only [go_sem]
      refine WWD_seqB tab_ok mdW ?_
      simp only [go_sem]
      refine WWD_openbox (K := 900) (b := 240) (j := 3) (.refl _) rfl rfl (Nat.le_of_ble_eq_true rfl) (fun _ : Unit => ks'.map T.str) (fun _ => []) (fun xs d h => ?_) fun _ => ?_
      · rw [flat_strs] at h
        obtain ⟨h3, h4⟩ := RCrL_strs h
        exact ⟨(), by rw [flat_strs]; exact h3, h4.symm, rfl, fun e he => by obtain ⟨s, _, rfl⟩ := List.mem_map.1 he; rfl⟩
      simp only [go_sem]
      refine WWD_openbox (K := 901) (b := 240) (j := 4) (.refl _) rfl rfl (Nat.le_of_ble_eq_true rfl) (fun ps : {ps : List (Sl × Sl) // ps.length = kids'.length} => obRs kids' ps.1) (fun ps => obDs kids' ps.1) (fun xs d h => ?_) fun ps => ?_
      · obtain ⟨ps, h3, h4, h5⟩ := RCrL_obs h
        exact ⟨⟨ps, h3⟩, h4, h5, by rw [obRs_len h3, List.length_map], fun e he => obRs_cells e he⟩
      obtain ⟨ps, hps⟩ := ps
      simp only [go_sem, List.length_map]
      have w1 : ∀ j : Nat, j ≤ 1048576 → IntKind.i64.wrap ((j : Int) + 1) = ((j + 1 : Nat) : Int) := fun j hj => wrap64O (by omega) (by omega)
      refine WWD_seq ?_
      refine WWD_block ?_
      refine WWD_act tab_ok mdW ?_
      simp only [go_sem]
      refine act_loop_of (md := mdW) tab_ok [1,5,6,7,8,9] [16,32,240,900,901] 2000 (ι := {i : Nat // i ≤ ks'.length ∧ ∀ j x, j < i → ks'[j]? = some x → ltB key x = true})
        (fun i => ⟨[(1, .a (.c (.t (.str key)))), (5, .a (.c (.ptr 16 0))), (6, .a (.c (.ptr 32 0))), (7, .a (.c (.t (.bool false)))), (8, .a (.c (.ptr 240 0))), (9, .a (.c (.t (.int .i64 i.1))))],
          [(16, .box [.t (.int .i64 vk), .t (.int .i64 vn), .t (.str vs), .t (.list 1 (vks.map T.str)), .t (.list 5 (vkids.map Ob.t))]), (32, .box zObj), (240, .box [.t (.int .i64 k), .t (.int .i64 n), .t (.str s), .own 900 0 0 ks'.length, .own 901 0 0 kids'.length]), (900, .arr 1 (ks'.map T.str) 0), (901, .arr 5 (obRs kids' ps) 0)], 2000, 58⟩)
        (fun i => ks'.length - i.1) ⟨0, Nat.zero_le _, fun j x h => by omega⟩ (Nat.le_of_ble_eq_true rfl) (by simp only [go_sem]) (by simp only [go_sem]; rfl) fun i => ?_
      obtain ⟨i, hi, hlt⟩ := i
      dsimp only
      simp only [go_sem]
      by_cases hil : i < ks'.length
      case' neg =>
        have e3 : decide ((i : Int) < ks'.length) = false := by simp; omega
        have hat : atK ks' key = i := atK_eq hi hlt (fun x hx => by rw [List.getElem?_eq_none (by omega)] at hx; cases hx)
        simp only [go_sem, e3]
        refine WWD_cut [1,5,6,7,8,9] [16,32,240,900,901] 3000 ⟨[(1, .a (.c (.t (.str key)))), (5, .a (.c (.ptr 16 0))), (6, .a (.c (.ptr 32 0))), (7, .a (.c (.t (.bool false)))), (8, .a (.c (.ptr 240 0))), (9, .a (.c (.t (.int .i64 i))))],
          [(16, .box [.t (.int .i64 vk), .t (.int .i64 vn), .t (.str vs), .t (.list 1 (vks.map T.str)), .t (.list 5 (vkids.map Ob.t))]), (32, .box zObj), (240, .box [.t (.int .i64 k), .t (.int .i64 n), .t (.str s), .own 900 0 0 ks'.length, .own 901 0 0 kids'.length]), (900, .arr 1 (ks'.map T.str) 0), (901, .arr 5 (obRs kids' ps) 0)], 3000, 58⟩ (obDs kids' ps) [] (Nat.le_of_ble_eq_true rfl) (by simp only [go_sem]) (by simp only [go_sem]) (by simp) ?_
      case' pos =>
        have e3 : decide ((i : Int) < ks'.length) = true := by simp; omega
        obtain ⟨x, hx⟩ : ∃ x, ks'[i]? = some x := ⟨_, List.getElem?_eq_getElem hil⟩
        simp only [go_sem, e3, List.getElem?_map, hx]
        refine ⟨by omega, by omega, ?_⟩
        refine act_split (fun g => ?yes) (fun g => ?no) <;> simp only [go_sem, g]
      case yes =>
        refine nextK_of ⟨i + 1, by omega, fun j x' hj hx' => ?_⟩ (by simp only [go_sem]) ?_ (by dsimp only; omega)
        · rcases Nat.lt_succ_iff_lt_or_eq.1 hj with hj | rfl
          · exact hlt j x' hj hx'
          · rw [hx] at hx'; obtain rfl := Option.some.inj hx'; exact g
        · simp only [go_sem]
          rw [w1 i (by omega)]
      case' no =>
        have hat : atK ks' key = i := atK_eq hi hlt (fun x' hx' => by rw [hx] at hx'; obtain rfl := Option.some.inj hx'; exact g)
        refine WWD_cut [1,5,6,7,8,9] [16,32,240,900,901] 3000 ⟨[(1, .a (.c (.t (.str key)))), (5, .a (.c (.ptr 16 0))), (6, .a (.c (.ptr 32 0))), (7, .a (.c (.t (.bool false)))), (8, .a (.c (.ptr 240 0))), (9, .a (.c (.t (.int .i64 i))))],
          [(16, .box [.t (.int .i64 vk), .t (.int .i64 vn), .t (.str vs), .t (.list 1 (vks.map T.str)), .t (.list 5 (vkids.map Ob.t))]), (32, .box zObj), (240, .box [.t (.int .i64 k), .t (.int .i64 n), .t (.str s), .own 900 0 0 ks'.length, .own 901 0 0 kids'.length]), (900, .arr 1 (ks'.map T.str) 0), (901, .arr 5 (obRs kids' ps) 0)], 3000, 58⟩ (obDs kids' ps) [] (Nat.le_of_ble_eq_true rfl) (by simp only [go_sem]) (by simp only [go_sem]) (by simp) ?_
      all_goals
        have hi2 : i ≤ kids'.length := by omega
        have hl4 : (ks'.map T.str).length = ks'.length := List.length_map ..
        have hl5 := obRs_len hps
        have hsh1 : ∀ e ∈ ks'.map T.str ++ [T.str key], Sh1 e := fun e he => by
          rcases List.mem_append.1 he with h | h
          · obtain ⟨q, _, rfl⟩ := List.mem_map.1 h; exact ⟨q, rfl⟩
          · simp at h; exact ⟨key, h⟩
        refine WWD_seq ?_
        refine WWD_draw tab_ok mix mdW [0,1,2,3,4,5,6,7,8,9,13,10,11,12,14,15,16] 11 10 rfl rfl rfl (by kernel_rfl) ?_
        simp only [go_sem, List.length_map]
        refine ⟨sc_strs _, ?_⟩
        have k43 := c43 (ks'.map T.str) i (.str key) (by omega) (by omega) (sc_strs _) (sc_strs [key]) hsh1
        rw [map_put T.str ks' i key] at k43
        have k44 : ∀ p : Sl × Sl, CS Try.prog true 44 [.mv 5 (obRs kids' ps), .v (.int .i64 i), .v (.list 5 [obR (.mk vk vn vs vks vkids) p.1 p.2])] [.list 5 (obRs (putL kids' i (.mk vk vn vs vks vkids)) (putL ps i p))] [] := fun p => by
          have := c44 (obRs kids' ps) i (obR (.mk vk vn vs vks vkids) p.1 p.2) (by omega) (by omega) (sc_obRs hps) (sc_obRs (l := [.mk vk vn vs vks vkids]) (ps := [p]) rfl) fun e he => by
            rcases List.mem_append.1 he with h | h
            · exact sh_obRs e h
            · exact sh_obRs (l := [.mk vk vn vs vks vkids]) (ps := [p]) e h
          rwa [obRs_put i _ p hps] at this
        refine act_callE k43 ?_
        simp only [go_sem]
        refine ⟨⟨by kernel_rfl, by kernel_rfl⟩, ?_⟩
        refine ⟨_, _, [], [], _, hcv, ⟨_, _, _, rfl, rfl, RdA_obv _ _ _ _ _ _ _, rfl, rfl, rfl⟩, .refl _, ?_⟩
        rintro _ _ ⟨_, rfl, hrv⟩
        obtain ⟨y2, z2, rfl, rfl⟩ := RAr_ob hrv
        unfold restDr obR
        simp only [go_sem, hl5]
        refine ⟨sc_obRs hps, ?_⟩
        refine act_callE (k44 (y2, z2)) ?_
        simp only [go_sem]
        refine ⟨by kernel_rfl, ?_⟩
        rw [insO_mk, hat] at hok2 ⊢
        have hp2 : (putL ps i (y2, z2)).length = (putL kids' i (Ob.mk vk vn vs vks vkids)).length := by rw [putL_len, putL_len, hps]
        have hperm : (obD (.mk vk vn vs vks vkids) y2 z2 ++ obDs kids' ps).Perm (obDs (putL kids' i (.mk vk vn vs vks vkids)) (putL ps i (y2, z2))) := obDs_put i _ (y2, z2) hps
        generalize putL ks' i key = ks2 at *
        generalize putL kids' i (Ob.mk vk vn vs vks vkids) = kids2 at *
        generalize putL ps i (y2, z2) = ps2 at *
        refine WWD_closebox (b := 240) (j := 3) (N := 3080) rfl rfl rfl rfl (sc_strs _) (RT_strs ks2) (.refl _) fun y5 => ?_
        simp only [go_sem]
        refine WWD_closebox (b := 240) (j := 4) (N := 3208) (dr := [(y5, strs ks2)]) rfl rfl rfl rfl (sc_obRs hp2) (RT_obs hp2) ?_ fun z5 => ?_
        · refine (List.perm_append_comm (l₁ := [(y5, strs ks2)]) (l₂ := _)).trans (List.Perm.append_right _ ?_)
          simpa [obD] using hperm
        simp only [go_sem]
        refine WWD_seq ?_
        refine WWD_seq ?_
        refine WWD_region tab_ok mdW 1 rfl rfl rfl ?_
        simp only [go_sem]
        refine ⟨_, _, [], [], _, hok2, ⟨_, _, _, rfl, rfl, RdA_ob _ _ k n s ks2 kids2 y5 z5 (by simp) (by simp), rfl, rfl, rfl⟩, .refl _, ?_⟩
        rintro _ _ ⟨_, rfl, rfl, _, rfl⟩
        unfold restD
        simp only [go_sem]
        refine WWD_act tab_ok mdW ?_
        by_cases hfin : cntO (.mk k n s ks2 kids2) 0 ≤ 120
        · have e5 : decide (cntO (.mk k n s ks2 kids2) 0 ≤ 120) = true := by simp [hfin]
          simp only [go_sem, e5]
          rw [if_pos hfin]
          refine WWD_seqB tab_ok mdW ?_
          simp only [go_sem]
          refine WWD_act tab_ok mdW ?_
          simp only [go_sem]
          exact ⟨[obR (.mk k n s ks2 kids2) y5 z5, .bool true], [], by simp only [go_sem, obR], rfl, obD (.mk k n s ks2 kids2) y5 z5, [], ⟨_, _, _, [], rfl, (List.append_nil _).symm, RA_ob _ y5 z5, _, _, [], [], rfl, rfl, ⟨rfl, rfl, rfl⟩, rfl, rfl⟩, by simp [obD]; exact .swap _ _ _⟩
        · have e5 : decide (cntO (.mk k n s ks2 kids2) 0 ≤ 120) = false := by simp [hfin]
          simp only [go_sem, e5]
          rw [if_neg hfin]
          exact ⟨[ob0, .bool false], [], by simp only [go_sem], rfl, [], _, RAL_ob0, .refl _⟩
    · have e2 : decide (cntO (.mk k n s ks kids) 0 ≤ 120) = false := by simp [h120]
      simp only [go_sem, e2]
      rw [if_neg (fun h => h120 h.2)]
      exact ⟨[ob0, .bool false], [], by simp only [go_sem], rfl, [], [], RAL_ob0, .refl _⟩
  · have e1 : (k != 8) = true := by simp [hk]
    refine WWD_seqB tab_ok mdW ?_
    simp only [go_sem, e1]
    rw [if_neg (fun h => hk h.1)]
    exact ⟨[ob0, .bool false], [], by simp only [go_sem], rfl, [], [], RAL_ob0, .refl _⟩
end Go.Proofs.Ytjpcicjkbbbpiaa.M

/- Contracts for WithEntry, part 3: the reference's way. No condition. -/
namespace Go.Proofs.Ytjpcicjkbbbpiaa.M
open Go Go.Proofs
set_option maxRecDepth 100000
set_option maxHeartbeats 4000000
set_option linter.unusedSimpArgs false
set_option linter.unusedVariables false
def neB (key : ByteArray) (p : ByteArray × Ob) : Bool := !(p.1.toList == key.toList)
def woL (ks : List ByteArray) (kids : List Ob) (key : ByteArray) (i : Nat) : List (ByteArray × Ob) := ((ks.zip kids).take i).filter (neB key)
abbrev wk (l : List (ByteArray × Ob)) : List ByteArray := l.map (·.1)
abbrev wv (l : List (ByteArray × Ob)) : List Ob := l.map (·.2)
theorem woL_succ {ks : List ByteArray} {kids : List Ob} {key : ByteArray} {i : Nat} {x : ByteArray} {o : Ob} (hx : ks[i]? = some x) (ho : kids[i]? = some o) : woL ks kids key (i + 1) = woL ks kids key i ++ (if neB key (x, o) = true then [(x, o)] else []) := by
  have : (ks.zip kids)[i]? = some (x, o) := by rw [List.getElem?_zip_eq_some]; exact ⟨hx, ho⟩
  unfold woL
  rw [List.take_add_one, this, List.filter_append]
  simp [List.filter_cons]
theorem woL_len (ks : List ByteArray) (kids : List Ob) (key : ByteArray) (i : Nat) : (woL ks kids key i).length ≤ i := by
  unfold woL
  exact Nat.le_trans (List.length_filter_le _ _) (by simp; omega)
theorem ew40 (k n : Int) (s : ByteArray) (ks : List ByteArray) (kids : List Ob) (key : ByteArray) (hl : ks.length = kids.length) (h1 : ks.length ≤ 1048576) :
    CS Try.prog false 40 [.v (Ob.mk k n s ks kids).t, .v (.str key)] [(Ob.mk 8 0 ⟨#[]⟩ (wk (woL ks kids key ks.length)) (wv (woL ks kids key ks.length))).t] [] := by
  rw [Ob.t_mk, Ob.t_mk]
  refine CS_act tab_ok mdO Try.func40 rfl rfl Try.ntmps40 (rl := [.cell 4 29]) rfl (Nat.le_of_ble_eq_true rfl) ?_
  simp only [go_sem, List.length_map]
  refine WWE_nilbox 48 3 1 900 rfl rfl (Nat.le_of_ble_eq_true rfl) ?_
  simp only [go_sem]
  refine WWE_nilbox 48 4 5 901 rfl rfl (Nat.le_of_ble_eq_true rfl) ?_
  simp only [go_sem]
  refine act_loop_of (md := mdO) tab_ok [1,2,4,5,6] [0,16,48,900,901] 2000 (ι := {i : Nat // i ≤ ks.length})
    (fun i => ⟨[(1, .a (.c (.t (.str key)))), (2, .a (.c (.ptr 0 0))), (4, .a (.c (.ptr 16 0))), (5, .a (.c (.ptr 48 0))), (6, .a (.c (.t (.int .i64 i.1))))],
      [(0, .box [.t (.int .i64 k), .t (.int .i64 n), .t (.str s), .t (.list 1 (ks.map T.str)), .t (.list 5 (kids.map Ob.t))]), (16, .box zObj),
       (48, .box [.t (.int .i64 8), .t (.int .i64 0), .t (.str ⟨#[]⟩), .own 900 (woL ks kids key i.1).length 0 (woL ks kids key i.1).length, .own 901 (woL ks kids key i.1).length 0 (woL ks kids key i.1).length]),
       (900, .arr 1 ((wk (woL ks kids key i.1)).map T.str) (woL ks kids key i.1).length), (901, .arr 5 ((wv (woL ks kids key i.1)).map Ob.t) (woL ks kids key i.1).length)], 2000, 43⟩)
    (fun i => ks.length - i.1) ⟨0, Nat.zero_le _⟩ (Nat.le_of_ble_eq_true rfl) (by simp only [go_sem]) (by simp only [go_sem]; rfl) fun i => ?_
  obtain ⟨i, hi⟩ := i
  dsimp only
  simp only [go_sem, List.length_map]
  have hwl := woL_len ks kids key i
  have w1 : IntKind.i64.wrap ((i : Int) + 1) = ((i + 1 : Nat) : Int) := wrap64O (by omega) (by omega)
  refine act_split (fun g => ?_) (fun g => ?_) <;> simp only [go_sem] <;> simp only [decide_eq_true_eq, decide_eq_false_iff_not] at g
  · obtain ⟨x, hx⟩ : ∃ x, ks[i]? = some x := ⟨_, List.getElem?_eq_getElem (by omega)⟩
    obtain ⟨o, ho⟩ : ∃ o, kids[i]? = some o := ⟨_, List.getElem?_eq_getElem (by omega)⟩
    have hs := woL_succ (key := key) hx ho
    generalize woL ks kids key i = l at hs hwl ⊢
    obtain ⟨k', n', s', ks', kids'⟩ := o
    simp only [go_sem, List.getElem?_map, hx, List.length_map]
    refine ⟨by omega, by omega, ?_⟩
    refine act_split (fun g2 => ?_) (fun g2 => ?_) <;> simp only [go_sem]
    · have hn : neB key (x, .mk k' n' s' ks' kids') = true := g2
      rw [hn, if_pos rfl] at hs
      refine act_draw_of tab_ok mix mdO ?_
      simp only [go_sem, List.getElem?_map, hx, List.length_map]
      refine ⟨by omega, by omega, by omega, drawOk_of (by kernel_rfl), ?_⟩
      refine act_draw_of tab_ok mix mdO ?_
      simp only [go_sem, List.getElem?_map, ho, List.length_map, Ob.t_mk]
      refine ⟨by omega, by omega, by omega, drawOk_of (by kernel_rfl), ?_⟩
      refine nextK_of ⟨i + 1, by omega⟩ (by simp only [go_sem]) ?_ (by dsimp only; omega)
      simp only [go_sem]
      rw [w1, hs]
      simp [Ob.t_mk]
    · have hn : neB key (x, .mk k' n' s' ks' kids') = false := g2
      rw [hn] at hs
      simp only [Bool.false_eq_true, if_false, List.append_nil] at hs
      refine nextK_of ⟨i + 1, by omega⟩ (by simp only [go_sem]) ?_ (by dsimp only; omega)
      simp only [go_sem]
      rw [w1, hs]
  · obtain rfl : i = ks.length := by omega
    rw [List.take_of_length_le (by simp), List.take_of_length_le (by simp)]
theorem atK_before {ks : List ByteArray} {key : ByteArray} : ∀ {i : Nat} {x : ByteArray}, i < atK ks key → ks[i]? = some x → ltB key x = true := fun {i x} h hx => by
  unfold atK at h
  have h1 : (ks.takeWhile (ltB key))[i]? = some ((ks.takeWhile (ltB key))[i]'h) := List.getElem?_eq_getElem h
  have h2 := List.all_takeWhile (p := ltB key) (l := ks)
  have h3 : ks[i]? = some ((ks.takeWhile (ltB key))[i]'h) := by
    obtain ⟨t, ht⟩ := List.takeWhile_prefix (l := ks) (ltB key)
    conv => lhs; rw [← ht]
    rw [List.getElem?_append_left h]; exact h1
  rw [hx] at h3
  rw [Option.some.inj h3]
  exact List.all_eq_true.1 h2 _ (List.getElem_mem h)
theorem atK_at {ks : List ByteArray} {key : ByteArray} {x : ByteArray} (hx : ks[atK ks key]? = some x) : ltB key x = false := by
  induction ks with
  | nil => simp at hx
  | cons k r ih =>
    unfold atK at hx ih
    rw [List.takeWhile_cons] at hx
    cases hk : ltB key k with
    | true => rw [hk] at hx; simp at hx; exact ih hx
    | false => rw [hk] at hx; simp at hx; subst hx; exact hk
/-- A list, some way on, with one more in its place. -/
def curL {α : Type} (l : List α) (a : Nat) (x : α) (i : Nat) : List α := if a < i then putL (l.take i) a x else l.take i
theorem curL_len {α : Type} (l : List α) (a : Nat) (x : α) (i : Nat) (hi : i ≤ l.length) : (curL l a x i).length = if a < i then i + 1 else i := by
  unfold curL
  split
  · rw [putL_len, List.length_take]; omega
  · rw [List.length_take]; omega
theorem curL_step {α : Type} {l : List α} {a i : Nat} {x y : α} (hy : l[i]? = some y) (h : i ≠ a) : curL l a x i ++ [y] = curL l a x (i + 1) := by
  have hlt := (List.getElem?_eq_some_iff.1 hy).1
  have ht : l.take (i + 1) = l.take i ++ [y] := by rw [List.take_add_one, hy]; rfl
  unfold curL
  by_cases hai : a < i
  · rw [if_pos hai, if_pos (by omega), ht]
    unfold putL
    have : (l.take i).length = i := by simp; omega
    rw [List.take_append_of_le_length (by omega), List.drop_append_of_le_length (by omega)]
    simp
  · rw [if_neg hai, if_neg (by omega), ht]
theorem curL_put {α : Type} {l : List α} {i : Nat} {x y : α} (hy : l[i]? = some y) : curL l i x i ++ [x] ++ [y] = curL l i x (i + 1) := by
  have hlt := (List.getElem?_eq_some_iff.1 hy).1
  have ht : l.take (i + 1) = l.take i ++ [y] := by rw [List.take_add_one, hy]; rfl
  have : (l.take i).length = i := by simp; omega
  unfold curL
  rw [if_neg (by omega), if_pos (by omega), ht]
  unfold putL
  generalize l.take i = t at *
  rw [List.take_append_of_le_length (by omega), List.drop_append_of_le_length (by omega), List.take_of_length_le (by omega), List.drop_of_length_le (by omega)]
  simp
theorem ew39 (k n : Int) (s : ByteArray) (ks : List ByteArray) (kids : List Ob) (key : ByteArray) (v : Ob) (hl : ks.length = kids.length) (h1 : ks.length ≤ 1048576) (hne : ∀ x ∈ ks, (x.toList == key.toList) = false) :
    CS Try.prog false 39 [.v (Ob.mk k n s ks kids).t, .v (.str key), .v v.t] [(Ob.mk 8 0 ⟨#[]⟩ (putL ks (atK ks key) key) (putL kids (atK ks key) v)).t, .bool true] [] := by
  obtain ⟨vk, vn, vs, vks, vkids⟩ := v
  have hat := atK_le ks key
  have hb := @atK_before ks key
  have ha := @atK_at ks key
  generalize atK ks key = a at *
  rw [Ob.t_mk, Ob.t_mk, Ob.t_mk]
  refine CS_act tab_ok mdO Try.func39 rfl rfl Try.ntmps39 (rl := [.cell 6 29, .tmp 7]) rfl (Nat.le_of_ble_eq_true rfl) ?_
  simp only [go_sem, List.length_map]
  refine WWE_nilbox 80 3 1 900 rfl rfl (Nat.le_of_ble_eq_true rfl) ?_
  simp only [go_sem]
  refine WWE_nilbox 80 4 5 901 rfl rfl (Nat.le_of_ble_eq_true rfl) ?_
  simp only [go_sem]
  refine act_loop_of (md := mdO) tab_ok [1,3,5,6,7,8,9,10] [0,16,32,80,900,901] 2000 (ι := {i : Nat // i ≤ ks.length})
    (fun i => ⟨[(1, .a (.c (.t (.str key)))), (3, .a (.c (.ptr 0 0))), (5, .a (.c (.ptr 16 0))), (6, .a (.c (.ptr 32 0))), (7, .a (.c (.t (.bool false)))), (8, .a (.c (.ptr 80 0))), (9, .a (.c (.t (.bool (decide (a < i.1)))))), (10, .a (.c (.t (.int .i64 i.1))))],
      [(0, .box [.t (.int .i64 k), .t (.int .i64 n), .t (.str s), .t (.list 1 (ks.map T.str)), .t (.list 5 (kids.map Ob.t))]), (16, .box [.t (.int .i64 vk), .t (.int .i64 vn), .t (.str vs), .t (.list 1 (vks.map T.str)), .t (.list 5 (vkids.map Ob.t))]), (32, .box zObj),
       (80, .box [.t (.int .i64 8), .t (.int .i64 0), .t (.str ⟨#[]⟩), .own 900 (curL ks a key i.1).length 0 (curL ks a key i.1).length, .own 901 (curL ks a key i.1).length 0 (curL ks a key i.1).length]),
       (900, .arr 1 ((curL ks a key i.1).map T.str) (curL ks a key i.1).length), (901, .arr 5 ((curL kids a (.mk vk vn vs vks vkids) i.1).map Ob.t) (curL ks a key i.1).length)], 2000, 85⟩)
    (fun i => ks.length - i.1) ⟨0, Nat.zero_le _⟩ (Nat.le_of_ble_eq_true rfl) (by simp only [go_sem]) (by simp only [go_sem]; simp [curL]) fun i => ?_
  obtain ⟨i, hi⟩ := i
  dsimp only
  simp only [go_sem, List.length_map]
  have hc1 := curL_len ks a key i hi
  have hc2 := curL_len kids a (.mk vk vn vs vks vkids) i (by omega)
  have hlen : (curL kids a (.mk vk vn vs vks vkids) i).length = (curL ks a key i).length := by rw [hc1, hc2]
  have hcl : (curL ks a key i).length ≤ 1048577 := by rw [hc1]; split <;> omega
  have w1 : IntKind.i64.wrap ((i : Int) + 1) = ((i + 1 : Nat) : Int) := wrap64O (by omega) (by omega)
  refine act_split (fun g => ?_) (fun g => ?_) <;> simp only [go_sem] <;> simp only [decide_eq_true_eq, decide_eq_false_iff_not] at g
  · obtain ⟨x, hx⟩ : ∃ x, ks[i]? = some x := ⟨_, List.getElem?_eq_getElem (by omega)⟩
    obtain ⟨o, ho⟩ : ∃ o, kids[i]? = some o := ⟨_, List.getElem?_eq_getElem (by omega)⟩
    have hxe := hne x (List.mem_of_getElem? hx)
    obtain ⟨k', n', s', ks', kids'⟩ := o
    simp only [go_sem, List.getElem?_map, hx, List.length_map]
    refine ⟨by omega, by omega, ?_⟩
    simp only [go_sem, hxe]
    by_cases hia : a < i
    · have e1 : decide (a < i) = true := by simp [hia]
      have e2 : decide (a < i + 1) = true := by simp; omega
      simp only [go_sem, e1]
      have hs1 := curL_step (x := key) hx (a := a) (by omega)
      have hs2 := curL_step (x := Ob.mk vk vn vs vks vkids) ho (a := a) (by omega)
      refine act_draw_of tab_ok mix mdO ?_
      simp only [go_sem, List.getElem?_map, hx, List.length_map]
      refine ⟨by omega, by omega, by omega, drawOk_of (by kernel_rfl), ?_⟩
      refine act_draw_of tab_ok mix mdO ?_
      simp only [go_sem, List.getElem?_map, ho, List.length_map, Ob.t_mk]
      refine ⟨by omega, by omega, by omega, by omega, drawOk_of (by kernel_rfl), ?_⟩
      refine nextK_of ⟨i + 1, by omega⟩ (by simp only [go_sem]) ?_ (by dsimp only; omega)
      simp only [go_sem]
      rw [w1, e2, ← hs1, ← hs2]
      simp [Ob.t_mk]
    · have e1 : decide (a < i) = false := by simp; omega
      by_cases hie : i = a
      · subst hie
        have hg := ha hx
        have hg' : (!(Op.bytesLess x.toList key.toList || x.toList == key.toList)) = true := by rw [hxe]; unfold ltB at hg; rw [hg]; rfl
        have e2 : decide (i < i + 1) = true := by simp
        have hs1 := curL_put (x := key) hx
        have hs2 := curL_put (x := Ob.mk vk vn vs vks vkids) ho
        simp only [go_sem, e1, List.getElem?_map, hx, hg']
        simp only [List.length_map, hlen]
        refine ⟨by omega, by omega, trivial, by omega, trivial, by omega, ?_⟩
        refine act_draw_of tab_ok mix mdO ?_
        simp only [go_sem, List.getElem?_map, hx, List.length_map]
        refine ⟨by omega, by omega, by simp, by simp; omega, drawOk_of (by kernel_rfl), ?_⟩
        refine act_draw_of tab_ok mix mdO ?_
        simp only [go_sem, List.getElem?_map, ho, List.length_map, Ob.t_mk]
        refine ⟨by omega, by omega, by simp [hlen], by simp [hlen]; omega, drawOk_of (by kernel_rfl), ?_⟩
        refine nextK_of ⟨i + 1, by omega⟩ (by simp only [go_sem]) ?_ (by dsimp only; omega)
        simp only [go_sem]
        rw [w1, e2, ← hs1, ← hs2]
        simp [Ob.t_mk]
      · have hg := hb (by omega) hx
        have hg' : (!(Op.bytesLess x.toList key.toList || x.toList == key.toList)) = false := by rw [hxe]; unfold ltB at hg; rw [hg]; rfl
        have e2 : decide (a < i + 1) = false := by simp; omega
        simp only [go_sem, e1, List.getElem?_map, hx, hg']
        refine ⟨by omega, by simp; omega, ?_⟩
        have hs1 := curL_step (x := key) hx (a := a) (by omega)
        have hs2 := curL_step (x := Ob.mk vk vn vs vks vkids) ho (a := a) (by omega)
        refine act_draw_of tab_ok mix mdO ?_
        simp only [go_sem, List.getElem?_map, hx, List.length_map]
        refine ⟨by omega, by omega, by omega, drawOk_of (by kernel_rfl), ?_⟩
        refine act_draw_of tab_ok mix mdO ?_
        simp only [go_sem, List.getElem?_map, ho, List.length_map, Ob.t_mk]
        refine ⟨by omega, by omega, by omega, by omega, drawOk_of (by kernel_rfl), ?_⟩
        refine nextK_of ⟨i + 1, by omega⟩ (by simp only [go_sem]) ?_ (by dsimp only; omega)
        simp only [go_sem]
        rw [w1, e2, ← hs1, ← hs2]
        simp [Ob.t_mk]
  · obtain rfl : i = ks.length := by omega
    by_cases hia : a < ks.length
    · have e1 : decide (a < ks.length) = true := by simp [hia]
      simp only [go_sem, e1]
      have q1 : curL ks a key ks.length = putL ks a key := by unfold curL; rw [if_pos hia, List.take_of_length_le (Nat.le_refl _)]
      have q2 : curL kids a (.mk vk vn vs vks vkids) ks.length = putL kids a (.mk vk vn vs vks vkids) := by unfold curL; rw [if_pos hia, List.take_of_length_le (by omega)]
      rw [List.take_of_length_le (by simp), List.take_of_length_le (by simp [hlen]), q1, q2]
    · have e1 : decide (a < ks.length) = false := by simp; omega
      have q1 : curL ks a key ks.length ++ [key] = putL ks a key := by
        unfold curL putL
        rw [if_neg hia, List.take_of_length_le (Nat.le_refl _), List.take_of_length_le (by omega), List.drop_of_length_le (by omega)]
      have q2 : curL kids a (.mk vk vn vs vks vkids) ks.length ++ [.mk vk vn vs vks vkids] = putL kids a (.mk vk vn vs vks vkids) := by
        unfold curL putL
        rw [if_neg hia, List.take_of_length_le (by omega), List.take_of_length_le (by omega), List.drop_of_length_le (by omega)]
      simp only [go_sem, e1, List.length_map, hlen]
      refine ⟨by omega, by omega, ?_⟩
      rw [List.take_of_length_le (by simp), List.take_of_length_le (by simp [hlen]), ← q1, ← q2]
      simp [Ob.t_mk]
end Go.Proofs.Ytjpcicjkbbbpiaa.M

/- WithEntry: the plain law: both ways to take a key out are one, where keys ascend. No condition. -/
namespace Go.Proofs.Ytjpcicjkbbbpiaa.M
open Go Go.Proofs
set_option maxRecDepth 100000
set_option maxHeartbeats 1000000
set_option linter.unusedSimpArgs false
set_option linter.unusedVariables false
theorem less_irr : ∀ (a : List UInt8), Op.bytesLess a a = false
  | [] => rfl
  | x :: r => by
    have h : ¬ x < x := UInt8.lt_irrefl x
    simp [Op.bytesLess, less_irr r]
theorem less_trans : ∀ {a b c : List UInt8}, Op.bytesLess a b = true → Op.bytesLess b c = true → Op.bytesLess a c = true
  | _, _, [], _, h => by simp [Op.bytesLess] at h
  | _, [], z :: c, h, _ => by simp [Op.bytesLess] at h
  | [], y :: b, z :: c, _, _ => rfl
  | x :: a, y :: b, z :: c, h1, h2 => by
    simp only [Op.bytesLess, Bool.or_eq_true, Bool.and_eq_true, decide_eq_true_eq, beq_iff_eq] at h1 h2 ⊢
    rcases h1 with h1 | ⟨rfl, h1⟩ <;> rcases h2 with h2 | ⟨rfl, h2⟩
    · exact .inl (UInt8.lt_trans h1 h2)
    · exact .inl h1
    · exact .inl h2
    · exact .inr ⟨rfl, less_trans h1 h2⟩
def Asc : List ByteArray → Prop
  | [] => True
  | k :: r => (∀ x ∈ r, ltB x k = true) ∧ Asc r
theorem asc_of : ∀ (ks : List ByteArray), (∀ i x y, ks[i]? = some x → ks[i + 1]? = some y → ltB y x = true) → Asc ks
  | [], _ => trivial
  | k :: r, h => by
    have ih := asc_of r fun i x y hx hy => h (i + 1) x y (by simpa using hx) (by simpa using hy)
    refine ⟨fun x hx => ?_, ih⟩
    cases r with
    | nil => simp at hx
    | cons k2 r =>
      have h0 := h 0 k k2 rfl rfl
      rcases List.mem_cons.1 hx with rfl | hx
      · exact h0
      · exact less_trans h0 (ih.1 x hx)
theorem asc_keysB {ks : List ByteArray} (h : keysB ks = true) : Asc ks := asc_of ks fun i x y hx hy => by
  have hi := (List.getElem?_eq_some_iff.1 hy).1
  have := List.all_eq_true.1 h (i + 1) (List.mem_range.2 hi)
  simp only [keyB, hy, Nat.add_sub_cancel, hx, Bool.and_eq_true, Bool.not_eq_true', Bool.and_eq_false_iff, decide_eq_false_iff_not] at this
  rcases this.2 with h | h
  · omega
  · unfold ltB
    simpa [geB] using h
theorem ltB_ne {x key : ByteArray} (h : ltB key x = true) : (x.toList == key.toList) = false := by
  rw [Bool.eq_false_iff]
  intro he
  have he := eq_of_beq he
  unfold ltB at h
  rw [he, less_irr] at h
  cases h
theorem ltB_ne' {x key : ByteArray} (h : ltB key x = true) : (key.toList == x.toList) = false := by
  rw [Bool.eq_false_iff]
  intro he
  have he := eq_of_beq he
  unfold ltB at h
  rw [he, less_irr] at h
  cases h
theorem find_none {p : Nat → Bool} {n : Nat} (h : ∀ j, j < n → p j = false) : firstF p n = -1 := by
  unfold firstF
  rw [List.find?_eq_none.2 fun j hj => by simp [h j (List.mem_range.1 hj)]]
theorem find_at {p : Nat → Bool} {n i : Nat} (hi : i < n) (hp : p i = true) (h : ∀ j, j < i → p j = false) : firstF p n = i := by
  rcases firstF_cases p n with ⟨_, h2⟩ | ⟨j, h2, h3, h4, h5⟩
  · rw [h2 i hi] at hp; cases hp
  · rw [h3]
    rcases Nat.lt_trichotomy i j with h6 | h6 | h6
    · rw [h5 i h6] at hp; cases hp
    · rw [h6]
    · rw [h j h6] at h4; cases h4
theorem zip_fst : ∀ {ks : List ByteArray} {kids : List Ob}, ks.length = kids.length → wk (ks.zip kids) = ks ∧ wv (ks.zip kids) = kids
  | [], [], _ => ⟨rfl, rfl⟩
  | k :: r, o :: q, h => by
    obtain ⟨h1, h2⟩ := zip_fst (ks := r) (kids := q) (by simpa using h)
    exact ⟨by simp only [List.zip_cons_cons, List.map_cons, h1], by simp only [List.zip_cons_cons, List.map_cons, h2]⟩
/-- What is left: by the first place of the key, or by all. -/
theorem wo_del (key : ByteArray) : ∀ (ks : List ByteArray) (kids : List Ob), ks.length = kids.length → Asc ks →
    ((∀ x ∈ ks, (x.toList == key.toList) = false) ∧ (ks.zip kids).filter (neB key) = ks.zip kids) ∨
    ∃ i, i < ks.length ∧ keyP ks key i = true ∧ (∀ j, j < i → keyP ks key j = false) ∧ wk ((ks.zip kids).filter (neB key)) = ks.eraseIdx i ∧ wv ((ks.zip kids).filter (neB key)) = kids.eraseIdx i ∧ ∀ x ∈ ks.eraseIdx i, (x.toList == key.toList) = false
  | [], [], _, _ => .inl ⟨by simp, rfl⟩
  | k :: r, o :: q, hl, ⟨h1, h2⟩ => by
    cases hk : (k.toList == key.toList) with
    | true =>
      have he := (Lib.bytes_beq_iff _ _).1 hk
      subst he
      have hall : ∀ x ∈ r, (x.toList == k.toList) = false := fun x hx => ltB_ne' (h1 x hx)
      have hf : (r.zip q).filter (neB k) = r.zip q := List.filter_eq_self.2 fun p hp => by
        have := (List.of_mem_zip hp).1
        simp [neB, hall p.1 this]
      obtain ⟨z1, z2⟩ := zip_fst (ks := r) (kids := q) (by simpa using hl)
      refine .inr ⟨0, by simp, by simp [keyP], by omega, ?_, ?_, ?_⟩
      · rw [List.zip_cons_cons, List.filter_cons, if_neg (by simp [neB]), hf, z1]; rfl
      · rw [List.zip_cons_cons, List.filter_cons, if_neg (by simp [neB]), hf, z2]; rfl
      · intro x hx; exact hall x hx
    | false =>
      have hne : neB key (k, o) = true := by simp [neB, hk]
      have hk' : (key.toList == k.toList) = false := by
        rw [Bool.eq_false_iff] at hk ⊢
        intro h; exact hk (by rw [eq_of_beq h]; simp)
      rcases wo_del key r q (by simpa using hl) h2 with ⟨h3, h4⟩ | ⟨i, h3, h4, h5, h6, h7, h8⟩
      · refine .inl ⟨fun x hx => ?_, ?_⟩
        · rcases List.mem_cons.1 hx with rfl | hx
          · exact hk
          · exact h3 x hx
        · rw [List.zip_cons_cons, List.filter_cons, if_pos hne, h4]
      · refine .inr ⟨i + 1, by simpa using h3, by simpa [keyP] using h4, fun j hj => ?_, ?_, ?_, fun x hx => ?_⟩
        · cases j with
          | zero => simpa [keyP] using hk'
          | succ j => simpa [keyP] using h5 j (by omega)
        · rw [List.zip_cons_cons, List.filter_cons, if_pos hne]; show k :: wk _ = _; rw [h6]; rfl
        · rw [List.zip_cons_cons, List.filter_cons, if_pos hne]; show o :: wv _ = _; rw [h7]; rfl
        · rcases List.mem_cons.1 (by simpa using hx) with rfl | hx
          · exact hk
          · exact h8 x hx
theorem del_wo {n : Int} {s : ByteArray} {ks : List ByteArray} {kids : List Ob} {key : ByteArray} (hl : ks.length = kids.length) (ha : Asc ks) :
    delO 8 n s ks kids key = .mk 8 n s (wk (woL ks kids key ks.length)) (wv (woL ks kids key ks.length)) ∧ ∀ x ∈ wk (woL ks kids key ks.length), (x.toList == key.toList) = false := by
  have hz : (ks.zip kids).take ks.length = ks.zip kids := List.take_of_length_le (by simp; omega)
  unfold woL
  rw [hz]
  unfold delO keyAt
  rcases wo_del key ks kids hl ha with ⟨h1, h2⟩ | ⟨i, h1, h2, h3, h4, h5, h6⟩
  · obtain ⟨z1, z2⟩ := zip_fst hl
    rw [find_none (fun j hj => ?_), h2, z1, z2]
    · exact ⟨by rw [if_pos (by omega)], h1⟩
    · obtain ⟨x, hx⟩ : ∃ x, ks[j]? = some x := ⟨_, List.getElem?_eq_getElem hj⟩
      have := h1 x (List.mem_of_getElem? hx)
      simp only [keyP, hx]
      rw [Bool.eq_false_iff] at this ⊢
      intro h; exact this (by rw [eq_of_beq h]; simp)
  · rw [find_at h1 h2 h3, h4, h5]
    exact ⟨by rw [if_neg (by omega)]; rfl, h6⟩
theorem str_nil {s : ByteArray} (h : s.toList = (⟨#[]⟩ : ByteArray).toList) : s = ⟨#[]⟩ := (Lib.bytes_beq_iff _ _).1 (by rw [h]; simp)
end Go.Proofs.Ytjpcicjkbbbpiaa.M

/- Contracts for WithEntry, part 5: the reference's WithEntry. No condition. -/
namespace Go.Proofs.Ytjpcicjkbbbpiaa.M
open Go Go.Proofs
set_option maxRecDepth 100000
set_option maxHeartbeats 4000000
set_option linter.unusedSimpArgs false
set_option linter.unusedVariables false
theorem ew13 (k n : Int) (s : ByteArray) (ks : List ByteArray) (kids : List Ob) (key : ByteArray) (v : Ob) (hT : Tn (.mk k n s ks kids)) (hTv : Tn v) (hkey : key.size ≤ 1048576) :
    CS Try.prog false 13 [.v (Ob.mk k n s ks kids).t, .v (.str key), .v v.t] (entR (withO k n s ks kids key v)) [] := by
  have hok := oc26 _ hT
  unfold withO
  by_cases hk : k = 8
  · subst hk
    have e1 : ((8 : Int) != 8) = false := rfl
    by_cases h120 : cntO (.mk 8 n s ks kids) 0 ≤ 120
    · have e2 : decide (cntO (.mk 8 n s ks kids) 0 ≤ 120) = true := by simp [h120]
      obtain ⟨rfl, hs, hl, hkb, hkl⟩ := cnt_dict h120
      obtain rfl := str_nil hs
      rw [if_pos ⟨rfl, h120⟩]
      obtain ⟨hd, hne⟩ := del_wo (n := 0) (s := ⟨#[]⟩) (key := key) hl (asc_keysB hkb)
      have c40 := ew40 8 0 ⟨#[]⟩ ks kids key hl (by omega)
      rw [hd]
      have hwl := woL_len ks kids key ks.length
      have hm1 : ∀ x ∈ wk (woL ks kids key ks.length), x ∈ ks := fun x hx => by
        obtain ⟨p, hp, rfl⟩ := List.mem_map.1 hx
        exact (List.of_mem_zip (List.mem_of_mem_take (List.mem_filter.1 hp).1)).1
      have hm2 : ∀ x ∈ wv (woL ks kids key ks.length), x ∈ kids := fun x hx => by
        obtain ⟨p, hp, rfl⟩ := List.mem_map.1 hx
        exact (List.of_mem_zip (List.mem_of_mem_take (List.mem_filter.1 hp).1)).2
      have hl2 : (wk (woL ks kids key ks.length)).length = (wv (woL ks kids key ks.length)).length := by rw [List.length_map, List.length_map]
      have hl3 : (wk (woL ks kids key ks.length)).length ≤ ks.length := by rw [List.length_map]; exact hwl
      generalize wk (woL ks kids key ks.length) = ks' at *
      generalize wv (woL ks kids key ks.length) = kids' at *
      have c39 := ew39 8 0 ⟨#[]⟩ ks' kids' key v hl2 (by omega) hne
      rw [insO_mk]
      have hTo : Tn (.mk 8 0 ⟨#[]⟩ (putL ks' (atK ks' key) key) (putL kids' (atK ks' key) v)) := by
        cases hT with
        | mk _ _ _ _ _ t0 t1 tk t2 t3 =>
          refine .mk _ _ _ _ _ t0 (by rw [putL_len]; omega) (fun x hx => ?_) (by rw [putL_len]; omega) fun x hx => ?_
          · rcases putL_mem hx with rfl | h
            · exact hkey
            · exact tk _ (hm1 _ h)
          · rcases putL_mem hx with rfl | h
            · exact hTv
            · exact t3 _ (hm2 _ h)
      have hok2 := oc26 _ hTo
      have hcp := oc54' _ hTo.sm
      generalize putL ks' (atK ks' key) key = ks2 at *
      generalize putL kids' (atK ks' key) v = kids2 at *
      obtain ⟨vk, vn, vs, vks, vkids⟩ := v
      rw [Ob.t_mk] at hok c40 c39 hok2 hcp
      rw [Ob.t_mk 8 0 _ ks' kids'] at c40
      rw [Ob.t_mk vk, Ob.t_mk 8 0 _ ks2 kids2] at c39
      rw [Ob.t_mk, Ob.t_mk]
      refine CS_act tab_ok mdO Try.func13 rfl rfl Try.ntmps13 (rl := [.cell 6 29, .tmp 7]) rfl (Nat.le_of_ble_eq_true rfl) ?_
      simp only [go_sem, e1]
      refine act_callE hok ?_
      simp only [go_sem, e2]
      refine act_draw_of tab_ok mix mdO ?_
      simp only [go_sem]
      refine act_callE c40 ?_
      simp only [go_sem]
      refine act_callE c39 ?_
      simp only [go_sem]
      refine ⟨drawOk_of (by kernel_rfl), ?_⟩
      refine act_callE hok2 ?_
      by_cases hfin : cntO (.mk 8 0 ⟨#[]⟩ ks2 kids2) 0 ≤ 120
      · have e5 : decide (cntO (.mk 8 0 ⟨#[]⟩ ks2 kids2) 0 ≤ 120) = true := by simp [hfin]
        simp only [go_sem, e5]
        rw [if_pos hfin]
        refine act_callE hcp ?_
        simp only [go_sem, entR, Ob.t_mk]
      · have e5 : decide (cntO (.mk 8 0 ⟨#[]⟩ ks2 kids2) 0 ≤ 120) = false := by simp [hfin]
        simp only [go_sem, e5]
        rw [if_neg hfin]
        rfl
    · have e2 : decide (cntO (.mk 8 n s ks kids) 0 ≤ 120) = false := by simp [h120]
      obtain ⟨vk, vn, vs, vks, vkids⟩ := v
      rw [Ob.t_mk] at hok
      rw [Ob.t_mk, Ob.t_mk]
      refine CS_act tab_ok mdO Try.func13 rfl rfl Try.ntmps13 (rl := [.cell 6 29, .tmp 7]) rfl (Nat.le_of_ble_eq_true rfl) ?_
      simp only [go_sem, e1]
      refine act_callE hok ?_
      simp only [go_sem, e2]
      rw [if_neg h120]
      rfl
  · have e1 : (k != 8) = true := by simp [hk]
    obtain ⟨vk, vn, vs, vks, vkids⟩ := v
    rw [Ob.t_mk, Ob.t_mk]
    refine CS_act tab_ok mdO Try.func13 rfl rfl Try.ntmps13 (rl := [.cell 6 29, .tmp 7]) rfl (Nat.le_of_ble_eq_true rfl) ?_
    simp only [go_sem, e1]
    rw [if_neg (fun h => hk h.1)]
    rfl
end Go.Proofs.Ytjpcicjkbbbpiaa.M

/- Contracts for WithEntry, part 6: the law. No condition. -/
namespace Go.Proofs.Ytjpcicjkbbbpiaa.M
open Go Go.Proofs
set_option maxRecDepth 100000
set_option maxHeartbeats 8000000
set_option linter.unusedSimpArgs false
set_option linter.unusedVariables false
theorem nmK_cons (o : Ob) (l : List Ob) : nmK (o :: l) = nmE o + nmK l := by
  have := nmK_app [o] l
  rw [List.singleton_append] at this
  rw [this]
  simp [nmK]
theorem nmK_erase : ∀ (l : List Ob) (i : Nat), nmK (l.eraseIdx i) ≤ nmK l
  | [], i => by simp
  | o :: r, 0 => by rw [List.eraseIdx_cons_zero, nmK_cons]; omega
  | o :: r, i + 1 => by
    have := nmK_erase r i
    rw [List.eraseIdx_cons_succ, nmK_cons, nmK_cons]; omega
theorem nmK_put (l : List Ob) (i : Nat) (v : Ob) : nmK (putL l i v) = nmK l + nmE v := by
  unfold putL
  rw [nmK_app, nmK_cons]
  have := nmK_app (l.take i) (l.drop i)
  rw [List.take_append_drop] at this
  omega
theorem withO_ok {k n : Int} {s : ByteArray} {ks : List ByteArray} {kids : List Ob} {key : ByteArray} {v g : Ob} (hT : Tn (.mk k n s ks kids)) (hTv : Tn v) (hkey : key.size ≤ 1048576) (h : withO k n s ks kids key v = some g) :
    Tn g ∧ nmT g ≤ nmT (.mk k n s ks kids) + nmT v + 4 := by
  unfold withO at h
  split at h
  · rename_i hc
    split at h
    · obtain rfl := Option.some.inj h
      obtain ⟨rfl, h120⟩ := hc
      obtain ⟨_, _, hl, _, hkl⟩ := cnt_dict h120
      have hnm : nmT (delO 8 n s ks kids key) ≤ nmT (.mk 8 n s ks kids) := by
        unfold delO
        split
        · exact Nat.le_refl _
        · rw [nmT_mk, nmT_mk]
          have := nmK_erase kids (keyAt ks key).toNat
          have := List.length_eraseIdx_le ks (keyAt ks key).toNat
          omega
      obtain ⟨ks', kids', hde, hl1, hl2, hm1, hm2⟩ := delO_shape 8 n s ks kids key hl
      rw [hde] at hnm ⊢
      rw [insO_mk]
      refine ⟨?_, ?_⟩
      · cases hT with
        | mk _ _ _ _ _ t0 t1 tk t2 t3 =>
          refine .mk _ _ _ _ _ t0 (by rw [putL_len]; omega) (fun x hx => ?_) (by rw [putL_len]; omega) fun x hx => ?_
          · rcases putL_mem hx with rfl | h
            · exact hkey
            · exact tk _ (hm1 _ h)
          · rcases putL_mem hx with rfl | h
            · exact hTv
            · exact t3 _ (hm2 _ h)
      · rw [nmT_mk, putL_len, nmK_put, nmE_T] 
        rw [nmT_mk] at hnm
        omega
    · cases h
  · cases h
theorem d4 (k n : Int) (s : ByteArray) (ks : List ByteArray) (kids : List Ob) (key : ByteArray) (vk vn : Int) (vs : ByteArray) (vks : List ByteArray) (vkids : List Ob) (hW : Wd (.mk k n s ks kids)) (hWv : Wd (.mk vk vn vs vks vkids)) (hkey : key.size ≤ 9223372036854775807) :
    CSD Try.prog 4 [.b (.v (Ob.mk k n s ks kids).t), .b (.v (.str key)), .b (.v (Ob.mk vk vn vs vks vkids).t)] [.bool true] [] := by
  have h6 := oc19' (.mk k n s ks kids) hW 1048576 (by omega) (by omega)
  have h6v := fun x => oc19' (.mk vk vn vs vks vkids) hWv x
  have hszl := szO_le' (.mk k n s ks kids) 1048576 (by omega)
  have hrest : key.size ≤ 1048576 → ¬ szO (.mk k n s ks kids) 1048576 < 0 → ¬ szO (.mk vk vn vs vks vkids) (szO (.mk k n s ks kids) 1048576) < 0 → ∃ (g : Ob) (b : Bool), CS Try.prog false 8 [.v (Ob.mk k n s ks kids).t] [(Ob.mk k n s ks kids).t] [] ∧ CS Try.prog false 8 [.v (Ob.mk vk vn vs vks vkids).t] [(Ob.mk vk vn vs vks vkids).t] [] ∧
      CS Try.prog false 13 [.v (Ob.mk k n s ks kids).t, .v (.str key), .v (Ob.mk vk vn vs vks vkids).t] [g.t, .bool b] [] ∧ CS Try.prog false 14 [.v (Ob.mk k n s ks kids).t, .v (.str key), .v (Ob.mk vk vn vs vks vkids).t] [g.t, .bool b] [] ∧
      CS Try.prog false 10 [.v (Ob.mk k n s ks kids).t, .v (Ob.mk k n s ks kids).t] [.bool true] [] ∧ CS Try.prog false 10 [.v (Ob.mk vk vn vs vks vkids).t, .v (Ob.mk vk vn vs vks vkids).t] [.bool true] [] ∧ CS Try.prog false 10 [.v g.t, .v g.t] [.bool true] [] ∧
      D8 (.mk k n s ks kids) ∧ D8 (.mk vk vn vs vks vkids) ∧ CSD Try.prog 14 [.b (.v (Ob.mk k n s ks kids).t), .b (.v (.str key)), .b (.v (Ob.mk vk vn vs vks vkids).t)] [g.t, .bool b] [] ∧
      Sm (.mk k n s ks kids) ∧ Sm (.mk vk vn vs vks vkids) ∧ Sm g ∧ nmT (.mk k n s ks kids) ≤ 4194304 ∧ nmT (.mk vk vn vs vks vkids) ≤ 4194304 ∧ nmT g ≤ 9437184 := fun hk1 h hv => by
    have hT := tn_of_sz (.mk k n s ks kids) 1048576 (by omega) (by omega)
    have hTv := tn_of_sz (.mk vk vn vs vks vkids) _ hszl (by omega)
    have hS := hT.sm
    have hSv := hTv.sm
    have hn := nmT_sz (.mk k n s ks kids) 1048576 (by omega) (by omega)
    have hnv := nmT_sz (.mk vk vn vs vks vkids) _ (by omega) (Int.not_lt.1 hv)
    have hn0 : nmT (.mk k n s ks kids) ≤ 4194304 := by omega
    have hnv0 : nmT (.mk vk vn vs vks vkids) ≤ 4194304 := by omega
    have h7 := ew13 k n s ks kids key _ hT hTv hk1
    have h9d := d14 k n s ks kids key _ hT hTv hk1
    rw [entR_gOf] at h7 h9d
    have hg : Sm (gOf (withO k n s ks kids key (.mk vk vn vs vks vkids))) ∧ nmT (gOf (withO k n s ks kids key (.mk vk vn vs vks vkids))) ≤ 9437184 := by
      cases he : withO k n s ks kids key (.mk vk vn vs vks vkids) with
      | none => exact ⟨.mk _ _ _ _ _ (by simp) (by simp) (by simp), by show (0 + nmK []) ≤ _; simp [nmK]⟩
      | some x =>
        obtain ⟨q1, q2⟩ := withO_ok hT hTv hk1 he
        exact ⟨q1.sm, by show nmT x ≤ _; omega⟩
    have h9 := CS_view (xs := [.v (Ob.mk k n s ks kids).t, .v (.str key), .v (Ob.mk vk vn vs vks vkids).t]) h9d
    exact ⟨gOf _, _, oc21' _ hS, oc21' _ hSv, h7, h9, oc23' _ hS, oc23' _ hSv, oc23' _ hg.1, d8' _ hS, d8' _ hSv, h9d, hS, hSv, hg.1, hn0, hnv0, hg.2⟩
  have hsz0 : ∀ x : Int, ¬ x < 0 → 0 ≤ x := fun x h => Int.not_lt.1 h
  generalize szO (.mk k n s ks kids) 1048576 = sz at h6 hrest hszl
  rw [Ob.t_mk, Ob.t_mk]
  refine CSD_views (xs := [.v (.agg [.int .i64 k, .int .i64 n, .str s, .list 1 (ks.map T.str), .list 5 (kids.map Ob.t)]), .v (.str key), .v (.agg [.int .i64 vk, .int .i64 vn, .str vs, .list 1 (vks.map T.str), .list 5 (vkids.map Ob.t)])]) tab_ok Try.func4 rfl rfl Try.ntmps4 (rl := [.tmp 6]) rfl (Nat.le_of_ble_eq_true rfl) ?_
  refine WWD_seqB tab_ok mdE ?_
  simp only [go_sem]
  refine WWD_seqB tab_ok mdE ?_
  simp only [go_sem]
  refine act_split (fun h => ?_) (fun h => ?_) <;> simp only [go_sem] <;> simp only [decide_eq_true_eq, decide_eq_false_iff_not] at h
  · exact ⟨[.bool true], [], by simp only [go_sem], rfl, [], _, RAL_true, .refl _⟩
  have hk1 : key.size ≤ 1048576 := by omega
  clear h
  refine WWD_seqB tab_ok mdE ?_
  simp only [go_sem]
  refine WWD_seqB tab_ok mdE ?_
  rw [Ob.t_mk] at h6
  simp only [go_sem]
  refine act_callE h6 ?_
  simp only [go_sem]
  refine WWD_seqB tab_ok mdE ?_
  simp only [go_sem]
  refine act_split (fun h => ?_) (fun h => ?_) <;> simp only [go_sem] <;> simp only [decide_eq_true_eq, decide_eq_false_iff_not] at h
  · exact ⟨[.bool true], [], by simp only [go_sem], rfl, [], _, RAL_true, .refl _⟩
  have h6v := h6v sz (hsz0 _ h) hszl
  generalize szO (.mk vk vn vs vks vkids) sz = szv at h6v hrest
  refine WWD_seqB tab_ok mdE ?_
  rw [Ob.t_mk] at h6v
  simp only [go_sem]
  refine act_callE h6v ?_
  simp only [go_sem]
  refine WWD_seqB tab_ok mdE ?_
  simp only [go_sem]
  refine act_split (fun hv => ?_) (fun hv => ?_) <;> simp only [go_sem] <;> simp only [decide_eq_true_eq, decide_eq_false_iff_not] at hv
  · exact ⟨[.bool true], [], by simp only [go_sem], rfl, [], _, RAL_true, .refl _⟩
  obtain ⟨g, b, c8, c8v, c13, c14, c10, c10v, c10g, dd8, dd8v, dd14, hS, hSv, hSg, hno, hnv, hng⟩ := hrest hk1 h hv
  clear hrest hsz0 hszl h6 h6v
  obtain ⟨gk, gn, gs, gks, gkids⟩ := g
  rw [Ob.t_mk] at c8 c8v
  rw [Ob.t_mk k, Ob.t_mk vk, Ob.t_mk gk] at c13 c14
  -- the reference's answer
  refine WWD_seqB tab_ok mdE ?_
  simp only [go_sem]
  refine act_draw_of tab_ok mix mdE ?_
  simp only [go_sem]
  refine act_callE c8 ?_
  simp only [go_sem]
  refine act_callE c8v ?_
  simp only [go_sem]
  refine act_callE c13 ?_
  simp only [go_sem]
  refine ⟨drawOk_of (by kernel_rfl), ?_⟩
  -- trees of one's own
  refine WWD_seq ?_
  refine WWD_region tab_ok mdE 1 rfl rfl rfl ?_
  simp only [go_sem]
  refine ⟨_, _, [], [], [], dd8, ⟨_, _, _, rfl, rfl, RdA_obv _ _ _ _ _ _ _, rfl, rfl, rfl⟩, .refl _, ?_⟩
  rintro _ _ ⟨_, rfl, hra⟩
  obtain ⟨y, z, rfl, rfl⟩ := RAr_ob hra
  unfold restD obR obD
  simp only [go_sem]
  refine WWD_seq ?_
  refine WWD_region tab_ok mdE 1 rfl rfl rfl ?_
  simp only [go_sem]
  refine ⟨_, _, [], [], _, dd8v, ⟨_, _, _, rfl, rfl, RdA_obv _ _ _ _ _ _ _, rfl, rfl, rfl⟩, .refl _, ?_⟩
  rintro _ _ ⟨_, rfl, hra⟩
  obtain ⟨yv, zv, rfl, rfl⟩ := RAr_ob hra
  unfold restD obR obD
  simp only [go_sem]
  -- the program's answer
  refine WWD_seq ?_
  refine WWD_region tab_ok mdE 3 rfl rfl rfl ?_
  simp only [go_sem]
  refine ⟨_, _, [], [], _, dd14, ⟨_, _, _, rfl, rfl, RdA_ob _ _ k n s ks kids y z (by simp) (by simp), _, _, _, rfl, rfl, .inr rfl, _, _, _, rfl, rfl, RdA_ob _ _ vk vn vs vks vkids yv zv (by simp) (by simp), rfl, rfl, rfl⟩, .refl _, ?_⟩
  intro av dn hrv
  obtain ⟨y2, z2, rfl, rfl⟩ := ResV_ent hrv
  unfold restD obR obD
  simp only [go_sem]
  -- they are alike
  have hb : (b != b) = false := by simp
  have hb2 : (!(b == b)) = false := by simp
  refine WWD_seq ?_
  refine WWD_seq ?_
  refine WWD_region tab_ok mdE 2 rfl rfl rfl ?_
  simp only [go_sem]
  refine ⟨_, _, [], [], _, CSD_scal rfl c10g, ⟨_, _, _, rfl, rfl, RdA_ob _ _ gk gn gs gks gkids y2 z2 (by simp) (by simp), _, _, _, rfl, rfl, RdA_obv _ _ _ _ _ _ _, rfl, rfl, rfl⟩, .refl _, ?_⟩
  rintro _ _ ⟨_, rfl, rfl, _, rfl⟩
  unfold restD
  simp only [go_sem, hb, hb2]
  refine WWD_act tab_ok mdE ?_
  simp only [go_sem]
  -- the arguments stay
  refine WWD_seq ?_
  refine WWD_seq ?_
  refine WWD_draw tab_ok mix mdE [0,1,2,3,4] 3 3 rfl rfl rfl (by kernel_rfl) ?_
  simp only [go_sem]
  refine act_callE c8 ?_
  simp only [go_sem]
  refine ⟨⟨by kernel_rfl, by kernel_rfl⟩, ?_⟩
  refine ⟨_, _, [], [], _, CSD_scal rfl c10, ⟨_, _, _, rfl, rfl, RdA_ob _ _ k n s ks kids y z (by simp) (by simp), _, _, _, rfl, rfl, RdA_obv _ _ _ _ _ _ _, rfl, rfl, rfl⟩, .refl _, ?_⟩
  rintro _ _ ⟨_, rfl, rfl, _, rfl⟩
  unfold restDr
  simp only [go_sem]
  refine ⟨by kernel_rfl, ?_⟩
  refine WWD_act tab_ok mdE ?_
  simp only [go_sem]
  refine WWD_seq ?_
  refine WWD_seq ?_
  refine WWD_draw tab_ok mix mdE [0,1,2,3,4] 3 3 rfl rfl rfl (by kernel_rfl) ?_
  simp only [go_sem]
  refine act_callE c8v ?_
  simp only [go_sem]
  refine ⟨⟨by kernel_rfl, by kernel_rfl⟩, ?_⟩
  refine ⟨_, _, [], [], _, CSD_scal rfl c10v, ⟨_, _, _, rfl, rfl, RdA_ob _ _ vk vn vs vks vkids yv zv (by simp) (by simp), _, _, _, rfl, rfl, RdA_obv _ _ _ _ _ _ _, rfl, rfl, rfl⟩, .refl _, ?_⟩
  rintro _ _ ⟨_, rfl, rfl, _, rfl⟩
  unfold restDr
  simp only [go_sem]
  refine ⟨by kernel_rfl, ?_⟩
  refine WWD_act tab_ok mdE ?_
  simp only [go_sem]
  -- the arguments are marked
  refine WWD_seqB tab_ok mdE ?_
  simp only [go_sem]
  refine WWD_seq ?_
  refine WWD_region tab_ok mdE 2 rfl rfl rfl ?_
  simp only [go_sem]
  refine ⟨_, _, [(y, strs ks), (z, obs kids)], [(y, strs (mkL 1 ks.length)), (z, obs (mkKs kids (1 + ks.length)))], [(y2, strs gks), (z2, obs gkids), (yv, strs vks), (zv, obs vkids)], d11 (.mk k n s ks kids) hS 1 (by omega) (by omega), ⟨obR (.mk k n s ks kids) y z, _, [(y, strs ks), (z, obs kids)], [], [(y, strs (mkL 1 ks.length)), (z, obs (mkKs kids (1 + ks.length)))], [], rfl, rfl, rfl, RAr_mk _ y z, RAr_mk (mkTop (.mk k n s ks kids) 1) y z, _, _, _, rfl, rfl, .inr rfl, rfl, rfl, rfl⟩, ?_, ?_⟩
  · exact List.perm_append_comm (l₁ := [(y2, strs gks), (z2, obs gkids), (yv, strs vks), (zv, obs vkids)]) (l₂ := [(y, strs ks), (z, obs kids)])
  rintro _ _ ⟨_, rfl, rfl, _, rfl⟩
  unfold restD
  simp only [go_sem]
  generalize hmo : nmT (.mk k n s ks kids) = mo at hno
  refine WWD_seq ?_
  refine WWD_region tab_ok mdE 2 rfl rfl rfl ?_
  simp only [go_sem]
  refine ⟨_, _, [(yv, strs vks), (zv, obs vkids)], [(yv, strs (mkL (1 + mo) vks.length)), (zv, obs (mkKs vkids (1 + mo + vks.length)))], [(y, strs (mkL 1 ks.length)), (z, obs (mkKs kids (1 + ks.length))), (y2, strs gks), (z2, obs gkids)], d11 (.mk vk vn vs vks vkids) hSv (1 + mo) (by omega) (by omega), ⟨obR (.mk vk vn vs vks vkids) yv zv, _, [(yv, strs vks), (zv, obs vkids)], [], [(yv, strs (mkL (1 + mo) vks.length)), (zv, obs (mkKs vkids (1 + mo + vks.length)))], [], rfl, rfl, rfl, RAr_mk _ yv zv, RAr_mk (mkTop (.mk vk vn vs vks vkids) (1 + mo)) yv zv, _, _, _, rfl, rfl, .inr rfl, rfl, rfl, rfl⟩, ?_, ?_⟩
  · exact List.perm_append_comm (l₁ := [(y, strs (mkL 1 ks.length)), (z, obs (mkKs kids (1 + ks.length))), (y2, strs gks), (z2, obs gkids)]) (l₂ := [(yv, strs vks), (zv, obs vkids)])
  rintro _ _ ⟨_, rfl, rfl, _, rfl⟩
  unfold restD
  simp only [go_sem]
  have n2 : ∀ m : Nat, decide (((m : Nat) : Int) < 0) = false := fun m => by simp
  have n3 : ∀ m : Nat, (((m : Nat) : Int) != (m : Nat)) = false := fun m => by simp
  generalize hmv : 1 + mo + nmT (.mk vk vn vs vks vkids) = mv
  -- the answer does not hang on them
  refine WWD_seq ?_
  refine WWD_seq ?_
  refine WWD_region tab_ok mdE 5 rfl rfl rfl ?_
  simp only [go_sem, n2]
  refine ⟨_, _, [], [], _, CSD_scal rfl c10g, ⟨_, _, _, rfl, rfl, RdA_ob _ _ gk gn gs gks gkids y2 z2 (by simp) (by simp), _, _, _, rfl, rfl, RdA_obv _ _ _ _ _ _ _, rfl, rfl, rfl⟩, .refl _, ?_⟩
  rintro _ _ ⟨_, rfl, rfl, _, rfl⟩
  unfold restD
  simp only [go_sem, hb, hb2]
  refine WWD_act tab_ok mdE ?_
  simp only [go_sem]
  -- the answer is marked
  refine WWD_seqB tab_ok mdE ?_
  simp only [go_sem]
  refine WWD_seq ?_
  refine WWD_region tab_ok mdE 2 rfl rfl rfl ?_
  simp only [go_sem]
  have hm := d11 (.mk gk gn gs gks gkids) hSg 1 (by omega) (by omega)
  have hh := e12 (.mk gk gn gs gks gkids) hSg 1 (by omega) (by omega)
  generalize nmT (.mk gk gn gs gks gkids) = mg at hm hh
  refine ⟨_, _, [(y2, strs gks), (z2, obs gkids)], [(y2, strs (mkL 1 gks.length)), (z2, obs (mkKs gkids (1 + gks.length)))], [(yv, strs (mkL (1 + mo) vks.length)), (zv, obs (mkKs vkids (1 + mo + vks.length))), (y, strs (mkL 1 ks.length)), (z, obs (mkKs kids (1 + ks.length)))], hm, ⟨obR (.mk gk gn gs gks gkids) y2 z2, _, [(y2, strs gks), (z2, obs gkids)], [], [(y2, strs (mkL 1 gks.length)), (z2, obs (mkKs gkids (1 + gks.length)))], [], rfl, rfl, rfl, RAr_mk _ y2 z2, RAr_mk (mkTop (.mk gk gn gs gks gkids) 1) y2 z2, _, _, _, rfl, rfl, .inr rfl, rfl, rfl, rfl⟩, ?_, ?_⟩
  · exact List.perm_append_comm (l₁ := [(yv, strs (mkL (1 + mo) vks.length)), (zv, obs (mkKs vkids (1 + mo + vks.length))), (y, strs (mkL 1 ks.length)), (z, obs (mkKs kids (1 + ks.length)))]) (l₂ := [(y2, strs gks), (z2, obs gkids)])
  rintro _ _ ⟨_, rfl, rfl, _, rfl⟩
  unfold restD
  simp only [go_sem]
  -- it is held
  refine WWD_seqB tab_ok mdE ?_
  simp only [go_sem]
  refine WWD_seq ?_
  refine WWD_region tab_ok mdE 2 rfl rfl rfl ?_
  simp only [go_sem]
  refine ⟨[.b (.v (mkTop (.mk gk gn gs gks gkids) 1).t), .b (.v (.int .i64 ((1 : Nat) : Int)))], _, [], [], _, CSD_scal rfl hh, ⟨_, _, _, rfl, rfl, RdA_ob _ _ gk gn gs (mkL 1 gks.length) (mkKs gkids (1 + gks.length)) y2 z2 (by simp) (by simp), _, _, _, rfl, rfl, .inr rfl, rfl, rfl, rfl⟩, .refl _, ?_⟩
  rintro _ _ ⟨_, rfl, rfl, _, rfl⟩
  unfold restD
  simp only [go_sem]
  refine WWD_seqB tab_ok mdE ?_
  simp only [go_sem, n2]
  refine WWD_seqB tab_ok mdE ?_
  simp only [go_sem, n3]
  -- another call
  refine WWD_seqB tab_ok mdE ?_
  simp only [go_sem]
  refine act_draw_of tab_ok mix mdE ?_
  simp only [go_sem]
  refine act_callE c8 ?_
  simp only [go_sem]
  refine act_callE c8v ?_
  simp only [go_sem]
  refine act_callE c14 ?_
  simp only [go_sem]
  refine ⟨drawOk_of (by kernel_rfl), ?_⟩
  rw [Ob.t_mk gk] at c10g
  refine WWD_seqB tab_ok mdE ?_
  simp only [go_sem]
  refine act_callE c10g ?_
  simp only [go_sem, hb, hb2]
  refine WWD_seqB tab_ok mdE ?_
  simp only [go_sem]
  refine WWD_seq ?_
  refine WWD_region tab_ok mdE 2 rfl rfl rfl ?_
  simp only [go_sem]
  refine ⟨[.b (.v (mkTop (.mk gk gn gs gks gkids) 1).t), .b (.v (.int .i64 ((1 : Nat) : Int)))], _, [], [], _, CSD_scal rfl hh, ⟨_, _, _, rfl, rfl, RdA_ob _ _ gk gn gs (mkL 1 gks.length) (mkKs gkids (1 + gks.length)) y2 z2 (by simp) (by simp), _, _, _, rfl, rfl, .inr rfl, rfl, rfl, rfl⟩, .refl _, ?_⟩
  rintro _ _ ⟨_, rfl, rfl, _, rfl⟩
  unfold restD
  simp only [go_sem]
  refine WWD_seqB tab_ok mdE ?_
  simp only [go_sem, n2]
  refine WWD_seqB tab_ok mdE ?_
  simp only [go_sem, n3]
  refine WWD_act tab_ok mdE ?_
  simp only [go_sem]
  exact ⟨[.bool true], [], by simp only [go_sem], rfl, [], _, RAL_true, .refl _⟩
theorem c4 (o : Ob) (key : ByteArray) (v : Ob) (hW : Wd o) (hWv : Wd v) (hkey : key.size ≤ 9223372036854775807) : CS Try.prog false 4 [.v o.t, .v (.str key), .v v.t] [.bool true] [] := by
  obtain ⟨k, n, s, ks, kids⟩ := o
  obtain ⟨vk, vn, vs, vks, vkids⟩ := v
  exact CS_of_CSD rfl (d4 k n s ks kids key vk vn vs vks vkids hW hWv hkey)
end Go.Proofs.Ytjpcicjkbbbpiaa.M
