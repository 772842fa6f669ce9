/-
  DERIVED: THE SHELF's CONTRACTS AT THIS DUMP, IN PLAIN WORDS (tools/lay-plain.mjs out of 'TrydShelf0.lean', which tools/lay-shelf.mjs wrote): THE SAME DECLARATIONS UNDER THE SAME NAMES: 'import', 'namespace', 'open', 'def', 'theorem' AND NOTHING ELSE: no command of the shelf's: FOR A HAND-IN. Each laying: the table of numbers ('.._ren') and one theorem, a field a fact of the dump's own or the kernel's comparison; each contract: ONE APPLICATION.
-/
import Derived.Shelf.LaysM
import Derived.Shelf.Strconv.Itoa3
import Derived.Shelf.Strings.OnBuilder
import Derived.Test.YtbmibaopkfenbaaDoorProg
import Derived.Lib.AppendIntMem
import Derived.Test.YtbmibaopkfenbaaDoorKExactDocTextCard8
/-
  DERIVED: THE SHELF's CONTRACTS AT THIS DUMP, IN PLAIN WORDS (tools/lay-plain.mjs out of 'TrydShelf0.lean', which tools/lay-shelf.mjs wrote): THE SAME DECLARATIONS UNDER THE SAME NAMES: 'import', 'namespace', 'open', 'def', 'theorem' AND NOTHING ELSE: no command of the shelf's: FOR A HAND-IN. Each laying: the table of numbers ('.._ren') and one theorem, a field a fact of the dump's own or the kernel's comparison; each contract: ONE APPLICATION.
-/
namespace Go.Proofs
open Go.Shelf
def Tryd.lays156_ren : Go.Shelf.Ren := ⟨fun | 156 => 40 | 165 => 59 | 166 => 60 | 169 => 61 | 240 => 89 | 241 => 90 | 276 => 110 | 277 => 111 | n => n, fun | 31 => 22 | 9 => 9 | 3 => 3 | 4 => 4 | 0 => 0 | 20 => 20 | 72 => 96 | 76 => 100 | 70 => 94 | 37 => 46 | 75 => 99 | 127 => 126 | 164 => 143 | 5 => 5 | 80 => 102 | n => n, fun | n => n⟩
theorem Tryd.lays156 : Go.Proofs.Lays.n156 Tryd.prog Tryd.lays156_ren := {
  mixed := by kernel_rfl
  f156 := Tryd.func40.trans (congrArg some (by kernel_rfl))
  f165 := Tryd.func59.trans (congrArg some (by kernel_rfl))
  f166 := Tryd.func60.trans (congrArg some (by kernel_rfl))
  f169 := Tryd.func61.trans (congrArg some (by kernel_rfl))
  f240 := Tryd.func89.trans (congrArg some (by kernel_rfl))
  f241 := Tryd.func90.trans (congrArg some (by kernel_rfl))
  f276 := Tryd.func110.trans (congrArg some (by kernel_rfl))
  f277 := Tryd.func111.trans (congrArg some (by kernel_rfl))
  t0 := Tryd.underlying0
  a0 := Tryd.isAgg0
  z0 := Tryd.sizeOf0
  v0 := Tryd.zeroValue0
  t3 := Tryd.underlying3
  a3 := Tryd.isAgg3
  z3 := Tryd.sizeOf3
  v3 := Tryd.zeroValue3
  t4 := Tryd.underlying4
  a4 := Tryd.isAgg4
  z4 := Tryd.sizeOf4
  v4 := Tryd.zeroValue4
  t9 := Tryd.underlying9
  a9 := Tryd.isAgg9
  z9 := Tryd.sizeOf9
  v9 := Tryd.zeroValue9
  t20 := Tryd.underlying20
  a20 := Tryd.isAgg20
  z20 := Tryd.sizeOf20
  v20 := Tryd.zeroValue20
  t31 := Tryd.underlying22
  a31 := Tryd.isAgg22
  z31 := Tryd.sizeOf22
  v31 := Tryd.zeroValue22
  t37 := Tryd.underlying46
  a37 := Tryd.isAgg46
  z37 := Tryd.sizeOf46
  v37 := Tryd.zeroValue46
  t70 := Tryd.underlying94
  a70 := Tryd.isAgg94
  z70 := Tryd.sizeOf94
  v70 := Tryd.zeroValue94
  t72 := Tryd.underlying96
  a72 := Tryd.isAgg96
  z72 := Tryd.sizeOf96
  v72 := Tryd.zeroValue96
  t75 := Tryd.underlying99
  a75 := Tryd.isAgg99
  z75 := Tryd.sizeOf99
  v75 := Tryd.zeroValue99
  t76 := Tryd.underlying100
  a76 := Tryd.isAgg100
  z76 := Tryd.sizeOf100
  v76 := Tryd.zeroValue100
  t127 := Tryd.underlying126
  a127 := Tryd.isAgg126
  z127 := Tryd.sizeOf126
  v127 := Tryd.zeroValue126
  t164 := Tryd.underlying143
  a164 := Tryd.isAgg143
  z164 := Tryd.sizeOf143
  v164 := Tryd.zeroValue143 }
theorem Tryd.Builder_Extra_156 : Builder.Extra Tryd.prog Tryd.lays156_ren := {
  sizeBuilder := by kernel_rfl
  liesBuilder := by kernel_rfl
  t5 := Tryd.underlying5
  a5 := Tryd.isAgg5
  z5 := Tryd.sizeOf5
  v5 := Tryd.zeroValue5
  infoByte := by kernel_rfl
  cellsByte := by kernel_rfl
  sizeByte := by kernel_rfl
  neB5 := by decide }
open Go.RowKit in
/-- No element: the empty string; the world is as it was. (Whatever the slice's address and capacity: a nil slice too.) (LAID: no walk: one application.) -/
theorem Tryd.strings_Join_none (a : Option Addr) (c : Nat) (sep : ByteArray) (w : World) :
    Calls Tryd.prog 40 #[.slice a 0 c, .string sep] w fun e w' => e = .returned (.string ⟨#[]⟩) ∧ w' = w := Any.strings_Join_none Tryd.lays156 Tryd.Builder_Extra_156 a c sep w
open Go.RowKit in
/-- strings.Join: "Join concatenates the elements of its first argument to create a single string. The separator string sep is placed between elements in the resulting string.": HOWEVER MANY ELEMENTS. Below the heap's end the world is as it was. (LAID: no walk: one application.) -/
theorem Tryd.strings_Join (bk o c : Nat) (xs : List ByteArray) (sep : ByteArray) (w : World) (hcells : ∀ (j : Nat) x, xs[j]? = some x → w.cell? ⟨bk, o + j, none⟩ = some (.string x)) (hbk : bk < w.heap.size) (hN : xs.length ≤ 140737488355328) (hcap : xs.length ≤ c) (hlen : (Lib.join (xs.map (·.data.toList)) sep.data.toList).length ≤ 140737488355328) :
    Calls Tryd.prog 40 #[.slice (some ⟨bk, o, none⟩) xs.length c, .string sep] w fun e w' => e = .returned (.string ⟨(Lib.join (xs.map (·.data.toList)) sep.data.toList).toArray⟩) ∧ Below w.heap.size w w' := Any.strings_Join Tryd.lays156 Tryd.Builder_Extra_156 bk o c xs sep w hcells hbk hN hcap hlen
def Tryd.laysM171_ren : Go.Shelf.Ren := ⟨fun | 171 => 58 | 243 => 88 | 246 => 109 | 283 => 125 | 284 => 126 | 285 => 127 | 286 => 128 | 129 => 142 | 317 => 141 | 318 => 143 | 319 => 144 | 320 => 145 | 337 => 150 | 338 => 151 | n => n, fun | 3 => 3 | 9 => 9 | 2 => 2 | 4 => 4 | 171 => 155 | 0 => 0 | 53 => 121 | 37 => 46 | 5 => 5 | 173 => 158 | 212 => 169 | 51 => 118 | 20 => 20 | 213 => 170 | 46 => 90 | 232 => 181 | 233 => 182 | n => n, fun | 17 => 1 | 18 => 4 | 19 => 5 | n => n⟩
theorem Tryd.laysM171 : Go.Proofs.LaysM.n171 Tryd.prog Tryd.laysM171_ren := {
  mixed := by kernel_rfl
  f129 := Tryd.func142.trans (congrArg some (by kernel_rfl))
  f171 := Tryd.func58.trans (congrArg some (by kernel_rfl))
  f243 := Tryd.func88.trans (congrArg some (by kernel_rfl))
  f246 := Tryd.func109.trans (congrArg some (by kernel_rfl))
  f283 := Tryd.func125.trans (congrArg some (by kernel_rfl))
  f284 := Tryd.func126.trans (congrArg some (by kernel_rfl))
  f285 := Tryd.func127.trans (congrArg some (by kernel_rfl))
  f286 := Tryd.func128.trans (congrArg some (by kernel_rfl))
  f317 := Tryd.func141.trans (congrArg some (by kernel_rfl))
  f318 := Tryd.func143.trans (congrArg some (by kernel_rfl))
  f319 := Tryd.func144.trans (congrArg some (by kernel_rfl))
  f320 := Tryd.func145.trans (congrArg some (by kernel_rfl))
  f337 := Tryd.func150.trans (congrArg some (by kernel_rfl))
  f338 := Tryd.func151.trans (congrArg some (by kernel_rfl))
  t0 := Tryd.underlying0
  a0 := Tryd.isAgg0
  z0 := Tryd.sizeOf0
  v0 := Tryd.zeroValue0
  t2 := Tryd.underlying2
  a2 := Tryd.isAgg2
  z2 := Tryd.sizeOf2
  v2 := Tryd.zeroValue2
  t3 := Tryd.underlying3
  a3 := Tryd.isAgg3
  z3 := Tryd.sizeOf3
  v3 := Tryd.zeroValue3
  t4 := Tryd.underlying4
  a4 := Tryd.isAgg4
  z4 := Tryd.sizeOf4
  v4 := Tryd.zeroValue4
  t5 := Tryd.underlying5
  a5 := Tryd.isAgg5
  z5 := Tryd.sizeOf5
  v5 := Tryd.zeroValue5
  t9 := Tryd.underlying9
  a9 := Tryd.isAgg9
  z9 := Tryd.sizeOf9
  v9 := Tryd.zeroValue9
  t20 := Tryd.underlying20
  a20 := Tryd.isAgg20
  z20 := Tryd.sizeOf20
  v20 := Tryd.zeroValue20
  t37 := Tryd.underlying46
  a37 := Tryd.isAgg46
  z37 := Tryd.sizeOf46
  v37 := Tryd.zeroValue46
  t46 := Tryd.underlying90
  a46 := Tryd.isAgg90
  z46 := Tryd.sizeOf90
  v46 := Tryd.zeroValue90
  t51 := Tryd.underlying118
  a51 := Tryd.isAgg118
  z51 := Tryd.sizeOf118
  v51 := Tryd.zeroValue118
  t53 := Tryd.underlying121
  a53 := Tryd.isAgg121
  z53 := Tryd.sizeOf121
  v53 := Tryd.zeroValue121
  t171 := Tryd.underlying155
  a171 := Tryd.isAgg155
  z171 := Tryd.sizeOf155
  v171 := Tryd.zeroValue155
  t173 := Tryd.underlying158
  a173 := Tryd.isAgg158
  z173 := Tryd.sizeOf158
  v173 := Tryd.zeroValue158
  t212 := Tryd.underlying169
  a212 := Tryd.isAgg169
  z212 := Tryd.sizeOf169
  v212 := Tryd.zeroValue169
  t213 := Tryd.underlying170
  a213 := Tryd.isAgg170
  z213 := Tryd.sizeOf170
  t232 := Tryd.underlying181
  a232 := Tryd.isAgg181
  z232 := Tryd.sizeOf181
  v232 := Tryd.zeroValue181
  t233 := Tryd.underlying182
  a233 := Tryd.isAgg182
  z233 := Tryd.sizeOf182
  v233 := Tryd.zeroValue182
  g17 := by kernel_rfl
  g18 := by kernel_rfl
  g19 := by kernel_rfl
  i0 := by kernel_rfl
  i2 := by kernel_rfl
  i3 := by kernel_rfl
  i4 := by kernel_rfl
  i5 := by kernel_rfl
  i9 := by kernel_rfl
  i20 := by kernel_rfl
  i37 := by kernel_rfl
  i46 := by kernel_rfl
  i51 := by kernel_rfl
  i53 := by kernel_rfl
  i171 := by kernel_rfl
  i173 := by kernel_rfl
  i212 := by kernel_rfl
  i232 := by kernel_rfl
  i233 := by kernel_rfl
  m17 := by kernel_rfl
  m18 := by kernel_rfl
  m19 := by kernel_rfl }
open Go.RowKit Go.Sort Go.Lib in
/-- strconv.Itoa: "Itoa is equivalent to FormatInt(int64(i), 10).": i's DECIMAL NUMERAL ('Lib.itoa': a '-' where i is negative, then the digits), FOR EVERY int. The world behind the call: the world before it, new blocks behind the heap (the library's 'var a [24]byte'), draws. (LAID: no walk: one application.) -/
theorem Tryd.strconv_Itoa (n : Int) (h0 : -9223372036854775808 ≤ n) (h1 : n ≤ 9223372036854775807) (w : World) (htab : Lib.TabIs Tryd.prog w "internal/strconv.uint64pow10" .u64 Lib.pow10Tab) :
    Calls Tryd.prog 58 #[.int .i64 n] w fun e w' => e = .returned (.string ⟨(Lib.itoa n).toArray⟩) ∧ ∃ k os, w' = grow (w.drewN k) os := Any.strconv_Itoa Tryd.laysM171 n h0 h1 w htab
end Go.Proofs

/- Contracts for ShowObj, part 1: strconv.Itoa and strings.Join, out of the library's shelf. No condition. -/
namespace Go.Proofs.YtbmibaopkfenbaaDoor.M
open Go Go.Proofs Go.RowKit
set_option maxRecDepth 100000
set_option maxHeartbeats 2000000
set_option linter.unusedSimpArgs false
set_option linter.unusedVariables false
theorem fr_below {w w' : World} (h : Below w.heap.size w w') : Fr [] w w' := Fr.of _ _ _ h.os h.tape h.output h.size h.block
theorem gno_ok : Tryd.prog.globalNamed "internal/strconv.uint64pow10" = gno := by kernel_rfl
theorem gtab_ok : gtab = (Lib.pow10Tab.map fun z => Value.int .u64 z).toArray := by kernel_rfl
theorem tab_is {w : World} (h : GInv w) : Lib.TabIs Tryd.prog w "internal/strconv.uint64pow10" .u64 Lib.pow10Tab := by
  obtain ⟨t, f, h1⟩ := h 1 rfl
  unfold Lib.TabIs World.var?
  rw [gno_ok]
  show (match w.heap[1]? with | some (.cells cs _ _) => some cs | _ => none) = _
  rw [h1, ← gtab_ok]
theorem dw58 (n : Int) (h0 : -9223372036854775808 ≤ n) (h1 : n ≤ 9223372036854775807) : CS Tryd.prog false 58 [.v (.int .i64 n)] [.str (decS n)] [] := by
  intro G w vals bs hA hnd hbs hG
  obtain ⟨rfl, rfl⟩ := argsOk_scal (xs := [.int .i64 n]) (by simp [T.scal]) hA
  refine .inl ⟨by kernel_rfl, (Tryd.strconv_Itoa n h0 h1 w (tab_is hG.inv)).mono fun e w' ⟨he, k, os, hw⟩ => ?_⟩
  subst hw
  exact ⟨_, he, [], [], fr_below (Lib.below_grow w.heap.size w (Nat.le_refl _) k os), resOk_scal (x := .str (decS n)) rfl, outsOk_none [.int .i64 n] _ rfl, by simp, by simp⟩
theorem bs_mk (l : List UInt8) : bs l = ⟨l.toArray⟩ := rfl
theorem dw40 (l : List ByteArray) (sep : ByteArray) (hN : l.length ≤ 1048576) (hlen : (Lib.join (l.map (·.data.toList)) sep.data.toList).length ≤ 140737488355328) :
    CS Tryd.prog false 40 [.v (strs l), .v (.str sep)] [.str (bs (Lib.join (l.map (·.data.toList)) sep.data.toList))] [] := by
  intro G w vals bs' hA hnd hbs hG
  obtain ⟨v0, _, r0, _, rfl, rfl, ⟨rfl, h0⟩, v1, _, r1, _, rfl, rfl, ⟨rfl, h1⟩, rfl, rfl⟩ := hA
  cases h1
  refine .inl ⟨by kernel_rfl, ?_⟩
  have fin : ∀ {e : Ending} {w' : World}, e = .returned (.string ⟨(Lib.join (l.map (·.data.toList)) sep.data.toList).toArray⟩) → Below w.heap.size w w' → ∃ v, e = .returned v ∧ ∃ r1 r2, Fr [] w w' ∧ ResOk false (inV (fun b => G b ∨ (w.heap.size ≤ b ∨ b ∈ ([] : List Nat)) ∧ b ∉ r1 ++ r2) w') w' [.str (bs (Lib.join (l.map (·.data.toList)) sep.data.toList))] v r1 ∧
      OutsOk (inV (fun b => G b ∨ (w.heap.size ≤ b ∨ b ∈ ([] : List Nat)) ∧ b ∉ r1 ++ r2) w') w' [.v (strs l), .v (.str sep)] [v0, .string sep] [] r2 ∧ (r1 ++ r2).Nodup ∧ ∀ b ∈ r1 ++ r2, b < w'.heap.size ∧ (b ∈ ([] : List Nat) ∨ w.heap.size ≤ b) := fun he hb =>
    ⟨_, he, [], [], fr_below hb, resOk_scal (x := .str (bs _)) rfl, outsOk_none [strs l, .str sep] _ rfl, by simp, by simp⟩
  unfold strs at h0
  generalize hts : l.map T.str = ts at h0
  cases h0 with
  | nil =>
    have hl : l = [] := List.map_eq_nil_iff.1 hts
    subst hl
    exact (Tryd.strings_Join_none none 0 sep w).mono fun e w' ⟨he, hw⟩ => fin he (hw ▸ Below.refl _ _)
  | list _ _ a n c us hn hc hsz hul huv hu1 hux =>
    subst hts
    have hfl : flat (l.map T.str) = l.map T.str := by
      clear hul huv hu1 hux hlen hN hn hc hsz fin
      induction l with
      | nil => rfl
      | cons x r ih => show T.str x :: flat (r.map T.str) = _; rw [ih]; rfl
    rw [hfl] at hul hux
    have hcell : ∀ (j : Nat) x, l[j]? = some x → w.cell? (a.add j) = some (.string x) ∧ G a.block := fun j x hx => by
      have hj := (List.getElem?_eq_some_iff.1 hx).1
      obtain ⟨u, hu⟩ : ∃ u, us[j]? = some u := ⟨_, List.getElem?_eq_getElem (by rw [hul]; simpa using hj)⟩
      have h1 := hux j (.str x) u (by rw [List.getElem?_map, hx]; rfl) hu
      cases h1
      have := (inV_some (G := G)).1 (huv j _ hu)
      exact ⟨this.2, by have h := this.1; rwa [show (a.add j).block = a.block by unfold Addr.add; split <;> rfl] at h⟩
    obtain ⟨bk, o, sp⟩ := a
    have hn' : n = l.length := by simpa using hn
    subst hn'
    cases l with
    | nil => exact (Tryd.strings_Join_none _ c sep w).mono fun e w' ⟨he, hw⟩ => fin he (hw ▸ Below.refl _ _)
    | cons x0 r0 =>
      have hsp : sp = none := by
        have := (hcell 0 x0 rfl).1
        unfold World.cell? at this
        split at this
        · cases hs : sp with
          | none => rfl
          | some q => simp [Addr.add, hs] at this
        · cases this
      subst hsp
      refine (Tryd.strings_Join bk o c (x0 :: r0) sep w (fun j x hx => ?_) (hG.lt _ (hcell 0 x0 rfl).2) (by omega) hc hlen).mono fun e w' ⟨he, hb⟩ => fin he hb
      have := (hcell j x hx).1
      rwa [Addr.add_lit] at this
end Go.Proofs.YtbmibaopkfenbaaDoor.M

/- Contracts for ShowObj, part 2: the program's showObj. No condition. -/
namespace Go.Proofs.YtbmibaopkfenbaaDoor.M
open Go Go.Proofs
set_option maxRecDepth 100000
set_option maxHeartbeats 8000000
set_option linter.unusedSimpArgs false
set_option linter.unusedVariables false
theorem dw39 (n : Int) (h0 : -9223372036854775808 ≤ n) (h1 : n ≤ 9223372036854775807) : CS Tryd.prog false 39 [.v (.int .i64 n)] [.str (decS n)] [] := by
  refine CS_act tab_ok mdO Tryd.func39 rfl rfl Tryd.ntmps39 (rl := [.tmp 2]) rfl (Nat.le_of_ble_eq_true rfl) ?_
  simp only [go_sem]
  refine act_callE (dw58 n h0 h1) ?_
  simp only [go_sem]
theorem fig_tab : ∀ x : Fin 16, (((⟨#[48, 49, 50, 51, 52, 53, 54, 55, 56, 57, 97, 98, 99, 100, 101, 102]⟩ : ByteArray).data.getD x.val 0).toNat) = figN x.val := by decide +kernel
theorem dw49 (s : ByteArray) (h1 : s.size ≤ 200) : CS Tryd.prog false 49 [.v (.str s)] [.str (bs (hexL s.data.toList))] [] := by
  have hsl : s.data.toList.length = s.size := rfl
  refine CS_act tab_ok mdO Tryd.func49 rfl rfl Tryd.ntmps49 (rl := [.tmp 2]) rfl (Nat.le_of_ble_eq_true rfl) ?_
  simp only [go_sem]
  refine act_loop_of (md := mdO) tab_ok [0,3,7,8] [16] 2000 (ι := {i : Nat // i ≤ s.size})
    (fun i => ⟨[(0, .a (.c (.t (.str s)))), (3, .a (.c (.own 16 i.1 0 (2 * i.1)))), (7, .a (.c (.t (.int .i64 s.size)))), (8, .a (.c (.t (.int .i64 i.1))))], [(16, .arr 1 (hexT (s.data.toList.take i.1)) i.1)], 2000, 27⟩)
    (fun i => s.size - i.1) ⟨0, Nat.zero_le _⟩ (Nat.le_of_ble_eq_true rfl) (by simp only [go_sem]) (by simp only [go_sem]; rfl) fun i => ?_
  obtain ⟨i, hi⟩ := i
  dsimp only
  simp only [go_sem]
  have hlen : (hexT (s.data.toList.take i)).length = 2 * i := by rw [hexT_len, List.length_take]; omega
  by_cases hil : i < s.size
  · have e1 : decide ((i : Int) < s.size) = true := by simp; omega
    have hb : s.data.toList[i]? = some (s.data.getD i 0) := by
      have hh : i < s.data.size := hil
      rw [Array.getD, dif_pos hh, List.getElem?_eq_getElem (by simpa using hh)]
      simp
    have htk : s.data.toList.take (i + 1) = s.data.toList.take i ++ [s.data.getD i 0] := by rw [List.take_add_one, hb]; rfl
    have ht : ((i : Int)).toNat = i := rfl
    simp only [go_sem, e1]
    refine act_draw_of tab_ok mix mdO ?_
    simp only [go_sem, ht]
    generalize hB : s.data.getD i 0 = B at htk
    have hB8 : B.toNat < 256 := B.toNat_lt
    have t1 : IntKind.u8.wrap (((B.toNat : Int)).tdiv 16) = ((B.toNat / 16 : Nat) : Int) := by rw [Int.tdiv_eq_ediv_of_nonneg (by omega), IntKind.wrap_u8]; omega
    have t2 : ((B.toNat : Int)).tmod 16 = ((B.toNat % 16 : Nat) : Int) := by rw [Int.tmod_eq_emod_of_nonneg (by omega)]; rfl
    have f1 := fig_tab ⟨B.toNat / 16, by omega⟩
    have f2 := fig_tab ⟨B.toNat % 16, by omega⟩
    simp only at f1 f2
    refine ⟨by omega, by omega, by decide, ?_⟩
    rw [t1]
    refine ⟨by show ((B.toNat / 16 : Nat) : Int) < 16; omega, by omega, by omega, by omega, ?_⟩
    rw [t2]
    refine ⟨by omega, by show ((B.toNat % 16 : Nat) : Int) < 16; omega, ?_⟩
    simp only [Int.toNat_natCast, f1, f2]
    refine ⟨by rw [hlen], by rw [hlen]; omega, drawOk_of (by kernel_rfl), ?_⟩
    refine nextK_of ⟨i + 1, by omega⟩ (by simp only [go_sem]) ?_ (by dsimp only; omega)
    simp only [go_sem]
    rw [wrap64O (n := (i : Int) + 1) (by omega) (by omega), htk, hexT_app]
    rfl
  · obtain rfl : i = s.size := by omega
    have e1 : decide ((s.size : Int) < s.size) = false := by simp
    simp only [go_sem, e1]
    have hfull : s.data.toList.take s.size = s.data.toList := List.take_of_length_le (by omega)
    rw [hfull] at hlen ⊢
    rw [List.take_of_length_le (by omega)]
    exact ⟨isByte_hex _, by rw [bytes_hex]⟩
end Go.Proofs.YtbmibaopkfenbaaDoor.M

/- Contracts for ShowObj, part 3: the program's showObj, ShowObj. No condition. -/
namespace Go.Proofs.YtbmibaopkfenbaaDoor.M
open Go Go.Proofs
set_option maxRecDepth 100000
set_option maxHeartbeats 16000000
set_option linter.unusedSimpArgs false
set_option linter.unusedVariables false
abbrev W26 (o : Ob) : Prop := CS Tryd.prog false 26 [.v o.t] [.str (bs (showO o))] []
theorem join_lst : ∀ l : List (List UInt8), Lib.join l [32] = lstL l
  | [] => rfl
  | [x] => by rw [Lib.join_one]; rfl
  | x :: y :: r => by
    have h1 := Lib.join_cons x (y :: r) [32]
    have h2 := Lib.join_cons y r [32]
    have h3 := join_lst (y :: r)
    rw [h1, lstL, ← h3, h2]
    simp [Lib.joinTail]
theorem tx_data (kids : List Ob) : (kids.map fun o => bs (showO o)).map (·.data.toList) = kids.map showO := by
  rw [List.map_map]
  apply List.map_congr_left
  intro o _
  simp [bs]
theorem dw26 (k n : Int) (s : ByteArray) (ks : List ByteArray) (kids : List Ob) (hf : fieldsB k n s ks kids.length = true) (hn : ndL kids ≤ 120) (hok : ∀ o ∈ kids, OkO o) (hkl : kids.length ≤ 1048576) (hh : ∀ o ∈ kids, W26 o) : W26 (.mk k n s ks kids) := by
  have hsl := showL_len kids hok
  have hpre := lstL_pre (showL kids)
  have hdp := fun h i => dicL_pre ks (showL kids) i h
  rw [showL_map] at hsl hpre hdp
  have hfl := fields_of hf
  have hshow : ∀ j, j = k → showO (.mk k n s ks kids) = showO (.mk j n s ks kids) := fun j h => by rw [h]
  unfold W26
  generalize hX : bs (showO (.mk k n s ks kids)) = X
  rw [Ob.t_mk]
  refine CS_act tab_ok mdO Tryd.func26 rfl rfl Tryd.ntmps26 (rl := [.tmp 2]) rfl (Nat.le_of_ble_eq_true rfl) ?_
  simp only [go_sem, List.length_map]
  refine act_loop_of (md := mdO) tab_ok [1,3,11,12,13] [0,32] 2000 (ι := {i : Nat // i ≤ kids.length})
    (fun i => ⟨[(1, .a (.c (.ptr 0 0))), (3, .a (.c (.own 32 i.1 0 i.1))), (11, .a (.c (.t (.list 5 (kids.map Ob.t))))), (12, .a (.c (.t (.int .i64 kids.length)))), (13, .a (.c (.t (.int .i64 i.1))))],
      [(0, .box [.t (.int .i64 k), .t (.int .i64 n), .t (.str s), .t (.list 1 (ks.map T.str)), .t (.list 5 (kids.map Ob.t))]), (32, .arr 1 (((kids.map fun o => bs (showO o)).take i.1).map T.str) i.1)], 2000, 81⟩)
    (fun i => kids.length - i.1) ⟨0, Nat.zero_le _⟩ (Nat.le_of_ble_eq_true rfl) (by simp only [go_sem]) (by simp only [go_sem]; rfl) fun i => ?_
  obtain ⟨i, hi⟩ := i
  dsimp only
  simp only [go_sem, List.length_map]
  by_cases hil : i < kids.length
  · have e1 : decide ((i : Int) < kids.length) = true := by simp; omega
    obtain ⟨x, hx⟩ : ∃ x, kids[i]? = some x := ⟨_, List.getElem?_eq_getElem hil⟩
    have hc := hh x (List.mem_of_getElem? hx)
    have htk : (kids.map fun o => bs (showO o)).take (i + 1) = (kids.map fun o => bs (showO o)).take i ++ [bs (showO x)] := by rw [List.take_add_one, List.getElem?_map, hx]; rfl
    have hll : (((kids.map fun o => bs (showO o)).take i).map T.str).length = i := by simp; omega
    have w1 : IntKind.i64.wrap ((i : Int) + 1) = ((i + 1 : Nat) : Int) := wrap64O (by omega) (by omega)
    unfold W26 at hc
    obtain ⟨k', n', s', ks', kids'⟩ := x
    rw [Ob.t_mk] at hc
    simp only [go_sem, e1, List.getElem?_map, hx, List.length_map, Ob.t_mk]
    refine ⟨by omega, by omega, ?_⟩
    refine act_callE hc ?_
    simp only [go_sem]
    refine ⟨by rw [hll], by rw [hll]; omega, ?_⟩
    refine nextK_of ⟨i + 1, by omega⟩ (by simp only [go_sem]) ?_ (by dsimp only; omega)
    simp only [go_sem]
    rw [w1, htk, List.map_append]
    rfl
  · obtain rfl : i = kids.length := by omega
    have e1 : decide ((kids.length : Int) < kids.length) = false := by simp
    have hfull : (kids.map fun o => bs (showO o)).take kids.length = kids.map fun o => bs (showO o) := List.take_of_length_le (by simp)
    rw [hfull]
    simp only [go_sem, e1]
    rcases hfl with (rfl | rfl | rfl | rfl) | ⟨rfl, h1, h2⟩ | ⟨rfl, h1⟩ | ⟨rfl, h1⟩ | ⟨rfl, h1, h2⟩ | ⟨rfl, h1, h2⟩ <;> rw [showO] at hX <;> simp only [Int.reduceEq, if_true, if_false] at hX <;> subst hX <;> simp only [go_sem, Int.reduceBEq]
    · rfl
    · rfl
    · rfl
    · have h40 := dw40 (kids.map fun o => bs (showO o)) ⟨#[32]⟩ (by simpa using hkl)
      rw [tx_data] at h40
      have e32 : (⟨#[32]⟩ : ByteArray).data.toList = [32] := rfl
      rw [e32, join_lst] at h40
      have hp := hpre kids.length
      rw [List.take_of_length_le (by simp)] at hp
      have hj := h40 (by omega)
      unfold strs at hj
      rw [List.take_of_length_le (by simp)]
      refine act_callE hj ?_
      simp only [go_sem]
      have e2 : (⟨#[91]⟩ : ByteArray) = bs [91] := rfl
      have e3 : (⟨#[93]⟩ : ByteArray) = bs [93] := rfl
      rw [e2, e3, ← bs_app, ← bs_app]
      refine ⟨by simp only [bs_size, List.length_append, List.length_cons, List.length_nil, List.size_toArray]; omega, by simp only [bs_size, List.length_append, List.length_cons, List.length_nil, List.size_toArray]; omega, ?_⟩
      rw [showL_map]
      rfl
    · refine act_callE (dw39 n (by omega) (by omega)) ?_
      simp only [go_sem]
      rfl
    · refine ⟨by show 1 + _ ≤ _; omega, ?_⟩
      have : (⟨#[47]⟩ : ByteArray) ++ s = bs (47 :: s.data.toList) := by
        apply ByteArray.ext; simp [bs]
      rw [this]
    · refine act_callE (dw49 s h1) ?_
      simp only [go_sem]
      have hhx := hexL_len s.data.toList
      have hsz : s.data.toList.length = s.size := rfl
      have e2 : (⟨#[60]⟩ : ByteArray) = bs [60] := rfl
      have e3 : (⟨#[62]⟩ : ByteArray) = bs [62] := rfl
      rw [e2, e3, ← bs_app, ← bs_app]
      refine ⟨by simp only [bs_size, List.length_append, List.length_cons, List.length_nil, List.size_toArray]; omega, by simp only [bs_size, List.length_append, List.length_cons, List.length_nil, List.size_toArray]; omega, ?_⟩
      rfl
    · have hdp' := hdp h2
      refine act_loop_of (md := mdO) tab_ok [3,6,61,62,63] [32] 4000 (ι := {i : Nat // i ≤ kids.length})
        (fun i => ⟨[(3, .a (.c (.own 32 kids.length 0 kids.length))), (6, .a (.c (.t (.str (bs ([60, 60] ++ dicL (ks.take i.1) ((kids.map showO).take i.1))))))), (61, .a (.c (.t (.list 1 (ks.map T.str))))), (62, .a (.c (.t (.int .i64 ks.length)))), (63, .a (.c (.t (.int .i64 i.1))))],
          [(32, .arr 1 ((kids.map fun o => bs (showO o)).map T.str) kids.length)], 4000, 81⟩)
        (fun i => kids.length - i.1) ⟨0, Nat.zero_le _⟩ (Nat.le_of_ble_eq_true rfl) (by simp only [go_sem]) (by simp only [go_sem, List.length_map]; rfl) fun i => ?_
      obtain ⟨i, hi⟩ := i
      dsimp only
      simp only [go_sem, List.length_map]
      have hp := hdp' i
      by_cases hil : i < kids.length
      · have e1 : decide ((i : Int) < ks.length) = true := by simp; omega
        obtain ⟨x, hx⟩ : ∃ x, kids[i]? = some x := ⟨_, List.getElem?_eq_getElem hil⟩
        obtain ⟨q, hq⟩ : ∃ q, ks[i]? = some q := ⟨_, List.getElem?_eq_getElem (by omega)⟩
        have hqs : q.size ≤ 40 := h2 q (List.mem_of_getElem? hq)
        obtain ⟨ql, rfl⟩ : ∃ ql, q = bs ql := ⟨q.data.toList, by apply ByteArray.ext; simp [bs]⟩
        have hqd : (bs ql).data.toList = ql := by simp [bs]
        rw [bs_size] at hqs
        have hxl := show_len x (hok x (List.mem_of_getElem? hx))
        have hxn : ndO x ≤ 120 := Nat.le_trans (nd_mem hx) hn
        have htk : (kids.map showO).take (i + 1) = (kids.map showO).take i ++ [showO x] := by rw [List.take_add_one, List.getElem?_map, hx]; rfl
        have htq : ks.take (i + 1) = ks.take i ++ [bs ql] := by rw [List.take_add_one, hq]; rfl
        have w1 : IntKind.i64.wrap ((i : Int) + 1) = ((i + 1 : Nat) : Int) := wrap64O (by omega) (by omega)
        simp only [go_sem, e1, List.getElem?_map, hx, hq, List.length_map, Option.map_some]
        have e3 : (⟨#[32, 47]⟩ : ByteArray) = bs [32, 47] := rfl
        have e4 : (⟨#[32]⟩ : ByteArray) = bs [32] := rfl
        rw [e3, e4, ← bs_app, ← bs_app, ← bs_app, ← bs_app]
        refine ⟨by omega, by omega, by simp only [bs_size, List.length_append, List.length_cons, List.length_nil, List.size_toArray]; omega, by simp only [bs_size, List.length_append, List.length_cons, List.length_nil, List.size_toArray]; omega, by omega, by omega, by simp only [bs_size, List.length_append, List.length_cons, List.length_nil, List.size_toArray]; omega, by simp only [bs_size, List.length_append, List.length_cons, List.length_nil, List.size_toArray]; omega, ?_⟩
        refine nextK_of ⟨i + 1, by omega⟩ (by simp only [go_sem]) ?_ (by dsimp only; omega)
        simp only [go_sem]
        rw [w1, htk, htq, dicL_succ _ _ (by simp; omega), hqd]
        simp
      · obtain rfl : i = kids.length := by omega
        have e1 : decide ((kids.length : Int) < ks.length) = false := by simp; omega
        simp only [go_sem, e1]
        have hfull : (kids.map showO).take kids.length = kids.map showO := List.take_of_length_le (by simp)
        have hfull2 : ks.take kids.length = ks := List.take_of_length_le (by omega)
        rw [hfull, hfull2] at hp ⊢
        have e3 : (⟨#[32, 62, 62]⟩ : ByteArray) = bs [32, 62, 62] := rfl
        rw [e3, ← bs_app]
        refine ⟨by simp only [bs_size, List.length_append, List.length_cons, List.length_nil, List.size_toArray]; omega, ?_⟩
        rw [showL_map]; simp
    · refine act_callE (dw39 n (by omega) (by omega)) ?_
      simp only [go_sem]
      have hz := decS_size n (by omega)
      refine ⟨by show _ + 4 ≤ _; omega, ?_⟩
      have : (⟨#[32, 48, 32, 82]⟩ : ByteArray) = bs [32, 48, 32, 82] := rfl
      rw [this, decS, ← bs_app]
theorem dw26' : ∀ o : Ob, OkO o → Tn o → ndO o ≤ 120 → W26 o
  | .mk k n s ks kids, h, hT, hn => by
    rw [ndO] at hn
    cases h with
    | mk _ _ _ _ _ hf hk =>
      cases hT with
      | mk _ _ _ _ _ t0 t1 tk t2 t3 =>
        exact dw26 k n s ks kids hf (by omega) hk t2 fun o ho => by
          obtain ⟨i, hi⟩ := List.getElem?_of_mem ho
          have := nd_mem hi
          exact dw26' o (hk o ho) (t3 o ho) (by omega)
  decreasing_by
  have := List.sizeOf_lt_of_mem ho
  simp only [Ob.mk.sizeOf_spec]
  omega
theorem dw9 (o : Ob) (hT : Tn o) : CS Tryd.prog false 9 [.v o.t] [.str (shO o), .bool (decide (cntO o 0 ≤ 120))] [] := by
  have hok := oc27 o hT
  have h40 : cntO o 0 ≤ 120 → W26 o := fun h => by
    obtain ⟨a, b⟩ := ok_of_cnt o 0 h
    exact dw26' o a hT (by omega)
  unfold shO
  unfold W26 at h40
  obtain ⟨k, n, s, ks, kids⟩ := o
  rw [Ob.t_mk] at hok h40 ⊢
  refine CS_act tab_ok mdO Tryd.func9 rfl rfl Tryd.ntmps9 (rl := [.tmp 2, .tmp 3]) rfl (Nat.le_of_ble_eq_true rfl) ?_
  simp only [go_sem]
  refine act_callE hok ?_
  by_cases h : cntO (.mk k n s ks kids) 0 ≤ 120
  · have e : decide (cntO (.mk k n s ks kids) 0 ≤ 120) = true := by simp [h]
    simp only [go_sem, e]
    refine act_callE (h40 h) ?_
    simp only [go_sem, if_pos h]
  · have e : decide (cntO (.mk k n s ks kids) 0 ≤ 120) = false := by simp [h]
    simp only [go_sem, e, if_neg h]
/-- The law. -/
theorem dw3 (o : Ob) (hW : Wd o) : CS Tryd.prog false 3 [.v o.t] [.bool true] [] := by
  have h6 := oc19' o hW 1048576 (by omega) (by omega)
  have hrest : 0 ≤ szO o 1048576 → CS Tryd.prog false 8 [.v o.t] [o.t] [] ∧ CS Tryd.prog false 7 [.v o.t] [.str (shO o), .bool (decide (cntO o 0 ≤ 120))] [] ∧ CS Tryd.prog false 9 [.v o.t] [.str (shO o), .bool (decide (cntO o 0 ≤ 120))] [] ∧ CS Tryd.prog false 10 [.v o.t, .v o.t] [.bool true] [] := fun h => by
    have hT := tn_of_sz o 1048576 (by omega) h
    exact ⟨oc21' o hT.sm, ew26 o hT, dw9 o hT, oc23' o hT.sm⟩
  generalize szO o 1048576 = z at *
  generalize shO o = w at *
  generalize decide (cntO o 0 ≤ 120) = b at *
  obtain ⟨k, n, s, ks, kids⟩ := o
  rw [Ob.t_mk] at *
  refine CS_act tab_ok mdO Tryd.func3 rfl rfl Tryd.ntmps3 (rl := [.tmp 2]) rfl (Nat.le_of_ble_eq_true rfl) ?_
  simp only [go_sem]
  refine act_callE h6 ?_
  simp only [go_sem]
  refine act_split (fun h => ?_) (fun h => ?_) <;> simp only [go_sem] <;> simp only [decide_eq_true_eq, decide_eq_false_iff_not] at h
  obtain ⟨h8, h7, h9, h10⟩ := hrest (by omega)
  refine act_callE h8 ?_
  simp only [go_sem]
  refine act_callE h7 ?_
  simp only [go_sem]
  refine act_callE h8 ?_
  simp only [go_sem]
  refine act_callE h9 ?_
  simp only [go_sem, bne_self_eq_false, beq_self_eq_true, Bool.not_true]
  refine act_draw_of tab_ok mix mdO ?_
  simp only [go_sem]
  refine act_callE h8 ?_
  simp only [go_sem]
  refine act_callE h10 ?_
  simp only [go_sem, Bool.not_true]
  exact drawOk_of (by kernel_rfl)
end Go.Proofs.YtbmibaopkfenbaaDoor.M
