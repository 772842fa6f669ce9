/- FnExactShowObj: for all trees the program's ShowObj and the reference's answer alike, and the argument stays as it was; where the library's tables read as the program's own text lays them. No condition. -/
import Derived.Shelf.LaysM
import Derived.Shelf.Strconv.Itoa3
import Derived.Shelf.Strings.OnBuilder
import Derived.Test.YtbmibaopkfenbaaDoorProg
import Derived.Lib.AppendIntMem
import Derived.ChangeArms
import Derived.Test.YtbmibaopkfenbaaDoorCards
import Derived.Test.YtbmibaopkfenbaaDoorTie
import Derived.Lay
import Derived.MakeChecks
import Derived.LaidOnce
import Derived.Handed
import Derived.SevenTiedAt
import Derived.Test.YtbmibaopkfenbaaDoorKExactShowObjCard6
/-
  DERIVED: THE SHELF's CONTRACTS AT THIS DUMP, IN PLAIN WORDS (tools/lay-plain.mjs out of 'TrydShelf0.lean', which tools/lay-shelf.mjs wrote): THE SAME DECLARATIONS UNDER THE SAME NAMES: 'import', 'namespace', 'open', 'def', 'theorem' AND NOTHING ELSE: no command of the shelf's: FOR A HAND-IN. Each laying: the table of numbers ('.._ren') and one theorem, a field a fact of the dump's own or the kernel's comparison; each contract: ONE APPLICATION.
-/
namespace Go.Proofs
open Go.Shelf
def Tryd.lays156_ren : Go.Shelf.Ren := ⟨fun | 156 => 40 | 165 => 59 | 166 => 60 | 169 => 61 | 240 => 89 | 241 => 90 | 276 => 110 | 277 => 111 | n => n, fun | 31 => 22 | 9 => 9 | 3 => 3 | 4 => 4 | 0 => 0 | 20 => 20 | 72 => 96 | 76 => 100 | 70 => 94 | 37 => 46 | 75 => 99 | 127 => 126 | 164 => 143 | 5 => 5 | 80 => 102 | n => n, fun | n => n⟩
theorem Tryd.lays156 : Go.Proofs.Lays.n156 Tryd.prog Tryd.lays156_ren := {
  mixed := by kernel_rfl
  f156 := Tryd.func40.trans (congrArg some (by kernel_rfl))
  f165 := Tryd.func59.trans (congrArg some (by kernel_rfl))
  f166 := Tryd.func60.trans (congrArg some (by kernel_rfl))
  f169 := Tryd.func61.trans (congrArg some (by kernel_rfl))
  f240 := Tryd.func89.trans (congrArg some (by kernel_rfl))
  f241 := Tryd.func90.trans (congrArg some (by kernel_rfl))
  f276 := Tryd.func110.trans (congrArg some (by kernel_rfl))
  f277 := Tryd.func111.trans (congrArg some (by kernel_rfl))
  t0 := Tryd.underlying0
  a0 := Tryd.isAgg0
  z0 := Tryd.sizeOf0
  v0 := Tryd.zeroValue0
  t3 := Tryd.underlying3
  a3 := Tryd.isAgg3
  z3 := Tryd.sizeOf3
  v3 := Tryd.zeroValue3
  t4 := Tryd.underlying4
  a4 := Tryd.isAgg4
  z4 := Tryd.sizeOf4
  v4 := Tryd.zeroValue4
  t9 := Tryd.underlying9
  a9 := Tryd.isAgg9
  z9 := Tryd.sizeOf9
  v9 := Tryd.zeroValue9
  t20 := Tryd.underlying20
  a20 := Tryd.isAgg20
  z20 := Tryd.sizeOf20
  v20 := Tryd.zeroValue20
  t31 := Tryd.underlying22
  a31 := Tryd.isAgg22
  z31 := Tryd.sizeOf22
  v31 := Tryd.zeroValue22
  t37 := Tryd.underlying46
  a37 := Tryd.isAgg46
  z37 := Tryd.sizeOf46
  v37 := Tryd.zeroValue46
  t70 := Tryd.underlying94
  a70 := Tryd.isAgg94
  z70 := Tryd.sizeOf94
  v70 := Tryd.zeroValue94
  t72 := Tryd.underlying96
  a72 := Tryd.isAgg96
  z72 := Tryd.sizeOf96
  v72 := Tryd.zeroValue96
  t75 := Tryd.underlying99
  a75 := Tryd.isAgg99
  z75 := Tryd.sizeOf99
  v75 := Tryd.zeroValue99
  t76 := Tryd.underlying100
  a76 := Tryd.isAgg100
  z76 := Tryd.sizeOf100
  v76 := Tryd.zeroValue100
  t127 := Tryd.underlying126
  a127 := Tryd.isAgg126
  z127 := Tryd.sizeOf126
  v127 := Tryd.zeroValue126
  t164 := Tryd.underlying143
  a164 := Tryd.isAgg143
  z164 := Tryd.sizeOf143
  v164 := Tryd.zeroValue143 }
theorem Tryd.Builder_Extra_156 : Builder.Extra Tryd.prog Tryd.lays156_ren := {
  sizeBuilder := by kernel_rfl
  liesBuilder := by kernel_rfl
  t5 := Tryd.underlying5
  a5 := Tryd.isAgg5
  z5 := Tryd.sizeOf5
  v5 := Tryd.zeroValue5
  infoByte := by kernel_rfl
  cellsByte := by kernel_rfl
  sizeByte := by kernel_rfl
  neB5 := by decide }
open Go.RowKit in
/-- No element: the empty string; the world is as it was. (Whatever the slice's address and capacity: a nil slice too.) (LAID: no walk: one application.) -/
theorem Tryd.strings_Join_none (a : Option Addr) (c : Nat) (sep : ByteArray) (w : World) :
    Calls Tryd.prog 40 #[.slice a 0 c, .string sep] w fun e w' => e = .returned (.string ⟨#[]⟩) ∧ w' = w := Any.strings_Join_none Tryd.lays156 Tryd.Builder_Extra_156 a c sep w
open Go.RowKit in
/-- strings.Join: "Join concatenates the elements of its first argument to create a single string. The separator string sep is placed between elements in the resulting string.": HOWEVER MANY ELEMENTS. Below the heap's end the world is as it was. (LAID: no walk: one application.) -/
theorem Tryd.strings_Join (bk o c : Nat) (xs : List ByteArray) (sep : ByteArray) (w : World) (hcells : ∀ (j : Nat) x, xs[j]? = some x → w.cell? ⟨bk, o + j, none⟩ = some (.string x)) (hbk : bk < w.heap.size) (hN : xs.length ≤ 140737488355328) (hcap : xs.length ≤ c) (hlen : (Lib.join (xs.map (·.data.toList)) sep.data.toList).length ≤ 140737488355328) :
    Calls Tryd.prog 40 #[.slice (some ⟨bk, o, none⟩) xs.length c, .string sep] w fun e w' => e = .returned (.string ⟨(Lib.join (xs.map (·.data.toList)) sep.data.toList).toArray⟩) ∧ Below w.heap.size w w' := Any.strings_Join Tryd.lays156 Tryd.Builder_Extra_156 bk o c xs sep w hcells hbk hN hcap hlen
def Tryd.laysM171_ren : Go.Shelf.Ren := ⟨fun | 171 => 58 | 243 => 88 | 246 => 109 | 283 => 125 | 284 => 126 | 285 => 127 | 286 => 128 | 129 => 142 | 317 => 141 | 318 => 143 | 319 => 144 | 320 => 145 | 337 => 150 | 338 => 151 | n => n, fun | 3 => 3 | 9 => 9 | 2 => 2 | 4 => 4 | 171 => 155 | 0 => 0 | 53 => 121 | 37 => 46 | 5 => 5 | 173 => 158 | 212 => 169 | 51 => 118 | 20 => 20 | 213 => 170 | 46 => 90 | 232 => 181 | 233 => 182 | n => n, fun | 17 => 1 | 18 => 4 | 19 => 5 | n => n⟩
theorem Tryd.laysM171 : Go.Proofs.LaysM.n171 Tryd.prog Tryd.laysM171_ren := {
  mixed := by kernel_rfl
  f129 := Tryd.func142.trans (congrArg some (by kernel_rfl))
  f171 := Tryd.func58.trans (congrArg some (by kernel_rfl))
  f243 := Tryd.func88.trans (congrArg some (by kernel_rfl))
  f246 := Tryd.func109.trans (congrArg some (by kernel_rfl))
  f283 := Tryd.func125.trans (congrArg some (by kernel_rfl))
  f284 := Tryd.func126.trans (congrArg some (by kernel_rfl))
  f285 := Tryd.func127.trans (congrArg some (by kernel_rfl))
  f286 := Tryd.func128.trans (congrArg some (by kernel_rfl))
  f317 := Tryd.func141.trans (congrArg some (by kernel_rfl))
  f318 := Tryd.func143.trans (congrArg some (by kernel_rfl))
  f319 := Tryd.func144.trans (congrArg some (by kernel_rfl))
  f320 := Tryd.func145.trans (congrArg some (by kernel_rfl))
  f337 := Tryd.func150.trans (congrArg some (by kernel_rfl))
  f338 := Tryd.func151.trans (congrArg some (by kernel_rfl))
  t0 := Tryd.underlying0
  a0 := Tryd.isAgg0
  z0 := Tryd.sizeOf0
  v0 := Tryd.zeroValue0
  t2 := Tryd.underlying2
  a2 := Tryd.isAgg2
  z2 := Tryd.sizeOf2
  v2 := Tryd.zeroValue2
  t3 := Tryd.underlying3
  a3 := Tryd.isAgg3
  z3 := Tryd.sizeOf3
  v3 := Tryd.zeroValue3
  t4 := Tryd.underlying4
  a4 := Tryd.isAgg4
  z4 := Tryd.sizeOf4
  v4 := Tryd.zeroValue4
  t5 := Tryd.underlying5
  a5 := Tryd.isAgg5
  z5 := Tryd.sizeOf5
  v5 := Tryd.zeroValue5
  t9 := Tryd.underlying9
  a9 := Tryd.isAgg9
  z9 := Tryd.sizeOf9
  v9 := Tryd.zeroValue9
  t20 := Tryd.underlying20
  a20 := Tryd.isAgg20
  z20 := Tryd.sizeOf20
  v20 := Tryd.zeroValue20
  t37 := Tryd.underlying46
  a37 := Tryd.isAgg46
  z37 := Tryd.sizeOf46
  v37 := Tryd.zeroValue46
  t46 := Tryd.underlying90
  a46 := Tryd.isAgg90
  z46 := Tryd.sizeOf90
  v46 := Tryd.zeroValue90
  t51 := Tryd.underlying118
  a51 := Tryd.isAgg118
  z51 := Tryd.sizeOf118
  v51 := Tryd.zeroValue118
  t53 := Tryd.underlying121
  a53 := Tryd.isAgg121
  z53 := Tryd.sizeOf121
  v53 := Tryd.zeroValue121
  t171 := Tryd.underlying155
  a171 := Tryd.isAgg155
  z171 := Tryd.sizeOf155
  v171 := Tryd.zeroValue155
  t173 := Tryd.underlying158
  a173 := Tryd.isAgg158
  z173 := Tryd.sizeOf158
  v173 := Tryd.zeroValue158
  t212 := Tryd.underlying169
  a212 := Tryd.isAgg169
  z212 := Tryd.sizeOf169
  v212 := Tryd.zeroValue169
  t213 := Tryd.underlying170
  a213 := Tryd.isAgg170
  z213 := Tryd.sizeOf170
  t232 := Tryd.underlying181
  a232 := Tryd.isAgg181
  z232 := Tryd.sizeOf181
  v232 := Tryd.zeroValue181
  t233 := Tryd.underlying182
  a233 := Tryd.isAgg182
  z233 := Tryd.sizeOf182
  v233 := Tryd.zeroValue182
  g17 := by kernel_rfl
  g18 := by kernel_rfl
  g19 := by kernel_rfl
  i0 := by kernel_rfl
  i2 := by kernel_rfl
  i3 := by kernel_rfl
  i4 := by kernel_rfl
  i5 := by kernel_rfl
  i9 := by kernel_rfl
  i20 := by kernel_rfl
  i37 := by kernel_rfl
  i46 := by kernel_rfl
  i51 := by kernel_rfl
  i53 := by kernel_rfl
  i171 := by kernel_rfl
  i173 := by kernel_rfl
  i212 := by kernel_rfl
  i232 := by kernel_rfl
  i233 := by kernel_rfl
  m17 := by kernel_rfl
  m18 := by kernel_rfl
  m19 := by kernel_rfl }
open Go.RowKit Go.Sort Go.Lib in
/-- strconv.Itoa: "Itoa is equivalent to FormatInt(int64(i), 10).": i's DECIMAL NUMERAL ('Lib.itoa': a '-' where i is negative, then the digits), FOR EVERY int. The world behind the call: the world before it, new blocks behind the heap (the library's 'var a [24]byte'), draws. (LAID: no walk: one application.) -/
theorem Tryd.strconv_Itoa (n : Int) (h0 : -9223372036854775808 ≤ n) (h1 : n ≤ 9223372036854775807) (w : World) (htab : Lib.TabIs Tryd.prog w "internal/strconv.uint64pow10" .u64 Lib.pow10Tab) :
    Calls Tryd.prog 58 #[.int .i64 n] w fun e w' => e = .returned (.string ⟨(Lib.itoa n).toArray⟩) ∧ ∃ k os, w' = grow (w.drewN k) os := Any.strconv_Itoa Tryd.laysM171 n h0 h1 w htab
end Go.Proofs

/- Contracts for ShowObj, part 1: strconv.Itoa and strings.Join, out of the library's shelf. No condition. -/
namespace Go.Proofs.YtbmibaopkfenbaaDoor.M
open Go Go.Proofs Go.RowKit
set_option maxRecDepth 100000
set_option maxHeartbeats 2000000
set_option linter.unusedSimpArgs false
set_option linter.unusedVariables false
theorem fr_below {w w' : World} (h : Below w.heap.size w w') : Fr [] w w' := Fr.of _ _ _ h.os h.tape h.output h.size h.block
theorem gno_ok : Tryd.prog.globalNamed "internal/strconv.uint64pow10" = gno := by kernel_rfl
theorem gtab_ok : gtab = (Lib.pow10Tab.map fun z => Value.int .u64 z).toArray := by kernel_rfl
theorem tab_is {w : World} (h : GInv w) : Lib.TabIs Tryd.prog w "internal/strconv.uint64pow10" .u64 Lib.pow10Tab := by
  obtain ⟨t, f, h1⟩ := h 1 rfl
  unfold Lib.TabIs World.var?
  rw [gno_ok]
  show (match w.heap[1]? with | some (.cells cs _ _) => some cs | _ => none) = _
  rw [h1, ← gtab_ok]
theorem dw58 (n : Int) (h0 : -9223372036854775808 ≤ n) (h1 : n ≤ 9223372036854775807) : CS Tryd.prog false 58 [.v (.int .i64 n)] [.str (decS n)] [] := by
  intro G w vals bs hA hnd hbs hG
  obtain ⟨rfl, rfl⟩ := argsOk_scal (xs := [.int .i64 n]) (by simp [T.scal]) hA
  refine .inl ⟨by kernel_rfl, (Tryd.strconv_Itoa n h0 h1 w (tab_is hG.inv)).mono fun e w' ⟨he, k, os, hw⟩ => ?_⟩
  subst hw
  exact ⟨_, he, [], [], fr_below (Lib.below_grow w.heap.size w (Nat.le_refl _) k os), resOk_scal (x := .str (decS n)) rfl, outsOk_none [.int .i64 n] _ rfl, by simp, by simp⟩
theorem bs_mk (l : List UInt8) : bs l = ⟨l.toArray⟩ := rfl
theorem dw40 (l : List ByteArray) (sep : ByteArray) (hN : l.length ≤ 1048576) (hlen : (Lib.join (l.map (·.data.toList)) sep.data.toList).length ≤ 140737488355328) :
    CS Tryd.prog false 40 [.v (strs l), .v (.str sep)] [.str (bs (Lib.join (l.map (·.data.toList)) sep.data.toList))] [] := by
  intro G w vals bs' hA hnd hbs hG
  obtain ⟨v0, _, r0, _, rfl, rfl, ⟨rfl, h0⟩, v1, _, r1, _, rfl, rfl, ⟨rfl, h1⟩, rfl, rfl⟩ := hA
  cases h1
  refine .inl ⟨by kernel_rfl, ?_⟩
  have fin : ∀ {e : Ending} {w' : World}, e = .returned (.string ⟨(Lib.join (l.map (·.data.toList)) sep.data.toList).toArray⟩) → Below w.heap.size w w' → ∃ v, e = .returned v ∧ ∃ r1 r2, Fr [] w w' ∧ ResOk false (inV (fun b => G b ∨ (w.heap.size ≤ b ∨ b ∈ ([] : List Nat)) ∧ b ∉ r1 ++ r2) w') w' [.str (bs (Lib.join (l.map (·.data.toList)) sep.data.toList))] v r1 ∧
      OutsOk (inV (fun b => G b ∨ (w.heap.size ≤ b ∨ b ∈ ([] : List Nat)) ∧ b ∉ r1 ++ r2) w') w' [.v (strs l), .v (.str sep)] [v0, .string sep] [] r2 ∧ (r1 ++ r2).Nodup ∧ ∀ b ∈ r1 ++ r2, b < w'.heap.size ∧ (b ∈ ([] : List Nat) ∨ w.heap.size ≤ b) := fun he hb =>
    ⟨_, he, [], [], fr_below hb, resOk_scal (x := .str (bs _)) rfl, outsOk_none [strs l, .str sep] _ rfl, by simp, by simp⟩
  unfold strs at h0
  generalize hts : l.map T.str = ts at h0
  cases h0 with
  | nil =>
    have hl : l = [] := List.map_eq_nil_iff.1 hts
    subst hl
    exact (Tryd.strings_Join_none none 0 sep w).mono fun e w' ⟨he, hw⟩ => fin he (hw ▸ Below.refl _ _)
  | list _ _ a n c us hn hc hsz hul huv hu1 hux =>
    subst hts
    have hfl : flat (l.map T.str) = l.map T.str := by
      clear hul huv hu1 hux hlen hN hn hc hsz fin
      induction l with
      | nil => rfl
      | cons x r ih => show T.str x :: flat (r.map T.str) = _; rw [ih]; rfl
    rw [hfl] at hul hux
    have hcell : ∀ (j : Nat) x, l[j]? = some x → w.cell? (a.add j) = some (.string x) ∧ G a.block := fun j x hx => by
      have hj := (List.getElem?_eq_some_iff.1 hx).1
      obtain ⟨u, hu⟩ : ∃ u, us[j]? = some u := ⟨_, List.getElem?_eq_getElem (by rw [hul]; simpa using hj)⟩
      have h1 := hux j (.str x) u (by rw [List.getElem?_map, hx]; rfl) hu
      cases h1
      have := (inV_some (G := G)).1 (huv j _ hu)
      exact ⟨this.2, by have h := this.1; rwa [show (a.add j).block = a.block by unfold Addr.add; split <;> rfl] at h⟩
    obtain ⟨bk, o, sp⟩ := a
    have hn' : n = l.length := by simpa using hn
    subst hn'
    cases l with
    | nil => exact (Tryd.strings_Join_none _ c sep w).mono fun e w' ⟨he, hw⟩ => fin he (hw ▸ Below.refl _ _)
    | cons x0 r0 =>
      have hsp : sp = none := by
        have := (hcell 0 x0 rfl).1
        unfold World.cell? at this
        split at this
        · cases hs : sp with
          | none => rfl
          | some q => simp [Addr.add, hs] at this
        · cases this
      subst hsp
      refine (Tryd.strings_Join bk o c (x0 :: r0) sep w (fun j x hx => ?_) (hG.lt _ (hcell 0 x0 rfl).2) (by omega) hc hlen).mono fun e w' ⟨he, hb⟩ => fin he hb
      have := (hcell j x hx).1
      rwa [Addr.add_lit] at this
end Go.Proofs.YtbmibaopkfenbaaDoor.M

/- Contracts for ShowObj, part 2: the program's showObj. No condition. -/
namespace Go.Proofs.YtbmibaopkfenbaaDoor.M
open Go Go.Proofs
set_option maxRecDepth 100000
set_option maxHeartbeats 8000000
set_option linter.unusedSimpArgs false
set_option linter.unusedVariables false
theorem dw39 (n : Int) (h0 : -9223372036854775808 ≤ n) (h1 : n ≤ 9223372036854775807) : CS Tryd.prog false 39 [.v (.int .i64 n)] [.str (decS n)] [] := by
  refine CS_act tab_ok mdO Tryd.func39 rfl rfl Tryd.ntmps39 (rl := [.tmp 2]) rfl (Nat.le_of_ble_eq_true rfl) ?_
  simp only [go_sem]
  refine act_callE (dw58 n h0 h1) ?_
  simp only [go_sem]
theorem fig_tab : ∀ x : Fin 16, (((⟨#[48, 49, 50, 51, 52, 53, 54, 55, 56, 57, 97, 98, 99, 100, 101, 102]⟩ : ByteArray).data.getD x.val 0).toNat) = figN x.val := by decide +kernel
theorem dw49 (s : ByteArray) (h1 : s.size ≤ 200) : CS Tryd.prog false 49 [.v (.str s)] [.str (bs (hexL s.data.toList))] [] := by
  have hsl : s.data.toList.length = s.size := rfl
  refine CS_act tab_ok mdO Tryd.func49 rfl rfl Tryd.ntmps49 (rl := [.tmp 2]) rfl (Nat.le_of_ble_eq_true rfl) ?_
  simp only [go_sem]
  refine act_loop_of (md := mdO) tab_ok [0,3,7,8] [16] 2000 (ι := {i : Nat // i ≤ s.size})
    (fun i => ⟨[(0, .a (.c (.t (.str s)))), (3, .a (.c (.own 16 i.1 0 (2 * i.1)))), (7, .a (.c (.t (.int .i64 s.size)))), (8, .a (.c (.t (.int .i64 i.1))))], [(16, .arr 1 (hexT (s.data.toList.take i.1)) i.1)], 2000, 27⟩)
    (fun i => s.size - i.1) ⟨0, Nat.zero_le _⟩ (Nat.le_of_ble_eq_true rfl) (by simp only [go_sem]) (by simp only [go_sem]; rfl) fun i => ?_
  obtain ⟨i, hi⟩ := i
  dsimp only
  simp only [go_sem]
  have hlen : (hexT (s.data.toList.take i)).length = 2 * i := by rw [hexT_len, List.length_take]; omega
  by_cases hil : i < s.size
  · have e1 : decide ((i : Int) < s.size) = true := by simp; omega
    have hb : s.data.toList[i]? = some (s.data.getD i 0) := by
      have hh : i < s.data.size := hil
      rw [Array.getD, dif_pos hh, List.getElem?_eq_getElem (by simpa using hh)]
      simp
    have htk : s.data.toList.take (i + 1) = s.data.toList.take i ++ [s.data.getD i 0] := by rw [List.take_add_one, hb]; rfl
    have ht : ((i : Int)).toNat = i := rfl
    simp only [go_sem, e1]
    refine act_draw_of tab_ok mix mdO ?_
    simp only [go_sem, ht]
    generalize hB : s.data.getD i 0 = B at htk
    have hB8 : B.toNat < 256 := B.toNat_lt
    have t1 : IntKind.u8.wrap (((B.toNat : Int)).tdiv 16) = ((B.toNat / 16 : Nat) : Int) := by rw [Int.tdiv_eq_ediv_of_nonneg (by omega), IntKind.wrap_u8]; omega
    have t2 : ((B.toNat : Int)).tmod 16 = ((B.toNat % 16 : Nat) : Int) := by rw [Int.tmod_eq_emod_of_nonneg (by omega)]; rfl
    have f1 := fig_tab ⟨B.toNat / 16, by omega⟩
    have f2 := fig_tab ⟨B.toNat % 16, by omega⟩
    simp only at f1 f2
    refine ⟨by omega, by omega, by decide, ?_⟩
    rw [t1]
    refine ⟨by show ((B.toNat / 16 : Nat) : Int) < 16; omega, by omega, by omega, by omega, ?_⟩
    rw [t2]
    refine ⟨by omega, by show ((B.toNat % 16 : Nat) : Int) < 16; omega, ?_⟩
    simp only [Int.toNat_natCast, f1, f2]
    refine ⟨by rw [hlen], by rw [hlen]; omega, drawOk_of (by kernel_rfl), ?_⟩
    refine nextK_of ⟨i + 1, by omega⟩ (by simp only [go_sem]) ?_ (by dsimp only; omega)
    simp only [go_sem]
    rw [wrap64O (n := (i : Int) + 1) (by omega) (by omega), htk, hexT_app]
    rfl
  · obtain rfl : i = s.size := by omega
    have e1 : decide ((s.size : Int) < s.size) = false := by simp
    simp only [go_sem, e1]
    have hfull : s.data.toList.take s.size = s.data.toList := List.take_of_length_le (by omega)
    rw [hfull] at hlen ⊢
    rw [List.take_of_length_le (by omega)]
    exact ⟨isByte_hex _, by rw [bytes_hex]⟩
end Go.Proofs.YtbmibaopkfenbaaDoor.M

/- Contracts for ShowObj, part 3: the program's showObj, ShowObj. No condition. -/
namespace Go.Proofs.YtbmibaopkfenbaaDoor.M
open Go Go.Proofs
set_option maxRecDepth 100000
set_option maxHeartbeats 16000000
set_option linter.unusedSimpArgs false
set_option linter.unusedVariables false
abbrev W26 (o : Ob) : Prop := CS Tryd.prog false 26 [.v o.t] [.str (bs (showO o))] []
theorem join_lst : ∀ l : List (List UInt8), Lib.join l [32] = lstL l
  | [] => rfl
  | [x] => by rw [Lib.join_one]; rfl
  | x :: y :: r => by
    have h1 := Lib.join_cons x (y :: r) [32]
    have h2 := Lib.join_cons y r [32]
    have h3 := join_lst (y :: r)
    rw [h1, lstL, ← h3, h2]
    simp [Lib.joinTail]
theorem tx_data (kids : List Ob) : (kids.map fun o => bs (showO o)).map (·.data.toList) = kids.map showO := by
  rw [List.map_map]
  apply List.map_congr_left
  intro o _
  simp [bs]
theorem dw26 (k n : Int) (s : ByteArray) (ks : List ByteArray) (kids : List Ob) (hf : fieldsB k n s ks kids.length = true) (hn : ndL kids ≤ 120) (hok : ∀ o ∈ kids, OkO o) (hkl : kids.length ≤ 1048576) (hh : ∀ o ∈ kids, W26 o) : W26 (.mk k n s ks kids) := by
  have hsl := showL_len kids hok
  have hpre := lstL_pre (showL kids)
  have hdp := fun h i => dicL_pre ks (showL kids) i h
  rw [showL_map] at hsl hpre hdp
  have hfl := fields_of hf
  have hshow : ∀ j, j = k → showO (.mk k n s ks kids) = showO (.mk j n s ks kids) := fun j h => by rw [h]
  unfold W26
  generalize hX : bs (showO (.mk k n s ks kids)) = X
  rw [Ob.t_mk]
  refine CS_act tab_ok mdO Tryd.func26 rfl rfl Tryd.ntmps26 (rl := [.tmp 2]) rfl (Nat.le_of_ble_eq_true rfl) ?_
  simp only [go_sem, List.length_map]
  refine act_loop_of (md := mdO) tab_ok [1,3,11,12,13] [0,32] 2000 (ι := {i : Nat // i ≤ kids.length})
    (fun i => ⟨[(1, .a (.c (.ptr 0 0))), (3, .a (.c (.own 32 i.1 0 i.1))), (11, .a (.c (.t (.list 5 (kids.map Ob.t))))), (12, .a (.c (.t (.int .i64 kids.length)))), (13, .a (.c (.t (.int .i64 i.1))))],
      [(0, .box [.t (.int .i64 k), .t (.int .i64 n), .t (.str s), .t (.list 1 (ks.map T.str)), .t (.list 5 (kids.map Ob.t))]), (32, .arr 1 (((kids.map fun o => bs (showO o)).take i.1).map T.str) i.1)], 2000, 81⟩)
    (fun i => kids.length - i.1) ⟨0, Nat.zero_le _⟩ (Nat.le_of_ble_eq_true rfl) (by simp only [go_sem]) (by simp only [go_sem]; rfl) fun i => ?_
  obtain ⟨i, hi⟩ := i
  dsimp only
  simp only [go_sem, List.length_map]
  by_cases hil : i < kids.length
  · have e1 : decide ((i : Int) < kids.length) = true := by simp; omega
    obtain ⟨x, hx⟩ : ∃ x, kids[i]? = some x := ⟨_, List.getElem?_eq_getElem hil⟩
    have hc := hh x (List.mem_of_getElem? hx)
    have htk : (kids.map fun o => bs (showO o)).take (i + 1) = (kids.map fun o => bs (showO o)).take i ++ [bs (showO x)] := by rw [List.take_add_one, List.getElem?_map, hx]; rfl
    have hll : (((kids.map fun o => bs (showO o)).take i).map T.str).length = i := by simp; omega
    have w1 : IntKind.i64.wrap ((i : Int) + 1) = ((i + 1 : Nat) : Int) := wrap64O (by omega) (by omega)
    unfold W26 at hc
    obtain ⟨k', n', s', ks', kids'⟩ := x
    rw [Ob.t_mk] at hc
    simp only [go_sem, e1, List.getElem?_map, hx, List.length_map, Ob.t_mk]
    refine ⟨by omega, by omega, ?_⟩
    refine act_callE hc ?_
    simp only [go_sem]
    refine ⟨by rw [hll], by rw [hll]; omega, ?_⟩
    refine nextK_of ⟨i + 1, by omega⟩ (by simp only [go_sem]) ?_ (by dsimp only; omega)
    simp only [go_sem]
    rw [w1, htk, List.map_append]
    rfl
  · obtain rfl : i = kids.length := by omega
    have e1 : decide ((kids.length : Int) < kids.length) = false := by simp
    have hfull : (kids.map fun o => bs (showO o)).take kids.length = kids.map fun o => bs (showO o) := List.take_of_length_le (by simp)
    rw [hfull]
    simp only [go_sem, e1]
    rcases hfl with (rfl | rfl | rfl | rfl) | ⟨rfl, h1, h2⟩ | ⟨rfl, h1⟩ | ⟨rfl, h1⟩ | ⟨rfl, h1, h2⟩ | ⟨rfl, h1, h2⟩ <;> rw [showO] at hX <;> simp only [Int.reduceEq, if_true, if_false] at hX <;> subst hX <;> simp only [go_sem, Int.reduceBEq]
    · rfl
    · rfl
    · rfl
    · have h40 := dw40 (kids.map fun o => bs (showO o)) ⟨#[32]⟩ (by simpa using hkl)
      rw [tx_data] at h40
      have e32 : (⟨#[32]⟩ : ByteArray).data.toList = [32] := rfl
      rw [e32, join_lst] at h40
      have hp := hpre kids.length
      rw [List.take_of_length_le (by simp)] at hp
      have hj := h40 (by omega)
      unfold strs at hj
      rw [List.take_of_length_le (by simp)]
      refine act_callE hj ?_
      simp only [go_sem]
      have e2 : (⟨#[91]⟩ : ByteArray) = bs [91] := rfl
      have e3 : (⟨#[93]⟩ : ByteArray) = bs [93] := rfl
      rw [e2, e3, ← bs_app, ← bs_app]
      refine ⟨by simp only [bs_size, List.length_append, List.length_cons, List.length_nil, List.size_toArray]; omega, by simp only [bs_size, List.length_append, List.length_cons, List.length_nil, List.size_toArray]; omega, ?_⟩
      rw [showL_map]
      rfl
    · refine act_callE (dw39 n (by omega) (by omega)) ?_
      simp only [go_sem]
      rfl
    · refine ⟨by show 1 + _ ≤ _; omega, ?_⟩
      have : (⟨#[47]⟩ : ByteArray) ++ s = bs (47 :: s.data.toList) := by
        apply ByteArray.ext; simp [bs]
      rw [this]
    · refine act_callE (dw49 s h1) ?_
      simp only [go_sem]
      have hhx := hexL_len s.data.toList
      have hsz : s.data.toList.length = s.size := rfl
      have e2 : (⟨#[60]⟩ : ByteArray) = bs [60] := rfl
      have e3 : (⟨#[62]⟩ : ByteArray) = bs [62] := rfl
      rw [e2, e3, ← bs_app, ← bs_app]
      refine ⟨by simp only [bs_size, List.length_append, List.length_cons, List.length_nil, List.size_toArray]; omega, by simp only [bs_size, List.length_append, List.length_cons, List.length_nil, List.size_toArray]; omega, ?_⟩
      rfl
    · have hdp' := hdp h2
      refine act_loop_of (md := mdO) tab_ok [3,6,61,62,63] [32] 4000 (ι := {i : Nat // i ≤ kids.length})
        (fun i => ⟨[(3, .a (.c (.own 32 kids.length 0 kids.length))), (6, .a (.c (.t (.str (bs ([60, 60] ++ dicL (ks.take i.1) ((kids.map showO).take i.1))))))), (61, .a (.c (.t (.list 1 (ks.map T.str))))), (62, .a (.c (.t (.int .i64 ks.length)))), (63, .a (.c (.t (.int .i64 i.1))))],
          [(32, .arr 1 ((kids.map fun o => bs (showO o)).map T.str) kids.length)], 4000, 81⟩)
        (fun i => kids.length - i.1) ⟨0, Nat.zero_le _⟩ (Nat.le_of_ble_eq_true rfl) (by simp only [go_sem]) (by simp only [go_sem, List.length_map]; rfl) fun i => ?_
      obtain ⟨i, hi⟩ := i
      dsimp only
      simp only [go_sem, List.length_map]
      have hp := hdp' i
      by_cases hil : i < kids.length
      · have e1 : decide ((i : Int) < ks.length) = true := by simp; omega
        obtain ⟨x, hx⟩ : ∃ x, kids[i]? = some x := ⟨_, List.getElem?_eq_getElem hil⟩
        obtain ⟨q, hq⟩ : ∃ q, ks[i]? = some q := ⟨_, List.getElem?_eq_getElem (by omega)⟩
        have hqs : q.size ≤ 40 := h2 q (List.mem_of_getElem? hq)
        obtain ⟨ql, rfl⟩ : ∃ ql, q = bs ql := ⟨q.data.toList, by apply ByteArray.ext; simp [bs]⟩
        have hqd : (bs ql).data.toList = ql := by simp [bs]
        rw [bs_size] at hqs
        have hxl := show_len x (hok x (List.mem_of_getElem? hx))
        have hxn : ndO x ≤ 120 := Nat.le_trans (nd_mem hx) hn
        have htk : (kids.map showO).take (i + 1) = (kids.map showO).take i ++ [showO x] := by rw [List.take_add_one, List.getElem?_map, hx]; rfl
        have htq : ks.take (i + 1) = ks.take i ++ [bs ql] := by rw [List.take_add_one, hq]; rfl
        have w1 : IntKind.i64.wrap ((i : Int) + 1) = ((i + 1 : Nat) : Int) := wrap64O (by omega) (by omega)
        simp only [go_sem, e1, List.getElem?_map, hx, hq, List.length_map, Option.map_some]
        have e3 : (⟨#[32, 47]⟩ : ByteArray) = bs [32, 47] := rfl
        have e4 : (⟨#[32]⟩ : ByteArray) = bs [32] := rfl
        rw [e3, e4, ← bs_app, ← bs_app, ← bs_app, ← bs_app]
        refine ⟨by omega, by omega, by simp only [bs_size, List.length_append, List.length_cons, List.length_nil, List.size_toArray]; omega, by simp only [bs_size, List.length_append, List.length_cons, List.length_nil, List.size_toArray]; omega, by omega, by omega, by simp only [bs_size, List.length_append, List.length_cons, List.length_nil, List.size_toArray]; omega, by simp only [bs_size, List.length_append, List.length_cons, List.length_nil, List.size_toArray]; omega, ?_⟩
        refine nextK_of ⟨i + 1, by omega⟩ (by simp only [go_sem]) ?_ (by dsimp only; omega)
        simp only [go_sem]
        rw [w1, htk, htq, dicL_succ _ _ (by simp; omega), hqd]
        simp
      · obtain rfl : i = kids.length := by omega
        have e1 : decide ((kids.length : Int) < ks.length) = false := by simp; omega
        simp only [go_sem, e1]
        have hfull : (kids.map showO).take kids.length = kids.map showO := List.take_of_length_le (by simp)
        have hfull2 : ks.take kids.length = ks := List.take_of_length_le (by omega)
        rw [hfull, hfull2] at hp ⊢
        have e3 : (⟨#[32, 62, 62]⟩ : ByteArray) = bs [32, 62, 62] := rfl
        rw [e3, ← bs_app]
        refine ⟨by simp only [bs_size, List.length_append, List.length_cons, List.length_nil, List.size_toArray]; omega, ?_⟩
        rw [showL_map]; simp
    · refine act_callE (dw39 n (by omega) (by omega)) ?_
      simp only [go_sem]
      have hz := decS_size n (by omega)
      refine ⟨by show _ + 4 ≤ _; omega, ?_⟩
      have : (⟨#[32, 48, 32, 82]⟩ : ByteArray) = bs [32, 48, 32, 82] := rfl
      rw [this, decS, ← bs_app]
theorem dw26' : ∀ o : Ob, OkO o → Tn o → ndO o ≤ 120 → W26 o
  | .mk k n s ks kids, h, hT, hn => by
    rw [ndO] at hn
    cases h with
    | mk _ _ _ _ _ hf hk =>
      cases hT with
      | mk _ _ _ _ _ t0 t1 tk t2 t3 =>
        exact dw26 k n s ks kids hf (by omega) hk t2 fun o ho => by
          obtain ⟨i, hi⟩ := List.getElem?_of_mem ho
          have := nd_mem hi
          exact dw26' o (hk o ho) (t3 o ho) (by omega)
  decreasing_by
  have := List.sizeOf_lt_of_mem ho
  simp only [Ob.mk.sizeOf_spec]
  omega
theorem dw9 (o : Ob) (hT : Tn o) : CS Tryd.prog false 9 [.v o.t] [.str (shO o), .bool (decide (cntO o 0 ≤ 120))] [] := by
  have hok := oc27 o hT
  have h40 : cntO o 0 ≤ 120 → W26 o := fun h => by
    obtain ⟨a, b⟩ := ok_of_cnt o 0 h
    exact dw26' o a hT (by omega)
  unfold shO
  unfold W26 at h40
  obtain ⟨k, n, s, ks, kids⟩ := o
  rw [Ob.t_mk] at hok h40 ⊢
  refine CS_act tab_ok mdO Tryd.func9 rfl rfl Tryd.ntmps9 (rl := [.tmp 2, .tmp 3]) rfl (Nat.le_of_ble_eq_true rfl) ?_
  simp only [go_sem]
  refine act_callE hok ?_
  by_cases h : cntO (.mk k n s ks kids) 0 ≤ 120
  · have e : decide (cntO (.mk k n s ks kids) 0 ≤ 120) = true := by simp [h]
    simp only [go_sem, e]
    refine act_callE (h40 h) ?_
    simp only [go_sem, if_pos h]
  · have e : decide (cntO (.mk k n s ks kids) 0 ≤ 120) = false := by simp [h]
    simp only [go_sem, e, if_neg h]
/-- The law. -/
theorem dw3 (o : Ob) (hW : Wd o) : CS Tryd.prog false 3 [.v o.t] [.bool true] [] := by
  have h6 := oc19' o hW 1048576 (by omega) (by omega)
  have hrest : 0 ≤ szO o 1048576 → CS Tryd.prog false 8 [.v o.t] [o.t] [] ∧ CS Tryd.prog false 7 [.v o.t] [.str (shO o), .bool (decide (cntO o 0 ≤ 120))] [] ∧ CS Tryd.prog false 9 [.v o.t] [.str (shO o), .bool (decide (cntO o 0 ≤ 120))] [] ∧ CS Tryd.prog false 10 [.v o.t, .v o.t] [.bool true] [] := fun h => by
    have hT := tn_of_sz o 1048576 (by omega) h
    exact ⟨oc21' o hT.sm, ew26 o hT, dw9 o hT, oc23' o hT.sm⟩
  generalize szO o 1048576 = z at *
  generalize shO o = w at *
  generalize decide (cntO o 0 ≤ 120) = b at *
  obtain ⟨k, n, s, ks, kids⟩ := o
  rw [Ob.t_mk] at *
  refine CS_act tab_ok mdO Tryd.func3 rfl rfl Tryd.ntmps3 (rl := [.tmp 2]) rfl (Nat.le_of_ble_eq_true rfl) ?_
  simp only [go_sem]
  refine act_callE h6 ?_
  simp only [go_sem]
  refine act_split (fun h => ?_) (fun h => ?_) <;> simp only [go_sem] <;> simp only [decide_eq_true_eq, decide_eq_false_iff_not] at h
  obtain ⟨h8, h7, h9, h10⟩ := hrest (by omega)
  refine act_callE h8 ?_
  simp only [go_sem]
  refine act_callE h7 ?_
  simp only [go_sem]
  refine act_callE h8 ?_
  simp only [go_sem]
  refine act_callE h9 ?_
  simp only [go_sem, bne_self_eq_false, beq_self_eq_true, Bool.not_true]
  refine act_draw_of tab_ok mix mdO ?_
  simp only [go_sem]
  refine act_callE h8 ?_
  simp only [go_sem]
  refine act_callE h10 ?_
  simp only [go_sem, Bool.not_true]
  exact drawOk_of (by kernel_rfl)
end Go.Proofs.YtbmibaopkfenbaaDoor.M

/- A machine of values: what an argument reads as is held by its cells: numbers, strings, lists, structs. No condition. -/
namespace Go.Proofs.YtbmibaopkfenbaaDoor.M
open Go
set_option linter.unusedVariables false
section
variable {H : Type} {enc : TypeId × Value → H} {sp : Nat → Bool} {held : Bool} {W : World} {n : Nat} {t e : TypeId} {sz : Nat} {good : List T → Prop}
noncomputable abbrev All (W : World) : Addr → Option Value := inV (· < W.heap.size) W
/-- Cells that read as data of type t, with so much fuel, are held, and good. -/
def At (enc : TypeId × Value → H) (sp : Nat → Bool) (held : Bool) (W : World) (n : Nat) (t : TypeId) (good : List T → Prop) : Prop :=
  ∀ cs y, DataW.trod enc Tryd.prog W 0 sp held n t cs = some y → ∃ ts, HoldL (All W) ts cs ∧ good ts
theorem At.mono {good' : List T → Prop} (h : At enc sp held W n t good) (hg : ∀ x, good x → good' x) : At enc sp held W n t good' := fun cs y hy => by
  obtain ⟨x, hx, hgx⟩ := h cs y hy
  exact ⟨x, hx, hg x hgx⟩
theorem At.zero : At enc sp held W 0 t good := fun cs y h => by simp [DataW.trod] at h
theorem HoldL.one {S : Addr → Option Value} {x : T} {v : Value} (h : Hold S x v) (h1 : v.oneCell' = true) : HoldL S [x] [v] :=
  ⟨rfl, by simp [h1], fun j t u a b => by
    cases j with
    | zero => cases a; cases b; exact h
    | succ j => simp at a⟩
theorem HoldL.appO {S : Addr → Option Value} {x y : List T} {u v : List Value} (h : HoldL S x u) (k : HoldL S y v) : HoldL S (x ++ y) (u ++ v) := by
  refine ⟨by simp [h.1, k.1], fun w hw => ?_, fun j t w a b => ?_⟩
  · rcases List.mem_append.1 hw with hw | hw
    · exact h.2.1 w hw
    · exact k.2.1 w hw
  · by_cases hj : j < x.length
    · rw [List.getElem?_append_left hj] at a
      rw [List.getElem?_append_left (by rw [h.1]; exact hj)] at b
      exact h.2.2 j t w a b
    · rw [List.getElem?_append_right (by omega)] at a
      rw [List.getElem?_append_right (by rw [h.1]; omega), h.1] at b
      exact k.2.2 _ t w a b
theorem HoldL.nil {S : Addr → Option Value} : HoldL S [] [] := ⟨rfl, by simp, by simp⟩
theorem At.int {k : IntKind} (ht : Tryd.prog.underlying t = some (.int k)) : At enc sp held W n t (fun ts => ∃ x, ts = [.int k x] ∧ (Lit.int k x).wf = true) := fun cs y h => by
  obtain ⟨x, rfl, _, hx⟩ := DataW.trod_int ht h
  exact ⟨[.int k x], HoldL.one (.int k x) rfl, x, rfl, hx⟩
theorem At.bool (ht : Tryd.prog.underlying t = some .bool) : At enc sp held W n t (fun ts => ∃ x, ts = [.bool x]) := fun cs y h => by
  obtain ⟨x, rfl, _⟩ := DataW.trod_bool ht h
  exact ⟨[.bool x], HoldL.one (.bool x) rfl, x, rfl⟩
theorem At.string (ht : Tryd.prog.underlying t = some .string) : At enc sp held W n t (fun ts => ∃ x, ts = [.str x] ∧ x.size ≤ 9223372036854775807) := fun cs y h => by
  obtain ⟨x, rfl, _, hx⟩ := DataW.trod_string ht h
  exact ⟨[.str x], HoldL.one (.str x) rfl, x, rfl, hx⟩
theorem pick {α : Type} {P : Nat → α → Prop} (len : Nat) (h : ∀ i, i < len → ∃ x, P i x) : ∃ xs : List α, xs.length = len ∧ ∀ i x, xs[i]? = some x → P i x := by
  induction len with
  | zero => exact ⟨[], rfl, fun i x h => by simp at h⟩
  | succ len ih =>
    obtain ⟨xs, hl, hx⟩ := ih (fun i hi => h i (by omega))
    obtain ⟨y, hy⟩ := h len (by omega)
    refine ⟨xs ++ [y], by simp [hl], fun i x hi => ?_⟩
    rcases Nat.lt_or_ge i xs.length with hlt | hge
    · rw [List.getElem?_append_left hlt] at hi
      exact hx i x hi
    · have : i = len := by
        have := (List.getElem?_eq_some_iff.1 hi).1
        rw [List.length_append, List.length_singleton] at this
        omega
      subst this
      have hxy : x = y := by rw [← hl] at hi; simpa using hi.symm
      rw [hxy]
      exact hy
/-- Rows one behind the other. -/
theorem rows {S : Addr → Option Value} {a : Addr} {mk : List T → T} : ∀ (rs : List (List T × List Value)) (k : Nat), (∀ i r, rs[i]? = some r → HoldL S r.1 r.2 ∧ r.2.length = sz ∧ (mk r.1).cells = r.1 ∧ ∀ (j : Nat) v, r.2[j]? = some v → S (a.add ((k + i) * sz + j)) = some v) →
    HoldL S (flat (rs.map fun r => mk r.1)) (rs.flatMap (·.2)) ∧ ∀ (j : Nat) v, (rs.flatMap (·.2))[j]? = some v → S (a.add (k * sz + j)) = some v
  | [], k, _ => ⟨HoldL.nil, by simp⟩
  | r :: rs, k, h => by
    obtain ⟨h1, h2, h3, h4⟩ := h 0 r rfl
    obtain ⟨g1, g2⟩ := rows rs (k + 1) fun i r hr => by
      have := h (i + 1) r hr
      rwa [show k + (i + 1) = k + 1 + i by omega] at this
    simp only [List.map_cons, List.flatMap_cons, flat_cons, h3]
    refine ⟨h1.appO g1, fun j v hj => ?_⟩
    by_cases hjl : j < r.2.length
    · rw [List.getElem?_append_left hjl] at hj
      simpa using h4 j v hj
    · rw [List.getElem?_append_right (by omega)] at hj
      have := g2 _ v hj
      rwa [show (k + 1) * sz + (j - r.2.length) = k * sz + j by rw [Nat.add_mul]; omega] at this
theorem At.slice (mk : List T → T) (ht : Tryd.prog.underlying t = some (.slice e)) (hc : Tryd.prog.cellsOf e = sz) (h : At enc sp held W n e good) (hmk : ∀ ts, good ts → (mk ts).cells = ts ∧ ts.length = sz) :
    At enc sp held W (n + 1) t (fun ts => ∃ tss : List (List T), ts = [.list sz (tss.map mk)] ∧ tss.length ≤ 9223372036854775807 ∧ ∀ x ∈ tss, good x) := by
  intro cs y hy
  rcases DataW.trod_slice ht hy with ⟨rfl, _⟩ | ⟨a, len, cap, elems, rest, m, hm, rfl, _, _, hlc, hcm, hel, hels, _, _⟩
  · exact ⟨[.list sz []], HoldL.one (.nil sz) rfl, [], rfl, by simp, by simp⟩
  · obtain rfl : n = m := by omega
    have one : ∀ i, i < len → ∃ r : List T × List Value, W.cells? 0 (a.add (i * Tryd.prog.cellsOf e)) (Tryd.prog.cellsOf e) = some r.2 ∧ HoldL (All W) r.1 r.2 ∧ good r.1 := by
      intro i hi
      have h1 := hels i hi
      rw [List.getElem?_eq_getElem (by omega)] at h1
      obtain ⟨c, hc1, hc2⟩ := Option.bind_eq_some_iff.1 h1
      obtain ⟨x, hx, hg⟩ := h c _ hc2
      exact ⟨(x, c), hc1, hx, hg⟩
    obtain ⟨rs, hl, hr⟩ := pick len one
    have key := rows (S := All W) (sz := sz) (a := a) (mk := mk) rs 0 fun i r hi => by
      obtain ⟨h1, h2, h3⟩ := hr i r hi
      rw [hc] at h1
      obtain ⟨_, hcl, hcells⟩ := World.cells?_some h1
      refine ⟨h2, by rw [h2.1, (hmk _ h3).2], (hmk _ h3).1, fun j v hj => ?_⟩
      have hj' := (List.getElem?_eq_some_iff.1 hj).1
      have h4 := hcells j (by omega)
      rw [hj, Addr.add_add] at h4
      have hlt := World.block_lt_of_cell? _ _ h4
      rw [Nat.zero_add]
      unfold All inV
      rw [if_pos hlt]
      exact h4
    have hgood : ∀ r ∈ rs, good r.1 := fun r hrm => by
      obtain ⟨i, hi, rfl⟩ := List.getElem_of_mem hrm
      exact (hr i _ (List.getElem?_eq_getElem hi)).2.2
    have hmap : (rs.map (·.1)).map mk = rs.map fun r => mk r.1 := by rw [List.map_map]; rfl
    refine ⟨[.list sz ((rs.map (·.1)).map mk)], HoldL.one ?_ rfl, rs.map (·.1), rfl, by unfold maxLen at hcm; simp; omega, fun x hx => ?_⟩
    · rw [hmap]
      refine .list sz _ a len cap (rs.flatMap (·.2)) (by simp [hl]) hlc (fun x hx => ?_) key.1.1 (fun j v hj => by simpa using key.2 j v hj) key.1.2.1 key.1.2.2
      obtain ⟨r, hrm, rfl⟩ := List.mem_map.1 hx
      have := hmk _ (hgood r hrm)
      rw [this.1, this.2]
    · obtain ⟨r, hrm, rfl⟩ := List.mem_map.1 hx
      exact hgood r hrm
/-- A struct's fields, one behind the other. -/
def From (enc : TypeId × Value → H) (sp : Nat → Bool) (held : Bool) (W : World) (n : Nat) (fs : List Field) (off sz : Nat) (good : List T → Prop) : Prop :=
  ∀ cs : List Value, cs.length = off + sz → (∀ f ∈ fs, ∃ y, DataW.trod enc Tryd.prog W 0 sp held n f.type ((cs.drop f.offset).take (Tryd.prog.cellsOf f.type)) = some y) → ∃ ts, HoldL (All W) ts (cs.drop off) ∧ good ts
theorem From.last {f : Field} {off : Nat} (hoff : f.offset = off) (hsz : Tryd.prog.cellsOf f.type = sz) (h : At enc sp held W n f.type good) : From enc sp held W n [f] off sz good := by
  intro cs hl hf
  obtain ⟨y, hy⟩ := hf f (by simp)
  rw [hoff, hsz, List.take_of_length_le (by rw [List.length_drop]; omega)] at hy
  exact h _ _ hy
theorem From.more {f : Field} {fs : List Field} {off sz' : Nat} {good' : List T → Prop} (hoff : f.offset = off) (hsz : Tryd.prog.cellsOf f.type = sz) (h : At enc sp held W n f.type good) (hs : From enc sp held W n fs (off + sz) sz' good') :
    From enc sp held W n (f :: fs) off (sz + sz') (fun ts => ∃ t1 t2, ts = t1 ++ t2 ∧ good t1 ∧ good' t2) := by
  intro cs hl hf
  obtain ⟨y, hy⟩ := hf f (by simp)
  rw [hoff, hsz] at hy
  obtain ⟨x0, hx0, hg0⟩ := h _ _ hy
  obtain ⟨x1, hx1, hg1⟩ := hs cs (by omega) (fun g hg => hf g (by simp [hg]))
  refine ⟨x0 ++ x1, ?_, x0, x1, rfl, hg0, hg1⟩
  have := hx0.appO hx1
  rwa [← List.drop_drop, List.take_append_drop] at this
theorem At.struct {fs : Array Field} (ht : Tryd.prog.underlying t = some (.struct fs)) (hsz : Tryd.prog.cellsOf t = sz) (h : From enc sp held W n fs.toList 0 sz good) : At enc sp held W (n + 1) t good := by
  intro cs y hy
  obtain ⟨xs, m, hm, _, hl, hxl, hfs⟩ := DataW.trod_struct ht hy
  obtain rfl : n = m := by omega
  obtain ⟨x, hx, hg⟩ := h cs (by omega) (fun fd hfd => by
    obtain ⟨i, hi, rfl⟩ := List.getElem_of_mem hfd
    have hi' : i < fs.size := by simpa using hi
    have h1 := hfs i fs[i] (by simp [hi'])
    rw [List.getElem?_eq_getElem (by omega)] at h1
    exact ⟨_, by simpa using h1⟩)
  exact ⟨x, by simpa using hx, hg⟩
end
end Go.Proofs.YtbmibaopkfenbaaDoor.M

/- A tree that comes in: what an argument of the laws' Obj reads as is a tree, held by its cells. No condition. -/
namespace Go.Proofs.YtbmibaopkfenbaaDoor.M
open Go
theorem map_ex {α β γ : Type} {f : α → γ} {g : β → γ} {P : β → Prop} : ∀ (l : List α), (∀ x ∈ l, ∃ y, P y ∧ g y = f x) → ∃ ys : List β, ys.map g = l.map f ∧ ys.length = l.length ∧ ∀ y ∈ ys, P y
  | [], _ => ⟨[], rfl, rfl, by simp⟩
  | x :: r, h => by
    obtain ⟨y, h1, h2⟩ := h x (by simp)
    obtain ⟨ys, h3, h4, h5⟩ := map_ex r fun x hx => h x (by simp [hx])
    exact ⟨y :: ys, by simp [h2, h3], by simp [h4], fun z hz => by
      rcases List.mem_cons.1 hz with rfl | hz
      · exact h1
      · exact h5 z hz⟩
section
variable {H : Type} {enc : TypeId × Value → H} {sp : Nat → Bool} {hd : Bool} {W : World}
def scalOf (ts : List T) : T := ts.getD 0 (.bool false)
theorem at22 (n : Nat) : At enc sp hd W n 22 (fun ts => ∃ ks : List ByteArray, ts = [.list 1 (ks.map T.str)] ∧ ks.length ≤ 9223372036854775807 ∧ ∀ s ∈ ks, s.size ≤ 9223372036854775807) := by
  cases n with
  | zero => exact At.zero
  | succ n =>
    refine (At.slice (sz := 1) scalOf Tryd.underlying22 (by kernel_rfl) (At.string Tryd.underlying9) fun ts ⟨x, hx, _⟩ => by subst hx; exact ⟨rfl, rfl⟩).mono fun ts ⟨tss, h1, h2, h3⟩ => ?_
    obtain ⟨ks, g1, g2, g3⟩ := map_ex (f := scalOf) (g := T.str) (P := fun s => s.size ≤ 9223372036854775807) tss fun x hx => by
      obtain ⟨s, hs, hl⟩ := h3 x hx
      exact ⟨s, hl, by subst hs; rfl⟩
    exact ⟨ks, by rw [h1, g1], by omega, g3⟩
set_option maxRecDepth 100000 in
theorem at25 : ∀ n, At enc sp hd W n 25 (fun ts => ∃ o : Ob, Wd o ∧ o.t = .agg ts) := fun n => by
  induction n using Nat.strongRecOn with
  | _ n ih =>
    cases n with
    | zero => exact At.zero
    | succ n =>
      have h23 : At enc sp hd W n 23 (fun ts => ∃ kids : List Ob, ts = [.list 5 (kids.map Ob.t)] ∧ kids.length ≤ 9223372036854775807 ∧ ∀ o ∈ kids, Wd o) := by
        cases n with
        | zero => exact At.zero
        | succ n =>
          refine (At.slice (sz := 5) T.agg Tryd.underlying23 (by kernel_rfl) (ih n (by omega)) fun ts ⟨o, _, ho⟩ => ⟨rfl, by cases o with | mk => rw [Ob.t_mk] at ho; cases ho; rfl⟩).mono fun ts ⟨tss, h1, h2, h3⟩ => ?_
          obtain ⟨ks, g1, g2, g3⟩ := map_ex (f := T.agg) (g := Ob.t) (P := Wd) tss fun x hx => h3 x hx
          exact ⟨ks, by rw [h1, g1], by omega, g3⟩
      refine (At.struct (sz := 5) Tryd.underlying25 (by kernel_rfl) (From.more (sz := 1) rfl (by kernel_rfl) (At.int Tryd.underlying3) (From.more (sz := 1) rfl (by kernel_rfl) (At.int Tryd.underlying3) (From.more (sz := 1) rfl (by kernel_rfl) (At.string Tryd.underlying9) (From.more (sz := 1) rfl (by kernel_rfl) (at22 n) (From.last (sz := 1) rfl (by kernel_rfl) h23)))))).mono fun ts hts => ?_
      obtain ⟨_, _, rfl, ⟨k, rfl, _⟩, _, _, rfl, ⟨m, rfl, _⟩, _, _, rfl, ⟨s, rfl, hs⟩, _, _, rfl, ⟨ks, rfl, hk1, hk2⟩, kids, rfl, hl1, hl2⟩ := hts
      exact ⟨.mk k m s ks kids, .mk _ _ _ _ _ hs hk1 hk2 hl1 hl2, by rw [Ob.t_mk]; rfl⟩
set_option maxRecDepth 10000 in
/-- A tree that came in. -/
theorem open_obj {v : Value} {d : DataW H} {ps : List MemPlace} {r : Go.Reach} {b : Nat} (hv : Value.okWide Tryd.prog W r b 25 v) (h : DataW.Trod enc Tryd.prog W 0 sp hd 25 v d ps) : ∃ o : Ob, Wd o ∧ Hold (All W) o.t v := by
  obtain ⟨cs, rfl, hsz⟩ := WideShapes.okWide_struct Tryd.underlying25 hv
  obtain ⟨n, hn⟩ := h
  obtain ⟨ts, hH, o, ho, e⟩ := at25 n _ _ hn
  refine ⟨o, ho, ?_⟩
  rw [e]
  exact .agg ts cs.toList hH.1 hH.2.1 hH.2.2
end
end Go.Proofs.YtbmibaopkfenbaaDoor.M

/- FnExactShowObj: for all trees the program's ShowObj and the reference's answer alike, and the argument stays as it was; where the library's tables read as the program's own text lays them. No condition. -/
namespace Go.Proofs.YtbmibaopkfenbaaDoor.fnExactShowObj
open Go.ChangeShapes Go.WideShapes Go.ChangeAt Go.RowKit
set_option linter.unusedVariables false
theorem tab_eq : (Rows.laid_internal_strconv_uint64pow10 : DataW Unit) = Lib.tabData .u64 Lib.pow10Tab := by kernel_rfl
theorem ginv_of {W : World} (h : laidMet Tryd.prog Rows.fnExactShowObjRow.laid W) : M.GInv W := by
  obtain ⟨ps, hl, _⟩ := h
  obtain ⟨_, _, _, _, _, _, _, _, _, _, hl, _⟩ := hl
  obtain ⟨_, _, _, _, _, _, _, _, _, _, hl, _⟩ := hl
  obtain ⟨g, t, cs, fuel, p, q, hg, ht, hvar, hd, _, _⟩ := hl
  have hg1 : Tryd.prog.globalNamed "internal/strconv.uint64pow10" = some 1 := M.gno_ok
  obtain rfl := Option.some.inj (hg1.symm.trans hg)
  have ht1 : (Tryd.prog.globals[1]?).map (·.type) = some 169 := by kernel_rfl
  obtain rfl := Option.some.inj (ht1.symm.trans ht)
  have hd' : DataW.trod (fun _ => ()) Tryd.prog W 0 (fun _ => true) false fuel 169 cs.toList = some (Lib.tabData .u64 Lib.pow10Tab, p) := by rw [← tab_eq]; exact hd
  have hcs := Lib.cells_of_tab (n := 20) (e := 121) (by kernel_rfl) (by kernel_rfl) (by kernel_rfl) (by kernel_rfl) hd'
  intro b hb
  obtain rfl : 1 = b := Option.some.inj hb
  unfold World.var? at hvar
  rw [hg1] at hvar
  have hvar : (match (W.heap[1]? : Option Obj) with | some (Obj.cells cs _ _) => some cs | _ => none) = some cs := hvar
  split at hvar
  · rename_i cs' t' f' hh
    obtain rfl := Option.some.inj hvar
    refine ⟨t', f', ?_⟩
    rw [hh, M.gtab_ok, ← hcs]
  · cases hvar
set_option maxRecDepth 100000 in
theorem lifted (os : Os) (started : os.Started) (H : Type) (enc : TypeId × Value → H) :
    ReturnsInHanded {} Tryd.checked os 3 .any (fun w args => (Rows.fnExactShowObjSpec.pre enc Tryd.prog Tryd.f3 [] false w args ∧ laidMetH Tryd.prog Rows.fnExactShowObjRow.laid w) ∧ sizedMet enc Tryd.prog Tryd.f3 (OpenSpec.ofChange Rows.fnExactShowObjSpec) false w args)
      (Rows.fnExactShowObjSpec.post enc Tryd.prog Tryd.f3 false true false false) := by
  refine returnsInHanded_of_change_and (C := Tryd.checked) (X := fun w _ => laidMetH Tryd.prog Rows.fnExactShowObjRow.laid w) (fun _ _ _ hh h => h.of_heap hh) Lift.own started (by kernel_rfl) Tryd.func3
    (ChangeSpec.witness_shaped (enc := enc) (C := Tryd.checked) (os := os) (X := fun w _ => laidMetH Tryd.prog Rows.fnExactShowObjRow.laid w) false (World.laidAll Tryd.prog os Rows.fnExactShowObjRow.laid) #[.agg #[.int .i64 0, .int .i64 0, .string ByteArray.empty, .slice none 0 0, .slice none 0 0]] 8 (World.laidAll_os _ _ _)
      (World.shaped_of_ZipB (by kernel_rfl) (by kernel_rfl)) (by kernel_rfl) (by kernel_rfl) (by kernel_rfl)
      (by rw [MakeChecks.laidMetH_plain _ _ _ (by kernel_rfl)]; exact laidMet_laidAll _ (by kernel_rfl) (by kernel_rfl))) ?_
  intro W base args ds gs before hval0 hW _ _ hL _
  have hval : ∀ (j : Nat) t v, Tryd.f3.params[j]? = some t → args[j]? = some v → Value.okWide Tryd.prog W .any base t v := hval0
  have hW' := hW
  obtain ⟨p, q, hA0, hV, rfl, hfz, hnd⟩ := hW
  have hA : DataW.TrodAll enc Tryd.prog W 0 (fun _ => true) true Tryd.f3.params.toList args.toList ds p := hA0
  rw [Tryd.params3] at hA hval
  obtain ⟨v0, vs0, d0, ds0, p0, q0, hargs, rfl, rfl, h0, r0⟩ := trodAll_cons hA
  obtain ⟨rfl, rfl, rfl⟩ := trodAll_nil r0
  obtain rfl : args = #[v0] := by cases args; simp_all
  obtain ⟨rfl, rfl⟩ := trodVars_none hV
  rw [MakeChecks.laidMetH_plain _ _ _ (by kernel_rfl)] at hL
  obtain ⟨o, ho, hold⟩ := M.open_obj (hval 0 25 v0 rfl rfl) h0
  refine (M.CS.calls Tryd.func3 rfl rfl rfl (M.dw3 o ho) (vals := [v0]) ⟨v0, [], [], [], rfl, rfl, ⟨rfl, hold⟩, rfl, rfl⟩ (ginv_of hL)).mono fun e W' ⟨he, bel⟩ => ?_
  subst he
  exact ⟨_, rfl, Lift.close rfl rfl (by decide +kernel) hW' hA0 rfl bel⟩
theorem over : Rows.fnExactShowObjRow.holds Tryd.pinned (OpenSpec.ofChange Rows.fnExactShowObjSpec) :=
  OpenClaim.holds_of_wide 3 Tryd.f3 rfl rfl rfl rfl rfl rfl rfl ⟨rfl, rfl, rfl, rfl, rfl⟩ rfl rfl rfl rfl rfl (by kernel_rfl) Tryd.func3 (by kernel_rfl)
    (of_decide_eq_true (by kernel_rfl)) (by unfold Func.isWrapper; first | (rw [if_pos (by decide +kernel)]; kernel_rfl) | (rw [if_neg (by decide +kernel)]; exact ⟨rfl, rfl⟩))
    (fun os started H enc _ => lifted os started H enc)
theorem card : Claim7.holds Tryd.pinned (.plain (OpenSpec.ofChange Rows.fnExactShowObjSpec)) Rows.fnExactShowObjCard :=
  Claim7.holds_tied_plain_at .later [] [.data, .data, .data] true (true, "5aaac63b3124d44a23fa66a717c3cad92af698850dee5c3367a76b1dd795eab9") true over (fun _ h => by cases h) (by kernel_rfl) (fun _ h => by cases h) fnExactShowObj_row_tie rfl ⟨rfl, rfl⟩ (by kernel_rfl) rfl
    (fun f fn hf hfn => by
      obtain rfl : f = 3 := Option.some.inj ((show Tryd.prog.funcNamed "loop.example/g00099/laws.FnExactShowObj" = some 3 by kernel_rfl).symm.trans hf) |>.symm
      obtain rfl : fn = Tryd.f3 := (Option.some.inj (Tryd.func3.symm.trans hfn)).symm
      exact ⟨by kernel_rfl, fun j t ht => by
        rw [Tryd.params3] at ht
        have hm : t ∈ [25] := by simpa using Array.mem_of_getElem? ht
        have hall : ([25].all fun u => !Tryd.prog.wantsStandIn u) = true := by kernel_rfl
        exact (show Tryd.prog.wantsStandIn t = false by simpa using List.all_eq_true.1 hall t hm)⟩)
    (by kernel_rfl)
end Go.Proofs.YtbmibaopkfenbaaDoor.fnExactShowObj
namespace Go.Proofs.YtbmibaopkfenbaaDoor
theorem fnExactShowObj_holds : Rows.FnExactShowObjCardSaid := fnExactShowObj.card
#print axioms fnExactShowObj_holds
end Go.Proofs.YtbmibaopkfenbaaDoor
