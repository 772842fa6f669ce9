/- FnExactBlockTypes: for all texts and all bounds the program's BlockTypes and the reference's answer alike, by new memory. No condition. -/
import Derived.Test.YtkejldfbeccmmaaRows
import Derived.ReadAgain
import Derived.WalkKit
import Derived.ProofKit
import Derived.OpenShut
import Derived.ShutString
import Derived.ChangeOld
import Derived.Below
import Derived.SizedLaws
import Derived.Test.YtkejldfbeccmmaaKExactBlockTypes6
/- What every row of this seat needs: the arguments of a call that only makes memory read behind it as they did. Conditions: the program's types are laid out, and the call leaves all elder blocks alone. -/
namespace Go.Proofs.Ytkejldfbeccmmaa.Lift
open Go.ChangeShapes Go.WideShapes Go.ChangeAt Go.RowKit
theorem own : ownKnob Try.prog.godebug = none := by kernel_rfl
theorem kids : Kids Try.prog (· < Try.prog.types.size) := kids_rows (by kernel_rfl) (by kernel_rfl)
theorem full : ∀ t e, t < Try.prog.types.size → Try.prog.underlying t = some (.slice e) → 0 < Try.prog.cellsOf e := slices_full_of _ (by kernel_rfl)
section
variable {H : Type} {enc : TypeId × Value → H} {P : Program} {w w' : World} {base : Nat} {spare : Nat → Bool} {held : Bool}
theorem trodAll_carry : ∀ {ts : List TypeId} {vs : List Value} {ds : List (DataW H)} {ps : List MemPlace}, DataW.TrodAll enc P w base spare held ts vs ds ps → (∀ p ∈ ps, w.sameAt w' p) → DataW.TrodAll enc P w' base spare held ts vs ds ps
  | [], [], [], _, h, _ => h
  | _ :: _, _ :: _, _ :: _, _, ⟨p, q, ⟨n, h1⟩, h2, e⟩, hs => ⟨p, q, ⟨n, DataW.trod_carry n _ _ _ h1 (fun x hx => hs x (by rw [e]; exact List.mem_append_left _ hx))⟩, trodAll_carry h2 (fun x hx => hs x (by rw [e]; exact List.mem_append_right _ hx)), e⟩
theorem same_of_below (bel : Below w.heap.size w w') (p : MemPlace) (hp : p.block < w.heap.size) : w.sameAt w' p := by
  have h := bel.block p.block hp
  cases p with
  | cell b o => show w'.cell? ⟨b, o, none⟩ = w.cell? ⟨b, o, none⟩; exact bel.cell (p := ⟨b, o, none⟩) hp
  | map b => exact h
end
/-- The arguments read again. -/
theorem again {H : Type} {enc : TypeId × Value → H} {w w' : World} {ts : List TypeId} {vs : List Value} {ds : List (DataW H)} {ps : List MemPlace} (hts : ∀ t ∈ ts, t < Try.prog.types.size)
    (h : DataW.TrodAll enc Try.prog w 0 (fun _ => true) true ts vs ds ps) (hlt : ∀ p ∈ ps, p.block < w.heap.size) (bel : Below w.heap.size w w') :
    DataW.TrodAll enc Try.prog w' 0 (fun b => decide (b < w.heap.size)) true ts vs ds ps :=
  (trodAll_carry h (fun p hp => same_of_below bel p (hlt p hp))).respare kids full hts (fun p hp => decide_eq_true (hlt p hp))
/-- The end of a row: it answered true, and all elder memory stands. -/
theorem close {H : Type} {enc : TypeId × Value → H} {f : Func} {s : ChangeSpec} {W W' : World} {args : Array Value} {ds : List (DataW H)} {before p : List MemPlace} (hres : f.resultTypes = #[4]) (hvars : s.vars = []) (hts : ∀ t ∈ f.params.toList, t < Try.prog.types.size)
    (hW : DataW.Whole enc Try.prog f.params.toList s.vars false W args.toList ds [] before) (hA : DataW.TrodAll enc Try.prog W 0 (fun _ => true) true f.params.toList args.toList ds p)
    (hspec : s.fn H ds = { results := [.lit (.bool true)], args := ds }) (bel : Below W.heap.size W W') :
    s.post enc Try.prog f false true false false W args (.bool true) W' := by
  refine ⟨ds, [], before, [], p, [], hW, ?_, ?_, ?_, bel.frame _, fun h => by cases h⟩
  · rw [List.append_nil, hspec, hres]
    exact trodAll_mk1 (shut_bool Try.underlying4 _)
  · rw [List.append_nil, hspec]
    exact again hts hA hA.lt bel
  · rw [List.append_nil, hspec, hvars]
    rfl
end Go.Proofs.Ytkejldfbeccmmaa.Lift

/- FnExactBlockTypes: for all texts and all bounds the program's BlockTypes and the reference's answer alike, by new memory. No condition. -/
namespace Go.Proofs.Ytkejldfbeccmmaa.fnExactBlockTypes
open Go.ChangeShapes Go.WideShapes Go.ChangeAt Go.RowKit
open Go.ChangeMaps (open_string shut_string)
set_option linter.unusedVariables false
set_option maxRecDepth 100000 in
theorem lifted (os : Os) (started : os.Started) (H : Type) (enc : TypeId × Value → H) :
    ReturnsInHanded {} Try.checked os 5 .any (Rows.fnExactBlockTypesSpec.pre6 enc Try.prog Try.f5 Rows.fnExactBlockTypesRow.domain false) (Rows.fnExactBlockTypesSpec.post enc Try.prog Try.f5 false true false false) := by
  refine returnsInHanded_of_change_sized (C := Try.checked) Lift.own started (by kernel_rfl) Try.func5
    (ChangeSpec.witness6 (enc := enc) (C := Try.checked) false ⟨#[], #[.string ByteArray.empty, .int .i64 0], []⟩ 8 (by kernel_rfl) (by kernel_rfl) (by kernel_rfl) (by kernel_rfl)) ?_
  intro W base args ds gs before hval0 hW hcnd hsz0 _
  have hval : ∀ (j : Nat) t v, Try.f5.params[j]? = some t → args[j]? = some v → Value.okWide Try.prog W .any base t v := hval0
  have hW' := hW
  obtain ⟨p, q, hA0, hV, rfl, hfz, hnd⟩ := hW
  have hA : DataW.TrodAll enc Try.prog W 0 (fun _ => true) true Try.f5.params.toList args.toList ds p := hA0
  rw [Try.params5] at hA hval
  obtain ⟨v0, vs0, d0, ds0, p0, q0, hargs, rfl, rfl, h0, r0⟩ := trodAll_cons hA
  obtain ⟨v1, vs1, d1, ds1, p1, q1, rfl, rfl, rfl, h1, r1⟩ := trodAll_cons r0
  obtain ⟨rfl, rfl, rfl⟩ := trodAll_nil r1
  obtain rfl : args = #[v0, v1] := by cases args; simp_all
  obtain ⟨rfl, rfl⟩ := trodVars_none hV
  obtain ⟨a0, rfl, rfl, rfl, y0⟩ := open_string Try.underlying9 (hval 0 9 v0 rfl rfl) h0
  obtain ⟨a1, rfl, rfl, rfl, y1⟩ := open_int Try.underlying3 (hval 1 3 v1 rfl rfl) h1
  refine (M.CS.calls Try.func5 rfl rfl rfl (M.c5 a0 a1) (vals := [.string a0, .int .i64 a1]) (M.scal_argsOk (xs := [.str a0, .int .i64 a1]) (by simp [M.T.scal]))).mono fun e W' ⟨he, bel⟩ => ?_
  subst he
  exact ⟨_, rfl, Lift.close rfl rfl (by decide +kernel) hW' hA0 rfl bel⟩
theorem over : Rows.fnExactBlockTypesRow.holds Try.pinned (OpenSpec.ofChange Rows.fnExactBlockTypesSpec) :=
  OpenClaim.holds_of_wide 5 Try.f5 rfl rfl rfl rfl rfl rfl rfl ⟨rfl, rfl, rfl, rfl, rfl⟩ rfl rfl rfl rfl rfl (by kernel_rfl) Try.func5 (by kernel_rfl)
    (of_decide_eq_true (by kernel_rfl)) (by unfold Func.isWrapper; first | (rw [if_pos (by decide +kernel)]; kernel_rfl) | (rw [if_neg (by decide +kernel)]; exact ⟨rfl, rfl⟩))
    (fun os started H enc _ => lifted os started H enc)
end Go.Proofs.Ytkejldfbeccmmaa.fnExactBlockTypes
namespace Go.Proofs.Ytkejldfbeccmmaa
theorem fnExactBlockTypes_holds : Rows.FnExactBlockTypesSaid := fnExactBlockTypes.over
#print axioms fnExactBlockTypes_holds
end Go.Proofs.Ytkejldfbeccmmaa
