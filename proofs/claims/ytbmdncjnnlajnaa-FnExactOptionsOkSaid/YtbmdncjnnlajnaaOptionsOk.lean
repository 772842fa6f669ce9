/- FnExactOptionsOk: for all Options the program's OptionsOk and the reference's answer alike; both ask the same three ranges. No condition. -/
import Derived.Test.YtbmdncjnnlajnaaLift
import Derived.Test.YtbmdncjnnlajnaaPFnExactOptionsOkx1
import Derived.Lib.SmallJoins
namespace Go.Proofs.Ytbmdncjnnlajnaa.fnExactOptionsOk
open Go.ChangeShapes Go.WideShapes Go.ChangeAt Go.RowKit Go.Joins
open Go.Proofs.Ytbmdncjnnlajnaa.PFnExactOptionsOk

theorem pure_ (a b c : Int) : laws_FnExactOptionsOk.f a b c = some true := by
  have e : impl_OptionsOk.f a b c = spec_OptionsOk.f a b c := rfl
  unfold laws_FnExactOptionsOk.f
  simp only [laws_toOptions.f, Option.bind_some, e]
  have hin : ∀ x y z, ∃ t, spec_l01In.f x y z = some t := fun x y z => by
    unfold spec_l01In.f
    by_cases h : x ≥ y
    · exact ⟨_, if_pos h⟩
    · exact ⟨_, if_neg h⟩
  have hs : ∃ t, spec_OptionsOk.f a b c = some t := by
    obtain ⟨t1, h1⟩ := hin a 0 3
    obtain ⟨t2, h2⟩ := hin b 0 12000
    obtain ⟨t3, h3⟩ := hin c 1 576
    unfold spec_OptionsOk.f
    rw [h1, h2, h3]
    cases t1 <;> cases t2 <;> exact ⟨_, rfl⟩
  obtain ⟨t, ht⟩ := hs
  rw [ht]
  cases t <;> rfl

set_option maxRecDepth 100000 in
theorem lifted (os : Os) (started : os.Started) (H : Type) (enc : TypeId × Value → H) :
    ReturnsInHanded {} Try.checked os 3 .any (Rows.fnExactOptionsOkSpec.pre6 enc Try.prog Try.f3 Rows.fnExactOptionsOkRow.domain false) (Rows.fnExactOptionsOkSpec.post enc Try.prog Try.f3 false true false false) := by
  refine returnsInHanded_of_change_sized (C := Try.checked) Lift.own started (by kernel_rfl) Try.func3
    (ChangeSpec.witness6 (enc := enc) (C := Try.checked) false ⟨#[], #[.agg #[.int .i64 0, .int .i64 0, .int .i64 0]], []⟩ 8 (by kernel_rfl) (by kernel_rfl) (by kernel_rfl) (by kernel_rfl)) ?_
  intro W base args ds gs before hval0 hW hcnd hsz0 _
  have hval : ∀ (j : Nat) t v, Try.f3.params[j]? = some t → args[j]? = some v → Value.okWide Try.prog W .any base t v := hval0
  have hW' := hW
  obtain ⟨p, q, hA0, hV, rfl, hfz, hnd⟩ := hW
  have hA : DataW.TrodAll enc Try.prog W 0 (fun _ => true) true Try.f3.params.toList args.toList ds p := hA0
  rw [Try.params3] at hA hval
  obtain ⟨v0, vs0, d0, ds0, p0, q0, hargs, rfl, rfl, h0, r0⟩ := trodAll_cons hA
  obtain ⟨rfl, rfl, rfl⟩ := trodAll_nil r0
  obtain rfl : args = #[v0] := by cases args; simp_all
  obtain ⟨rfl, rfl⟩ := trodVars_none hV
  obtain ⟨c0, c1, c2, y0, y1, y2, n, rfl, _, _, g0, g1, g2⟩ := open_agg3 Try.underlying23 (by kernel_rfl) (by kernel_rfl) (hval 0 23 v0 rfl rfl) h0
  obtain ⟨x0, e0, _⟩ := DataW.trod_int Try.underlying3 g0
  obtain rfl := List.head_eq_of_cons_eq e0
  obtain ⟨x1, e1, _⟩ := DataW.trod_int Try.underlying3 g1
  obtain rfl := List.head_eq_of_cons_eq e1
  obtain ⟨x2, e2, _⟩ := DataW.trod_int Try.underlying3 g2
  obtain rfl := List.head_eq_of_cons_eq e2
  refine (laws_FnExactOptionsOk.calls x0 x1 x2 true W (pure_ x0 x1 x2)).mono fun e W' ⟨he, bel⟩ => ?_
  subst he
  exact ⟨_, rfl, Lift.close rfl rfl (by decide +kernel) hW' hA0 rfl bel⟩
theorem over : Rows.fnExactOptionsOkRow.holds Try.pinned (OpenSpec.ofChange Rows.fnExactOptionsOkSpec) :=
  OpenClaim.holds_of_wide 3 Try.f3 rfl rfl rfl rfl rfl rfl rfl ⟨rfl, rfl, rfl, rfl, rfl⟩ rfl rfl rfl rfl rfl (by kernel_rfl) Try.func3 (by kernel_rfl)
    (of_decide_eq_true (by kernel_rfl)) (by unfold Func.isWrapper; first | (rw [if_pos (by decide +kernel)]; kernel_rfl) | (rw [if_neg (by decide +kernel)]; exact ⟨rfl, rfl⟩))
    (fun os started H enc _ => lifted os started H enc)
end Go.Proofs.Ytbmdncjnnlajnaa.fnExactOptionsOk
namespace Go.Proofs.Ytbmdncjnnlajnaa
theorem fnExactOptionsOk_holds : Rows.FnExactOptionsOkSaid := fnExactOptionsOk.over
#print axioms fnExactOptionsOk_holds
end Go.Proofs.Ytbmdncjnnlajnaa
