/- FnExactLessGray: for every picture, right or not, the program's LessGray and the reference's answer alike, the argument stays as it was, and what comes back shares no memory with it nor with another call's. No condition. -/
import Derived.Test.YtjpfhldklbgdcaaLift
import Derived.Test.YtjpfhldklbgdcaaRow
import Derived.Test.YtjpfhldklbgdcaaPlD
namespace Go.Proofs.Ytjpfhldklbgdcaa.fnExactLessGray
open Go.ChangeShapes Go.WideShapes Go.ChangeAt Go.RowKit Go.Joins
open Go.Proofs.Ytjpfhldklbgdcaa.Ld
set_option maxRecDepth 100000 in
theorem lifted (os:Os) (started:os.Started) (H:Type) (enc:TypeId×Value→H):
    ReturnsInHanded {} Try.checked os 4 .any (Rows.fnExactLessGraySpec.pre6 enc Try.prog Try.f4 Rows.fnExactLessGrayRow.domain false) (Rows.fnExactLessGraySpec.post enc Try.prog Try.f4 false true false false):=by
  refine returnsInHanded_of_change_sized (C:=Try.checked) Lift.own started (by kernel_rfl) Try.func4
    (ChangeSpec.witness6 (enc:=enc) (C:=Try.checked) false ⟨#[],#[.agg #[.int .i64 0,.int .i64 0,.int .i64 0,.int .i64 0,.bool false,.slice none 0 0,.slice none 0 0,.int .i64 0,.int .i64 0,.int .i64 0,.int .i64 0,.slice none 0 0,.slice none 0 0]],[]⟩ 8 (by kernel_rfl) (by kernel_rfl) (by kernel_rfl) (by kernel_rfl)) ?_
  intro W base args ds gs before hval0 hW hcnd hsz0 _
  have hval:∀ (j:Nat) t v,Try.f4.params[j]?=some t→args[j]?=some v→Value.okWide Try.prog W .any base t v:=hval0
  have hW':=hW
  obtain ⟨p,q,hA0,hV,rfl,hfz,hnd⟩:=hW
  have hA:DataW.TrodAll enc Try.prog W 0 (fun _=>true) true Try.f4.params.toList args.toList ds p:=hA0
  rw [Try.params4] at hA hval
  obtain ⟨v0,vs0,d0,ds0,p0,q0,hargs,rfl,rfl,h0,r0⟩:=trodAll_cons hA
  obtain ⟨rfl,rfl,rfl⟩:=trodAll_nil r0
  obtain rfl:args=#[v0]:=by cases args;simp_all
  obtain ⟨rfl,rfl⟩:=trodVars_none hV
  obtain ⟨x,A5,A6,A11,A12,c5,c6,c11,c12,hx,rfl,q5,l5,q6,l6,q11,l11,q12,l12⟩:=PicRow.open_png (hval 0 30 v0 rfl rfl) h0
  obtain ⟨k,hk⟩:=Pl.law_pure x hx
  refine (laws_FnExactLessGray.calls k x.w x.h x.d x.c x.lace A5 c5 x.tb A6 c6 x.cl x.rw x.rh x.rc x.rd A11 c11 x.sm A12 c12 x.kp true W q5 l5 q6 l6 q11 l11 q12 l12 hk).mono fun e W' ⟨he,bel⟩=>?_
  subst he
  exact ⟨_,rfl,Lift.close rfl rfl (by decide +kernel) hW' hA0 rfl bel⟩
theorem over:Rows.fnExactLessGrayRow.holds Try.pinned (OpenSpec.ofChange Rows.fnExactLessGraySpec):=
  OpenClaim.holds_of_wide 4 Try.f4 rfl rfl rfl rfl rfl rfl rfl ⟨rfl,rfl,rfl,rfl,rfl⟩ rfl rfl rfl rfl rfl (by kernel_rfl) Try.func4 (by kernel_rfl)
    (of_decide_eq_true (by kernel_rfl)) (by unfold Func.isWrapper;first|(rw [if_pos (by decide +kernel)];kernel_rfl)|(rw [if_neg (by decide +kernel)];exact ⟨rfl,rfl⟩))
    (fun os started H enc _=>lifted os started H enc)
end Go.Proofs.Ytjpfhldklbgdcaa.fnExactLessGray
namespace Go.Proofs.Ytjpfhldklbgdcaa
theorem fnExactLessGray_holds:Rows.FnExactLessGraySaid:=fnExactLessGray.over
#print axioms fnExactLessGray_holds
end Go.Proofs.Ytjpfhldklbgdcaa
