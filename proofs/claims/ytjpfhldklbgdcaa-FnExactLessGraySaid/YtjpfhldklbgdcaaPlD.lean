/- The plain law of FnExactLessGray: for every picture as a machine may hold it, the printed law answers true within some rounds. -/
import Derived.Test.YtjpfhldklbgdcaaPlC
import Derived.Test.YtjpfhldklbgdcaaLgx21
namespace Go.Proofs.Ytjpfhldklbgdcaa.Pl
open Go.RowKit Go.Proofs.Ytjpfhldklbgdcaa.Ld Go.Proofs.YtjpfhldklbgdcaaW.PrintWords Go.Proofs.YtjpfhldklbgdcaaW.PrintLast Go.Proofs.YtjpfhldklbgdcaaW.PrintMore

def tup0 (p:Pic):Int×Int×Int×Int×Bool×(List S95)×List Int×Int×Int×Int×Int×List Int×(List S83):=(p.w,p.h,p.d,p.c,p.lace,p.tb,p.cl,p.rw,p.rh,p.rc,p.rd,p.sm,p.kp)
theorem toPic (p:Inp) {k:Nat} (hk:rounds p.pic≤k) (hs:small40 p.pic):laws_toPng.f k p.w p.h p.d p.c p.lace p.tb p.cl p.rw p.rh p.rc p.rd p.sm p.kp=some (tup0 p.pic):=by
  unfold rounds Inp.pic at hk
  unfold small40 Inp.pic at hs
  simp only [List.length_map] at hk hs
  obtain ⟨s1,s2,s3,s4⟩:=hs
  unfold laws_toPng.f laws_toHead.f laws_toRaster.f
  simp only [some_bind,toRgbs p.tb (show p.tb.length+1≤k by omega) (by omega),toInts p.cl (show p.cl.length+1≤k by omega) (by omega),toInts p.sm (show p.sm.length+1≤k by omega) (by omega),toChunks p.kp (show p.kp.length+1≤k by omega) (by omega)]
  rfl
theorem small_gray {p:Pic} (hs:small40 p):small40 (lessGray p).1∧rounds (lessGray p).1≤rounds p:=by
  have hdiv:∀ (l:List Int) (q:Int),(divided l q).1.length≤l.length:=by
    intro l q
    unfold divided
    split
    · simp
    · simp
  obtain ⟨s1,s2,s3,s4⟩:=hs
  have none:small40 nothing∧rounds nothing≤rounds p:=by
    unfold small40 rounds nothing
    simp only [List.length_nil]
    omega
  have one:∀ d q,small40 (grayOf p d q).1∧rounds (grayOf p d q).1≤rounds p:=by
    intro d q
    have d1:=hdiv p.sm q
    have d2:=hdiv p.cl q
    unfold grayOf
    split
    · unfold small40 rounds
      simp only [List.length_nil]
      omega
    · exact none
  unfold lessGray
  split
  · split
    · exact one _ _
    · split
      · exact one _ _
      · split
        · exact one _ _
        · exact none
  · exact none
theorem law_pure (p:Inp) (hp:held p):∃ k,laws_FnExactLessGray.f k p.w p.h p.d p.c p.lace p.tb p.cl p.rw p.rh p.rc p.rd p.sm p.kp=some true:=by
  refine ⟨20000000,?_⟩
  obtain ⟨t,ht,hb⟩:=szPic p hp (k:=20000000) (by decide)
  unfold laws_FnExactLessGray.f
  rw [ht,some_bind]
  by_cases hn:t < 0
  · rw [if_pos hn]
  · rw [if_neg hn]
    obtain ⟨b1,b2,b3,b4,b5⟩:=hb (by omega)
    have hs:small40 p.pic:=by unfold small40 Inp.pic;simp only [List.length_map];omega
    have hr:rounds p.pic≤5000000:=by unfold rounds Inp.pic;simp only [List.length_map];omega
    have e1:=toPic p (k:=20000000) (by omega) hs
    have e2:=lessGray_spec p.pic (k:=20000000) (by omega) hs
    have e3:=lessGray_impl p.pic (M:=1048576) (k:=20000000) b5 (by omega) hs
    obtain ⟨hs2,hr2⟩:=small_gray hs
    have e4:=eqPic (lessGray p.pic).1 (k:=20000000) (by omega) hs2
    have e5:=eqPic p.pic (k:=20000000) (by omega) hs
    obtain ⟨m1,tb1,cl1,sm1,kp1,g1,g2,g3⟩:=markPic p.pic (k:=20000000) (by omega) hs
    obtain ⟨m2,tb2,cl2,sm2,kp2,f1,f2,f3⟩:=markPic (lessGray p.pic).1 (k:=20000000) (by omega) hs2
    simp only [e1,some_bind,tup0,e2,e3,tup,e4,e5,g1,f1,f3,if_true,bne_self_eq_false,Bool.false_eq_true,if_false,show ¬ m1 < 0 by omega,show ¬ m2 < 0 by omega]
end Go.Proofs.Ytjpfhldklbgdcaa.Pl
