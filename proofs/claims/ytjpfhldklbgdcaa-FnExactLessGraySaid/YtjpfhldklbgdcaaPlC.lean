/- The plain law of FnExactLessGray, first part: what the program's and the reference's LessGray make of a picture. Conditions: lists of at most 2^40 elements. -/
import Derived.Test.YtjpfhldklbgdcaaPlB
import Derived.Test.YtjpfhldklbgdcaaLgx14
import Derived.Test.YtjpfhldklbgdcaaLgx20
namespace Go.Proofs.Ytjpfhldklbgdcaa.Pl
open Go.RowKit Go.Proofs.Ytjpfhldklbgdcaa.Ld Go.Proofs.YtjpfhldklbgdcaaW.PrintWords Go.Proofs.YtjpfhldklbgdcaaW.PrintLast Go.Proofs.YtjpfhldklbgdcaaW.PrintMore

def grayOf (p:Pic) (d q:Int):Pic×Bool:=if ((divided p.sm q).2 && (divided p.cl q).2)=true then (⟨p.w,p.h,d,p.c,p.lace,[],(divided p.cl q).1,p.w,p.h,p.c,d,(divided p.sm q).1,p.kp⟩,true) else (nothing,false)
def lessGray (p:Pic):Pic×Bool:=
  if (pngOk p && (!touchy p.kp && decide (p.c=0)))=true then (if p.d=8 then grayOf p 4 17 else if p.d=4 then grayOf p 2 5 else if p.d=2 then grayOf p 1 3 else (nothing,false)) else (nothing,false)
theorem gray_depth {p:Pic} (h:pngOk p=true) (hc:p.c=0):p.d=1∨p.d=2∨p.d=4∨p.d=8∨p.d=16:=by
  have:=deep_colour h
  unfold depthOk at this
  rw [if_pos hc] at this
  exact of_decide_eq_true this
theorem may_spec (p:Pic) {k:Nat} (hk:rounds p+1≤k) (hs:small40 p):spec_l19May.f k p.w p.h p.d p.c p.lace p.tb p.cl p.rw p.rh p.rc p.rd p.sm p.kp 0 0=some (pngOk p && (!touchy p.kp && decide (p.c=0))):=by
  unfold rounds at hk
  unfold spec_l19May.f
  rw [png_spec p (by unfold rounds;omega) hs,some_bind]
  cases pngOk p with
  | false=>rfl
  | true =>
    rw [if_pos rfl,touchy_spec p (by omega) hs.2.2.2,some_bind]
    cases touchy p.kp with
    | true=>rfl
    | false =>
      rw [if_neg (by decide)]
      by_cases h0:p.c=0
      · rw [if_pos h0,decide_eq_true h0];rfl
      · rw [if_neg h0,decide_eq_false h0]
        have:(p.c==0)=false:=by simpa using h0
        rw [this];rfl
theorem gray_j2 (p:Pic) {k:Nat} (hk:rounds p+1≤k) (hs:small40 p) {q d:Int} (hq:q≠0) (hc:p.c=0) (hd:wrap64 (Int.tdiv p.d 2)=d):spec_LessGray.j2 (k+1) q p.w p.h p.d p.c p.lace p.tb p.cl p.rw p.rh p.rc p.rd p.sm p.kp=some (tup (grayOf p d q).1 (grayOf p d q).2):=by
  unfold rounds at hk
  simp only [spec_LessGray.j2]
  rw [div_spec p.sm hq (by omega) hs.2.2.1,some_bind,div_spec p.cl hq (by omega) hs.2.1,some_bind,hd]
  unfold grayOf
  cases hx:(divided p.sm q).2 with
  | false=>rfl
  | true =>
    cases hy:(divided p.cl q).2 with
    | false=>rfl
    | true =>
      rw [if_pos rfl,if_pos rfl]
      unfold spec_l19With.f spec_l18CopyKept.f
      rw [some_bind,if_pos (by simp;have:=hs.2.2.2;omega),some_bind,some_bind]
      simp [hc]
      rfl
theorem lessGray_spec (p:Pic) {k:Nat} (hk:rounds p+10≤k) (hs:small40 p):spec_LessGray.f k p.w p.h p.d p.c p.lace p.tb p.cl p.rw p.rh p.rc p.rd p.sm p.kp=some (tup (lessGray p).1 (lessGray p).2):=by
  have dead:∀ b:Bool,b=true→spec_LessGray.j0 k b p.w p.h p.d p.c p.lace p.tb p.cl p.rw p.rh p.rc p.rd p.sm p.kp=some (tup nothing false):=by
    intro b hb
    obtain ⟨k,rfl⟩:∃ m,k=m+1:=⟨k - 1,by omega⟩
    simp only [spec_LessGray.j0]
    rw [if_pos hb];rfl
  unfold spec_LessGray.f lessGray
  rw [may_spec p (by omega) hs,some_bind]
  cases hm:(pngOk p && (!touchy p.kp && decide (p.c=0))) with
  | false=>exact dead true rfl
  | true =>
    simp only [Bool.and_eq_true,decide_eq_true_eq] at hm
    obtain ⟨h1,_,hc⟩:=hm
    rw [if_pos rfl,if_pos rfl]
    have hd:=gray_depth h1 hc
    by_cases h16:p.d=16
    · rw [if_pos h16,if_neg (by omega),if_neg (by omega),if_neg (by omega)]
      exact dead true rfl
    · rw [if_neg h16]
      by_cases d1:p.d=1
      · rw [if_neg (by omega),if_neg (by omega),if_neg (by omega)]
        exact dead _ (by simpa using d1)
      · have hb:(p.d==1)=false:=by simpa using d1
        rw [hb]
        obtain ⟨k,rfl⟩:∃ m,k=m+4:=⟨k - 4,by omega⟩
        simp only [spec_LessGray.j0]
        rw [if_neg (by decide)]
        rcases hd with h|h|h|h|h
        · exact absurd h d1
        · rw [if_neg (by omega),if_neg (by omega),if_neg (by omega),if_pos h]
          simp only [spec_LessGray.j1]
          rw [if_pos h]
          exact gray_j2 p (k:=k+1) (by omega) hs (by decide) hc (by rw [h];exact (w64 (by decide) (by decide)).trans (by decide))
        · rw [if_pos h,if_neg (by omega),if_pos h]
          simp only [spec_LessGray.j1]
          rw [if_neg (by omega)]
          exact gray_j2 p (k:=k+1) (by omega) hs (by decide) hc (by rw [h];exact (w64 (by decide) (by decide)).trans (by decide))
        · rw [if_neg (by omega),if_pos h]
          simp only [spec_LessGray.j1]
          rw [if_neg (by omega)]
          exact gray_j2 p (k:=k+1) (by omega) hs (by decide) hc (by rw [h];exact (w64 (by decide) (by decide)).trans (by decide))
        · exact absurd h h16
theorem gray_impl (p:Pic) {k:Nat} (hk:rounds p+1≤k) (hs:small40 p) {q d:Int} (hq:q≠0) (hp:pngOk p=true) (hc:p.c=0):impl_shallower.f k p.w p.h p.d p.c p.lace p.tb p.cl p.rw p.rh p.rc p.rd p.sm p.kp d q=some (tup (grayOf p d q).1 (grayOf p d q).2):=by
  unfold rounds at hk
  unfold impl_shallower.f grayOf
  rw [div_impl p.sm hq (by omega) hs.2.2.1,some_bind,div_impl p.cl hq (by omega) hs.2.1,some_bind]
  cases hx:(divided p.sm q).2 with
  | false=>rfl
  | true =>
    cases hy:(divided p.cl q).2 with
    | false=>rfl
    | true =>
      have ht:=table_empty hp (by omega)
      obtain ⟨e1,e2,e3,e4⟩:=same_size hp
      rw [if_pos rfl,if_pos rfl,turned_impl p _ _ _ hs]
      simp only [some_bind]
      rw [ht,e1,e2]
      rfl
theorem lessGray_impl (p:Pic) {M k:Nat} (hm:named p.kp M) (hk:rounds p+M+10≤k) (hs:small40 p):impl_LessGray.f k p.w p.h p.d p.c p.lace p.tb p.cl p.rw p.rh p.rc p.rd p.sm p.kp=some (tup (lessGray p).1 (lessGray p).2):=by
  have dead:∀ b:Bool,b=true→impl_LessGray.j0 k b p.w p.h p.d p.c p.lace p.tb p.cl p.rw p.rh p.rc p.rd p.sm p.kp=some (tup nothing false):=by
    intro b hb
    obtain ⟨k,rfl⟩:∃ m,k=m+1:=⟨k - 1,by omega⟩
    simp only [impl_LessGray.j0]
    rw [if_pos hb];rfl
  unfold impl_LessGray.f lessGray
  rw [mayTurn_impl p hm hk hs,some_bind]
  unfold mayTurn
  cases hp:pngOk p with
  | false=>exact dead true rfl
  | true =>
    cases touchy p.kp with
    | true=>exact dead true rfl
    | false =>
      rw [if_pos (show (true && !false)=true from rfl)]
      by_cases hc:p.c=0
      · have hb:(p.c != 0)=false:=by simp [hc]
        rw [hb,decide_eq_true hc,if_pos (show (true && (!false && true))=true from rfl)]
        obtain ⟨k,rfl⟩:∃ m,k=m+1:=⟨k - 1,by omega⟩
        simp only [impl_LessGray.j0]
        rw [if_neg (by decide)]
        by_cases h8:p.d=8
        · rw [if_pos h8,if_pos h8,gray_impl p (by omega) hs (by decide) hp hc];rfl
        · rw [if_neg h8,if_neg h8]
          by_cases h4:p.d=4
          · rw [if_pos h4,if_pos h4,gray_impl p (by omega) hs (by decide) hp hc];rfl
          · rw [if_neg h4,if_neg h4]
            by_cases h2:p.d=2
            · rw [if_pos h2,if_pos h2,gray_impl p (by omega) hs (by decide) hp hc];rfl
            · rw [if_neg h2,if_neg h2];rfl
      · rw [decide_eq_false hc]
        exact dead _ (by simpa using hc)
end Go.Proofs.Ytjpfhldklbgdcaa.Pl
