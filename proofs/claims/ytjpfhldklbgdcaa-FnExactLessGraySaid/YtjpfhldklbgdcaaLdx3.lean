import Derived.Test.YtjpfhldklbgdcaaLdx0
set_option maxHeartbeats 8000000
set_option maxRecDepth 100000
namespace Go.Proofs.Ytjpfhldklbgdcaa.Ld
open Go.RowKit Go.Proofs.Ytjpfhldklbgdcaa.Sq Go.Proofs.YtjpfhldklbgdcaaW.PrintWords Go.Proofs.YtjpfhldklbgdcaaW.PrintLast Go.Proofs.YtjpfhldklbgdcaaW.PrintMore
attribute [local go_sem] max2_int min2_int max_two min_two max_three min_three max_four min_four   -- for this text's walks alone
set_option linter.unusedVariables false
set_option linter.unusedSimpArgs false
def spec_ChannelsOf.j0:Nat→Int→Bool→Option (Int)
 | 0,_,_=>none
 | k+1,x3,x4=>if x4=true then (some 1) else (if x3=2 then (some 3) else (if x3=4 then (some 2) else (if x3=6 then (some 4) else (some 0))))
def spec_ChannelsOf.f (k:Nat) (a0:Int):Option (Int):=if a0=0 then (spec_ChannelsOf.j0 k a0 (a0 == 0)) else (spec_ChannelsOf.j0 k a0 (a0 == 3))
theorem spec_ChannelsOf.mono_l:∀ k,(∀ y0 y1,LeO (spec_ChannelsOf.j0 k y0 y1) (spec_ChannelsOf.j0 (k+1) y0 y1))
 | 0=>fun _ _ r h=>by simp [spec_ChannelsOf.j0] at h
 | k+1=>by
  have ih0:=spec_ChannelsOf.mono_l k
  ·intro y0 y1
   unfold spec_ChannelsOf.j0
   repeat' first
   | (with_reducible exact ih0 _ _)
   | (with_reducible exact LeO.refl _)
   | (with_reducible exact LeO.none _)
   | (with_reducible refine LeO.ite ?_ ?_)
   | (with_reducible refine LeO.bind ?_ (fun _=>?_))
   | exact ih0 _ _
   | exact LeO.none _
   | refine LeO.ite ?_ ?_
   | refine LeO.bind ?_ (fun _=>?_)
theorem spec_ChannelsOf.mono:∀ a0 k,LeO (spec_ChannelsOf.f k a0) (spec_ChannelsOf.f (k+1) a0):=by
 intro a0 k
 have ih0:=spec_ChannelsOf.mono_l k
 unfold spec_ChannelsOf.f
 repeat' first
   | (with_reducible exact ih0 _ _)
   | (with_reducible exact LeO.refl _)
   | (with_reducible exact LeO.none _)
   | (with_reducible refine LeO.ite ?_ ?_)
   | (with_reducible refine LeO.bind ?_ (fun _=>?_))
   | exact ih0 _ _
   | exact LeO.none _
   | refine LeO.ite ?_ ?_
   | refine LeO.bind ?_ (fun _=>?_)
theorem spec_ChannelsOf.calls (k:Nat) (a0:Int) (r:Int) (w:World) (h:spec_ChannelsOf.f k a0=some r):
  Calls Try.prog 32 #[.int .i64 a0] w fun e w'=>e=.returned (.int .i64 r)∧Drawn0 w w':=by
 have H:=h
 clear h
 unfold spec_ChannelsOf.f at H
 have HC2:=Aside0.mk H
 clear H
 go_enter Try.func32,Try.ntmps32
 go_upto_if 4 with (fail)
 go_cut [4] (fun v4 wc=>∃ (kq:Nat) (x4_1:Bool),v4=.bool x4_1∧Aside0 (spec_ChannelsOf.j0 kq a0 x4_1=some r)∧Aside0 (kq≤k)∧Drawn0 w wc)
 case first =>
  have H:=HC2.out
  clear HC2
  by_cases c3:a0=0
  ·rw [if_pos c3] at H
   have c3b0:(a0 == 0)=true:=beq_iff_eq.mpr c3
   have c3b1:(a0 != 0)=false:=bne_eq_false_iff_eq.mpr c3
   clear c3
   (first|rw [c3b0]|(simp only [i64_w,i32_w];rw [c3b0])|skip)
   have H':=Aside0.mk H
   clear H
   go_wp2
   go_meet
   case rel=>exact ⟨_,((a0 == 0)),fS,H',⟨by first|omega|exact Nat.le_refl _⟩,by repeat (first|exact Drawn0.refl _|apply Drawn0.step)⟩
  ·rw [if_neg c3] at H
   have c3b0:(a0 == 0)=false:=beq_eq_false_iff_ne.mpr c3
   have c3b1:(a0 != 0)=true:=bne_iff_ne.mpr c3
   (first|rw [c3b0]|(simp only [i64_w,i32_w];rw [c3b0])|skip)
   have H':=Aside0.mk H
   clear H
   go_wp2
   go_meet
   case rel=>exact ⟨_,((a0 == 3)),fS,H',⟨by first|omega|exact Nat.le_refl _⟩,by repeat (first|exact Drawn0.refl _|apply Drawn0.step)⟩
 case rest =>
  clear HC2
  try clear p2
  try clear c3
  try clear c3b0
  try clear c3b1
  obtain ⟨kq,x4_1,rfl,HA,HJ1,⟨mc1,rfl⟩⟩:=hcut
  cases kq with
  | zero=>exact absurd HA.out (by simp [spec_ChannelsOf.j0])
  | succ kj1 =>
   have H:=HA.out
   clear HA
   simp only [spec_ChannelsOf.j0] at H
   by_cases c4:x4_1=true
   ·subst c4
    rw [if_pos rfl] at H
    obtain rfl:=sI H
    go_wp2
    go_ret
    exact ⟨fS,by repeat (first|exact Drawn0.refl _|apply Drawn0.step)⟩
   ·obtain rfl:=bF c4
    rw [if_neg nF] at H
    by_cases c5:a0=2
    ·rw [if_pos c5] at H
     have c5b0:(a0 == 2)=true:=beq_iff_eq.mpr c5
     have c5b1:(a0 != 2)=false:=bne_eq_false_iff_eq.mpr c5
     clear c5
     obtain rfl:=sI H
     go_wp2
     go_ret
     exact ⟨fS,by repeat (first|exact Drawn0.refl _|apply Drawn0.step)⟩
    ·rw [if_neg c5] at H
     have c5b0:(a0 == 2)=false:=beq_eq_false_iff_ne.mpr c5
     have c5b1:(a0 != 2)=true:=bne_iff_ne.mpr c5
     by_cases c6:a0=4
     ·rw [if_pos c6] at H
      have c6b0:(a0 == 4)=true:=beq_iff_eq.mpr c6
      have c6b1:(a0 != 4)=false:=bne_eq_false_iff_eq.mpr c6
      clear c6
      obtain rfl:=sI H
      go_wp2
      go_ret
      exact ⟨fS,by repeat (first|exact Drawn0.refl _|apply Drawn0.step)⟩
     ·rw [if_neg c6] at H
      have c6b0:(a0 == 4)=false:=beq_eq_false_iff_ne.mpr c6
      have c6b1:(a0 != 4)=true:=bne_iff_ne.mpr c6
      by_cases c7:a0=6
      ·rw [if_pos c7] at H
       have c7b0:(a0 == 6)=true:=beq_iff_eq.mpr c7
       have c7b1:(a0 != 6)=false:=bne_eq_false_iff_eq.mpr c7
       clear c7
       obtain rfl:=sI H
       go_wp2
       go_ret
       exact ⟨fS,by repeat (first|exact Drawn0.refl _|apply Drawn0.step)⟩
      ·rw [if_neg c7] at H
       have c7b0:(a0 == 6)=false:=beq_eq_false_iff_ne.mpr c7
       have c7b1:(a0 != 6)=true:=bne_iff_ne.mpr c7
       obtain rfl:=sI H
       go_wp2
       go_ret
       exact ⟨fS,by repeat (first|exact Drawn0.refl _|apply Drawn0.step)⟩
end Go.Proofs.Ytjpfhldklbgdcaa.Ld
