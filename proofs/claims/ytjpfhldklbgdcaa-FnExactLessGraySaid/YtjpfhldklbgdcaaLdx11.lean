import Derived.Test.YtjpfhldklbgdcaaLdx0
import Derived.Test.YtjpfhldklbgdcaaLdx10
set_option maxHeartbeats 8000000
set_option maxRecDepth 100000
namespace Go.Proofs.Ytjpfhldklbgdcaa.Ld
open Go.RowKit Go.Proofs.Ytjpfhldklbgdcaa.Sq Go.Proofs.YtjpfhldklbgdcaaW.PrintWords Go.Proofs.YtjpfhldklbgdcaaW.PrintLast Go.Proofs.YtjpfhldklbgdcaaW.PrintMore
attribute [local go_sem] max2_int min2_int max_two min_two max_three min_three max_four min_four   -- for this text's walks alone
set_option linter.unusedVariables false
set_option linter.unusedSimpArgs false
def impl_ChannelsOf.j0:Nat→Int→Bool→Option (Int)
 | 0,_,_=>none
 | k+1,x3,x4=>if x4=true then (some 1) else (if x3=4 then (some 2) else (if x3=2 then (some 3) else (if x3=6 then (some 4) else (some 0))))
def impl_ChannelsOf.f (k:Nat) (a0:Int):Option (Int):=if a0=0 then (impl_ChannelsOf.j0 k a0 (a0 == 0)) else (impl_ChannelsOf.j0 k a0 (a0 == 3))
theorem impl_ChannelsOf.mono_l:∀ k,(∀ y0 y1,LeO (impl_ChannelsOf.j0 k y0 y1) (impl_ChannelsOf.j0 (k+1) y0 y1))
 | 0=>fun _ _ r h=>by simp [impl_ChannelsOf.j0] at h
 | k+1=>by
  have ih0:=impl_ChannelsOf.mono_l k
  ·intro y0 y1
   unfold impl_ChannelsOf.j0
   repeat' first
   | (with_reducible exact ih0 _ _)
   | (with_reducible exact LeO.refl _)
   | (with_reducible exact LeO.none _)
   | (with_reducible refine LeO.ite ?_ ?_)
   | (with_reducible refine LeO.bind ?_ (fun _=>?_))
   | exact ih0 _ _
   | exact LeO.none _
   | refine LeO.ite ?_ ?_
   | refine LeO.bind ?_ (fun _=>?_)
theorem impl_ChannelsOf.mono:∀ a0 k,LeO (impl_ChannelsOf.f k a0) (impl_ChannelsOf.f (k+1) a0):=by
 intro a0 k
 have ih0:=impl_ChannelsOf.mono_l k
 unfold impl_ChannelsOf.f
 repeat' first
   | (with_reducible exact ih0 _ _)
   | (with_reducible exact LeO.refl _)
   | (with_reducible exact LeO.none _)
   | (with_reducible refine LeO.ite ?_ ?_)
   | (with_reducible refine LeO.bind ?_ (fun _=>?_))
   | exact ih0 _ _
   | exact LeO.none _
   | refine LeO.ite ?_ ?_
   | refine LeO.bind ?_ (fun _=>?_)
theorem impl_ChannelsOf.calls (k:Nat) (a0:Int) (r:Int) (w:World) (h:impl_ChannelsOf.f k a0=some r):
  Calls Try.prog 67 #[.int .i64 a0] w fun e w'=>e=.returned (.int .i64 r)∧Drawn0 w w':=by
 have H:=h
 clear h
 unfold impl_ChannelsOf.f at H
 have HC2:=Aside0.mk H
 clear H
 go_enter Try.func67,Try.ntmps67
 go_upto_if 4 with (fail)
 go_cut [4] (fun v4 wc=>∃ (kq:Nat) (x4_1:Bool),v4=.bool x4_1∧Aside0 (impl_ChannelsOf.j0 kq a0 x4_1=some r)∧Aside0 (kq≤k)∧Drawn0 w wc)
 case first =>
  have H:=HC2.out
  clear HC2
  by_cases c3:a0=0
  ·rw [if_pos c3] at H
   have c3b0:(a0 == 0)=true:=beq_iff_eq.mpr c3
   have c3b1:(a0 != 0)=false:=bne_eq_false_iff_eq.mpr c3
   clear c3
   (first|rw [c3b0]|(simp only [i64_w,i32_w];rw [c3b0])|skip)
   have H':=Aside0.mk H
   clear H
   go_wp2
   go_meet
   case rel=>exact ⟨_,((a0 == 0)),fS,H',⟨by first|omega|exact Nat.le_refl _⟩,by repeat (first|exact Drawn0.refl _|apply Drawn0.step)⟩
  ·rw [if_neg c3] at H
   have c3b0:(a0 == 0)=false:=beq_eq_false_iff_ne.mpr c3
   have c3b1:(a0 != 0)=true:=bne_iff_ne.mpr c3
   (first|rw [c3b0]|(simp only [i64_w,i32_w];rw [c3b0])|skip)
   have H':=Aside0.mk H
   clear H
   go_wp2
   go_meet
   case rel=>exact ⟨_,((a0 == 3)),fS,H',⟨by first|omega|exact Nat.le_refl _⟩,by repeat (first|exact Drawn0.refl _|apply Drawn0.step)⟩
 case rest =>
  clear HC2
  obtain ⟨kq,x4_1,rfl,HA,HJ1,⟨mc1,rfl⟩⟩:=hcut
  cases kq with
  | zero=>exact absurd HA.out (by simp [impl_ChannelsOf.j0])
  | succ kj1 =>
   have H:=HA.out
   clear HA
   simp only [impl_ChannelsOf.j0] at H
   by_cases c4:x4_1=true
   ·subst c4
    rw [if_pos rfl] at H
    obtain rfl:=sI H
    go_wp2
    go_ret
    exact ⟨fS,by repeat (first|exact Drawn0.refl _|apply Drawn0.step)⟩
   ·obtain rfl:=bF c4
    rw [if_neg nF] at H
    by_cases c5:a0=4
    ·rw [if_pos c5] at H
     have c5b0:(a0 == 4)=true:=beq_iff_eq.mpr c5
     have c5b1:(a0 != 4)=false:=bne_eq_false_iff_eq.mpr c5
     clear c5
     obtain rfl:=sI H
     go_wp2
     go_ret
     exact ⟨fS,by repeat (first|exact Drawn0.refl _|apply Drawn0.step)⟩
    ·rw [if_neg c5] at H
     have c5b0:(a0 == 4)=false:=beq_eq_false_iff_ne.mpr c5
     have c5b1:(a0 != 4)=true:=bne_iff_ne.mpr c5
     by_cases c6:a0=2
     ·rw [if_pos c6] at H
      have c6b0:(a0 == 2)=true:=beq_iff_eq.mpr c6
      have c6b1:(a0 != 2)=false:=bne_eq_false_iff_eq.mpr c6
      clear c6
      obtain rfl:=sI H
      go_wp2
      go_ret
      exact ⟨fS,by repeat (first|exact Drawn0.refl _|apply Drawn0.step)⟩
     ·rw [if_neg c6] at H
      have c6b0:(a0 == 2)=false:=beq_eq_false_iff_ne.mpr c6
      have c6b1:(a0 != 2)=true:=bne_iff_ne.mpr c6
      by_cases c7:a0=6
      ·rw [if_pos c7] at H
       have c7b0:(a0 == 6)=true:=beq_iff_eq.mpr c7
       have c7b1:(a0 != 6)=false:=bne_eq_false_iff_eq.mpr c7
       clear c7
       obtain rfl:=sI H
       go_wp2
       go_ret
       exact ⟨fS,by repeat (first|exact Drawn0.refl _|apply Drawn0.step)⟩
      ·rw [if_neg c7] at H
       have c7b0:(a0 == 6)=false:=beq_eq_false_iff_ne.mpr c7
       have c7b1:(a0 != 6)=true:=bne_iff_ne.mpr c7
       obtain rfl:=sI H
       go_wp2
       go_ret
       exact ⟨fS,by repeat (first|exact Drawn0.refl _|apply Drawn0.step)⟩
def impl_isDepth.f (a0:Int):Option (Bool):=if a0=1 then (some true) else (if a0=2 then (some true) else (if a0=4 then (some true) else (if a0=8 then (some true) else (some (a0 == 16)))))
theorem impl_isDepth.calls (a0:Int) (r:Bool) (w:World) (h:impl_isDepth.f a0=some r):
  Calls Try.prog 131 #[.int .i64 a0] w fun e w'=>e=.returned (.bool r)∧Drawn0 w w':=by
 have H:=h
 clear h
 unfold impl_isDepth.f at H
 by_cases c2:a0=1
 ·rw [if_pos c2] at H
  have c2b0:(a0 == 1)=true:=beq_iff_eq.mpr c2
  have c2b1:(a0 != 1)=false:=bne_eq_false_iff_eq.mpr c2
  clear c2
  obtain rfl:=sI H
  go_enter Try.func131,Try.ntmps131
  go_wp2
  go_ret
  exact ⟨fS,by repeat (first|exact Drawn0.refl _|apply Drawn0.step)⟩
 ·rw [if_neg c2] at H
  have c2b0:(a0 == 1)=false:=beq_eq_false_iff_ne.mpr c2
  have c2b1:(a0 != 1)=true:=bne_iff_ne.mpr c2
  by_cases c3:a0=2
  ·rw [if_pos c3] at H
   have c3b0:(a0 == 2)=true:=beq_iff_eq.mpr c3
   have c3b1:(a0 != 2)=false:=bne_eq_false_iff_eq.mpr c3
   clear c3
   obtain rfl:=sI H
   go_enter Try.func131,Try.ntmps131
   go_wp2
   go_ret
   exact ⟨fS,by repeat (first|exact Drawn0.refl _|apply Drawn0.step)⟩
  ·rw [if_neg c3] at H
   have c3b0:(a0 == 2)=false:=beq_eq_false_iff_ne.mpr c3
   have c3b1:(a0 != 2)=true:=bne_iff_ne.mpr c3
   by_cases c4:a0=4
   ·rw [if_pos c4] at H
    have c4b0:(a0 == 4)=true:=beq_iff_eq.mpr c4
    have c4b1:(a0 != 4)=false:=bne_eq_false_iff_eq.mpr c4
    clear c4
    obtain rfl:=sI H
    go_enter Try.func131,Try.ntmps131
    go_wp2
    go_ret
    exact ⟨fS,by repeat (first|exact Drawn0.refl _|apply Drawn0.step)⟩
   ·rw [if_neg c4] at H
    have c4b0:(a0 == 4)=false:=beq_eq_false_iff_ne.mpr c4
    have c4b1:(a0 != 4)=true:=bne_iff_ne.mpr c4
    by_cases c5:a0=8
    ·rw [if_pos c5] at H
     have c5b0:(a0 == 8)=true:=beq_iff_eq.mpr c5
     have c5b1:(a0 != 8)=false:=bne_eq_false_iff_eq.mpr c5
     clear c5
     obtain rfl:=sI H
     go_enter Try.func131,Try.ntmps131
     go_wp2
     go_ret
     exact ⟨fS,by repeat (first|exact Drawn0.refl _|apply Drawn0.step)⟩
    ·rw [if_neg c5] at H
     have c5b0:(a0 == 8)=false:=beq_eq_false_iff_ne.mpr c5
     have c5b1:(a0 != 8)=true:=bne_iff_ne.mpr c5
     obtain rfl:=sI H
     go_enter Try.func131,Try.ntmps131
     go_wp2
     go_ret
     exact ⟨fS,by repeat (first|exact Drawn0.refl _|apply Drawn0.step)⟩
def impl_DepthOk.f (k:Nat) (a0:Int) (a1:Int):Option (Bool):=if a0=0 then ((impl_isDepth.f a1).bind fun t301=>(some t301)) else (if a0=3 then ((impl_isDepth.f a1).bind fun t302=>(if t302=true then (some (decide (a1 < 16))) else (some false))) else ((impl_ChannelsOf.f k a0).bind fun t303=>(if t303 > 0 then (if a1=8 then (some true) else (some (a1 == 16))) else (some false))))
theorem impl_DepthOk.mono:∀ a0 a1 k,LeO (impl_DepthOk.f k a0 a1) (impl_DepthOk.f (k+1) a0 a1):=by
 intro a0 a1 k
 unfold impl_DepthOk.f
 repeat' first
   | (with_reducible exact impl_ChannelsOf.mono _ _)
   | (with_reducible exact LeO.refl _)
   | (with_reducible exact LeO.none _)
   | (with_reducible refine LeO.ite ?_ ?_)
   | (with_reducible refine LeO.bind ?_ (fun _=>?_))
   | exact impl_ChannelsOf.mono _ _
   | exact LeO.none _
   | refine LeO.ite ?_ ?_
   | refine LeO.bind ?_ (fun _=>?_)
theorem impl_DepthOk.calls (k:Nat) (a0:Int) (a1:Int) (r:Bool) (w:World) (h:impl_DepthOk.f k a0 a1=some r):
  Calls Try.prog 126 #[.int .i64 a0,.int .i64 a1] w fun e w'=>e=.returned (.bool r)∧Drawn0 w w':=by
 have H:=h
 clear h
 unfold impl_DepthOk.f at H
 by_cases c3:a0=0
 ·rw [if_pos c3] at H
  have c3b0:(a0 == 0)=true:=beq_iff_eq.mpr c3
  have c3b1:(a0 != 0)=false:=bne_eq_false_iff_eq.mpr c3
  clear c3
  obtain ⟨t301,A4,H⟩:=bS H
  try dsimp only at H
  obtain rfl:=sI H
  go_enter Try.func126,Try.ntmps126
  go_wp2_with (first|((with_reducible refine gate_callee (f:=131) rfl ?_);refine gL (some 9) Try.func131 #[.int .i64 a1] ?_;(with_reducible refine (impl_isDepth.calls a1 t301 _ A4.out).mono ?_);rintro e w' ⟨rfl,⟨nd,rfl⟩⟩;refine ⟨_,rfl,?_⟩))
  go_ret
  exact ⟨fS,by repeat (first|exact Drawn0.refl _|apply Drawn0.step)⟩
 ·rw [if_neg c3] at H
  have c3b0:(a0 == 0)=false:=beq_eq_false_iff_ne.mpr c3
  have c3b1:(a0 != 0)=true:=bne_iff_ne.mpr c3
  by_cases c5:a0=3
  ·rw [if_pos c5] at H
   have c5b0:(a0 == 3)=true:=beq_iff_eq.mpr c5
   have c5b1:(a0 != 3)=false:=bne_eq_false_iff_eq.mpr c5
   clear c5
   obtain ⟨t302,A6,H⟩:=bS H
   try dsimp only at H
   by_cases c7:t302=true
   ·subst c7
    rw [if_pos rfl] at H
    obtain rfl:=sI H
    go_enter Try.func126,Try.ntmps126
    go_wp2_with (first|((with_reducible refine gate_callee (f:=131) rfl ?_);refine gL (some 13) Try.func131 #[.int .i64 a1] ?_;(with_reducible refine (impl_isDepth.calls a1 true _ A6.out).mono ?_);rintro e w' ⟨rfl,⟨nd,rfl⟩⟩;refine ⟨_,rfl,?_⟩))
    go_ret
    exact ⟨fS,by repeat (first|exact Drawn0.refl _|apply Drawn0.step)⟩
   ·obtain rfl:=bF c7
    rw [if_neg nF] at H
    obtain rfl:=sI H
    go_enter Try.func126,Try.ntmps126
    go_wp2_with (first|((with_reducible refine gate_callee (f:=131) rfl ?_);refine gL (some 13) Try.func131 #[.int .i64 a1] ?_;(with_reducible refine (impl_isDepth.calls a1 false _ A6.out).mono ?_);rintro e w' ⟨rfl,⟨nd,rfl⟩⟩;refine ⟨_,rfl,?_⟩))
    go_ret
    exact ⟨fS,by repeat (first|exact Drawn0.refl _|apply Drawn0.step)⟩
  ·rw [if_neg c5] at H
   have c5b0:(a0 == 3)=false:=beq_eq_false_iff_ne.mpr c5
   have c5b1:(a0 != 3)=true:=bne_iff_ne.mpr c5
   obtain ⟨t303,A8,H⟩:=bS H
   try dsimp only at H
   by_cases c9:t303 > 0
   ·rw [if_pos c9] at H
    have c9b0:decide (0 < t303)=true:=decide_eq_true c9
    clear c9
    by_cases c10:a1=8
    ·rw [if_pos c10] at H
     have c10b0:(a1 == 8)=true:=beq_iff_eq.mpr c10
     have c10b1:(a1 != 8)=false:=bne_eq_false_iff_eq.mpr c10
     clear c10
     obtain rfl:=sI H
     go_enter Try.func126,Try.ntmps126
     go_wp2_with (first|((with_reducible refine gate_callee (f:=67) rfl ?_);refine gL (some 19) Try.func67 #[.int .i64 a0] ?_;(with_reducible refine (impl_ChannelsOf.calls k a0 t303 _ A8.out).mono ?_);rintro e w' ⟨rfl,⟨nd,rfl⟩⟩;refine ⟨_,rfl,?_⟩))
     go_ret
     exact ⟨fS,by repeat (first|exact Drawn0.refl _|apply Drawn0.step)⟩
    ·rw [if_neg c10] at H
     have c10b0:(a1 == 8)=false:=beq_eq_false_iff_ne.mpr c10
     have c10b1:(a1 != 8)=true:=bne_iff_ne.mpr c10
     obtain rfl:=sI H
     go_enter Try.func126,Try.ntmps126
     go_wp2_with (first|((with_reducible refine gate_callee (f:=67) rfl ?_);refine gL (some 19) Try.func67 #[.int .i64 a0] ?_;(with_reducible refine (impl_ChannelsOf.calls k a0 t303 _ A8.out).mono ?_);rintro e w' ⟨rfl,⟨nd,rfl⟩⟩;refine ⟨_,rfl,?_⟩))
     go_ret
     exact ⟨fS,by repeat (first|exact Drawn0.refl _|apply Drawn0.step)⟩
   ·rw [if_neg c9] at H
    have c9b0:decide (0 < t303)=false:=decide_eq_false c9
    clear c9
    obtain rfl:=sI H
    go_enter Try.func126,Try.ntmps126
    go_wp2_with (first|((with_reducible refine gate_callee (f:=67) rfl ?_);refine gL (some 19) Try.func67 #[.int .i64 a0] ?_;(with_reducible refine (impl_ChannelsOf.calls k a0 t303 _ A8.out).mono ?_);rintro e w' ⟨rfl,⟨nd,rfl⟩⟩;refine ⟨_,rfl,?_⟩))
    go_ret
    exact ⟨fS,by repeat (first|exact Drawn0.refl _|apply Drawn0.step)⟩
def impl_HeadOk.f (k:Nat) (a0_0:Int) (a0_1:Int) (a0_2:Int) (a0_3:Int) (a0_4:Bool):Option (Bool):=(impl_isSide.f a0_0).bind fun t305=>(if t305=true then ((impl_isSide.f a0_1).bind fun t306=>(if t306=true then ((impl_DepthOk.f k a0_3 a0_2).bind fun t307=>(some t307)) else (some false))) else (some false))
theorem impl_HeadOk.mono:∀ a0 a1 a2 a3 a4 k,LeO (impl_HeadOk.f k a0 a1 a2 a3 a4) (impl_HeadOk.f (k+1) a0 a1 a2 a3 a4):=by
 intro a0 a1 a2 a3 a4 k
 unfold impl_HeadOk.f
 repeat' first
   | (with_reducible exact impl_DepthOk.mono _ _ _)
   | (with_reducible exact LeO.refl _)
   | (with_reducible exact LeO.none _)
   | (with_reducible refine LeO.ite ?_ ?_)
   | (with_reducible refine LeO.bind ?_ (fun _=>?_))
   | exact impl_DepthOk.mono _ _ _
   | exact LeO.none _
   | refine LeO.ite ?_ ?_
   | refine LeO.bind ?_ (fun _=>?_)
theorem impl_HeadOk.calls (k:Nat) (a0_0:Int) (a0_1:Int) (a0_2:Int) (a0_3:Int) (a0_4:Bool) (r:Bool) (w:World) (h:impl_HeadOk.f k a0_0 a0_1 a0_2 a0_3 a0_4=some r):
  Calls Try.prog 107 #[.agg #[.int .i64 a0_0,.int .i64 a0_1,.int .i64 a0_2,.int .i64 a0_3,.bool a0_4]] w fun e w'=>e=.returned (.bool r)∧Below w.heap.size w w':=by
 have hu32:=Try.underlying32
 have HB:=Aside0.mk (Below.refl w.heap.size w)
 have H:=h
 clear h
 unfold impl_HeadOk.f at H
 obtain ⟨t305,A2,H⟩:=bS H
 try dsimp only at H
 by_cases c3:t305=true
 ·subst c3
  rw [if_pos rfl] at H
  obtain ⟨t306,A4,H⟩:=bS H
  try dsimp only at H
  by_cases c5:t306=true
  ·subst c5
   rw [if_pos rfl] at H
   obtain ⟨t307,A6,H⟩:=bS H
   try dsimp only at H
   obtain rfl:=sI H
   go_enter Try.func107,Try.ntmps107
   go_wp2_with (first|((with_reducible refine gate_dst (N:=1) rfl ?_);refine boxE 1 (#[.int .i64 a0_0,.int .i64 a0_1,.int .i64 a0_2,.int .i64 a0_3,.bool a0_4]) 32 ?_;intro gb304 hg w7 hbox hb;have BK304:=Aside0.mk hbox;have GW304:=(gwH (w:=w) hg);have GE304:=(gwH (w:=w) hg);replace HB:=Aside0.mk (below_step bH hb);clear hb hbox hg;obtain ⟨z8_0,z8_1,z8_2,z8_3,z8_4,y8_0,y8_1,y8_2,y8_3,y8_4⟩:=blk5f BK304)|((with_reducible refine gate_callee (f:=125) rfl ?_);refine gL (some 5) Try.func125 #[.int .i64 a0_0] ?_;(with_reducible refine (impl_isSide.calls a0_0 true _ A2.out).mono ?_);rintro e w' ⟨rfl,⟨nd,rfl⟩⟩;refine ⟨_,rfl,?_⟩)|(go_at_call 125;(with_reducible refine (impl_isSide.calls a0_1 true _ A4.out).mono ?_);rintro e w' ⟨rfl,⟨nd,rfl⟩⟩)|(go_at_call 126;(with_reducible refine (impl_DepthOk.calls k a0_3 a0_2 t307 _ A6.out).mono ?_);rintro e w' ⟨rfl,⟨nd,rfl⟩⟩))
   go_ret
   exact ⟨fE,bG⟩
  ·obtain rfl:=bF c5
   rw [if_neg nF] at H
   obtain rfl:=sI H
   go_enter Try.func107,Try.ntmps107
   go_wp2_with (first|((with_reducible refine gate_dst (N:=1) rfl ?_);refine boxE 1 (#[.int .i64 a0_0,.int .i64 a0_1,.int .i64 a0_2,.int .i64 a0_3,.bool a0_4]) 32 ?_;intro gb304 hg w9 hbox hb;have BK304:=Aside0.mk hbox;have GW304:=(gwH (w:=w) hg);have GE304:=(gwH (w:=w) hg);replace HB:=Aside0.mk (below_step bH hb);clear hb hbox hg;obtain ⟨z10_0,z10_1,z10_2,z10_3,z10_4,y10_0,y10_1,y10_2,y10_3,y10_4⟩:=blk5f BK304)|((with_reducible refine gate_callee (f:=125) rfl ?_);refine gL (some 5) Try.func125 #[.int .i64 a0_0] ?_;(with_reducible refine (impl_isSide.calls a0_0 true _ A2.out).mono ?_);rintro e w' ⟨rfl,⟨nd,rfl⟩⟩;refine ⟨_,rfl,?_⟩)|(go_at_call 125;(with_reducible refine (impl_isSide.calls a0_1 false _ A4.out).mono ?_);rintro e w' ⟨rfl,⟨nd,rfl⟩⟩))
   go_ret
   exact ⟨fE,bG⟩
 ·obtain rfl:=bF c3
  rw [if_neg nF] at H
  obtain rfl:=sI H
  go_enter Try.func107,Try.ntmps107
  go_wp2_with (first|((with_reducible refine gate_dst (N:=1) rfl ?_);refine boxE 1 (#[.int .i64 a0_0,.int .i64 a0_1,.int .i64 a0_2,.int .i64 a0_3,.bool a0_4]) 32 ?_;intro gb304 hg w11 hbox hb;have BK304:=Aside0.mk hbox;have GW304:=(gwH (w:=w) hg);have GE304:=(gwH (w:=w) hg);replace HB:=Aside0.mk (below_step bH hb);clear hb hbox hg;obtain ⟨z12_0,z12_1,z12_2,z12_3,z12_4,y12_0,y12_1,y12_2,y12_3,y12_4⟩:=blk5f BK304)|((with_reducible refine gate_callee (f:=125) rfl ?_);refine gL (some 5) Try.func125 #[.int .i64 a0_0] ?_;(with_reducible refine (impl_isSide.calls a0_0 false _ A2.out).mono ?_);rintro e w' ⟨rfl,⟨nd,rfl⟩⟩;refine ⟨_,rfl,?_⟩))
  go_ret
  exact ⟨fE,bG⟩
def impl_powerOf.f (a0:Int):Option (Int):=(impl_within.f a0 0 62).bind fun t308=>(if t308=true then (if 0≤a0 then (some (shl .i64 1 a0)) else (none)) else (some 0))
theorem impl_powerOf.calls (a0:Int) (r:Int) (w:World) (h:impl_powerOf.f a0=some r):
  Calls Try.prog 68 #[.int .i64 a0] w fun e w'=>e=.returned (.int .i64 r)∧Drawn0 w w':=by
 have H:=h
 clear h
 unfold impl_powerOf.f at H
 obtain ⟨t308,A2,H⟩:=bS H
 try dsimp only at H
 by_cases c3:t308=true
 ·subst c3
  rw [if_pos rfl] at H
  by_cases c4:0≤a0
  ·rw [if_pos c4] at H
   have c4b0:=eq_true c4
   have c4b1:decide (0≤a0)=true:=decide_eq_true c4
   clear c4
   obtain ⟨ji5,hji5⟩:∃ j_:Int,(shl .i64 1 a0)=j_:=⟨_,rfl⟩
   replace H:(some ji5)=some r:=by first|(rw [hji5] at H;exact H)|(simp only [hji5] at H ⊢;exact H)
   (try rw [hji5] at A2)
   have hji5_:(IntKind.i64.wrap (1 * 2 ^ min a0.toNat 64))=ji5:=hji5
   have hji5z:a0≤64→(IntKind.i64.wrap (1 * 2 ^ a0.toNat))=ji5:=shl_small hji5
   have hji5u:(IntKind.i64.wrap (2 ^ min a0.toNat 64))=ji5:=by have h_:=hji5_;rw [Int.one_mul] at h_;exact h_
   have hji5v:a0≤64→(IntKind.i64.wrap (2 ^ a0.toNat))=ji5:=fun hle_=>by have h_:=hji5z hle_;rw [Int.one_mul] at h_;exact h_
   have hji5y:(wrap64 (1 * 2 ^ min a0.toNat 64))=ji5:=(i64_w _).symm.trans hji5_
   have hji5x:a0≤64→(wrap64 (1 * 2 ^ a0.toNat))=ji5:=fun h_=>(i64_w _).symm.trans (hji5z h_)
   obtain rfl:=sI H
   go_enter Try.func68,Try.ntmps68
   go_wp2_with (first|((with_reducible refine gate_callee (f:=99) rfl ?_);refine gL (some 4) Try.func99 #[.int .i64 a0,.int .i64 0,.int .i64 62] ?_;(with_reducible refine (impl_within.calls a0 0 62 true _ A2.out).mono ?_);rintro e w' ⟨rfl,⟨nd,rfl⟩⟩;refine ⟨_,rfl,?_⟩))
   go_ret
   exact ⟨by first|rfl|(simp;done)|(simp only [← hji5] <;> (first|rfl|simp))|(simp [*];done),by repeat (first|exact Drawn0.refl _|apply Drawn0.step)⟩
  ·rw [if_neg c4] at H
   exact absurd H (by simp)
 ·obtain rfl:=bF c3
  rw [if_neg nF] at H
  obtain rfl:=sI H
  go_enter Try.func68,Try.ntmps68
  go_wp2_with (first|((with_reducible refine gate_callee (f:=99) rfl ?_);refine gL (some 4) Try.func99 #[.int .i64 a0,.int .i64 0,.int .i64 62] ?_;(with_reducible refine (impl_within.calls a0 0 62 false _ A2.out).mono ?_);rintro e w' ⟨rfl,⟨nd,rfl⟩⟩;refine ⟨_,rfl,?_⟩))
  go_ret
  exact ⟨fS,by repeat (first|exact Drawn0.refl _|apply Drawn0.step)⟩
def impl_samplesOk.l0:Nat→Int→List Int→Int→Int→Option (Bool)
 | 0,_,_,_,_=>none
 | k+1,x1,x7,x8,x9=>if x9 < x8 then (if 0≤x9 then (if x9 < (x7.length:Int) then ((impl_powerOf.f x1).bind fun t310=>((impl_within.f (rd x7 x9) 0 (wrap64 (t310 - 1))).bind fun t311=>(if t311=true then (impl_samplesOk.l0 k x1 x7 x8 (wrap64 (x9+1))) else (some false)))) else (none)) else (none)) else (some true)
def impl_samplesOk.f (k:Nat) (l0:List Int) (a1:Int):Option (Bool):=impl_samplesOk.l0 k a1 l0 (l0.length:Int) 0
theorem impl_samplesOk.mono_l:∀ k,(∀ y0 y1 y2 y3,LeO (impl_samplesOk.l0 k y0 y1 y2 y3) (impl_samplesOk.l0 (k+1) y0 y1 y2 y3))
 | 0=>fun _ _ _ _ r h=>by simp [impl_samplesOk.l0] at h
 | k+1=>by
  have ih0:=impl_samplesOk.mono_l k
  ·intro y0 y1 y2 y3
   unfold impl_samplesOk.l0
   repeat' first
   | (with_reducible exact ih0 _ _ _ _)
   | (with_reducible exact LeO.refl _)
   | (with_reducible exact LeO.none _)
   | (with_reducible refine LeO.ite ?_ ?_)
   | (with_reducible refine LeO.bind ?_ (fun _=>?_))
   | exact ih0 _ _ _ _
   | exact LeO.none _
   | refine LeO.ite ?_ ?_
   | refine LeO.bind ?_ (fun _=>?_)
theorem impl_samplesOk.mono:∀ a0 a1 k,LeO (impl_samplesOk.f k a0 a1) (impl_samplesOk.f (k+1) a0 a1):=by
 intro a0 a1 k
 have ih0:=impl_samplesOk.mono_l k
 unfold impl_samplesOk.f
 repeat' first
   | (with_reducible exact ih0 _ _ _ _)
   | (with_reducible exact LeO.refl _)
   | (with_reducible exact LeO.none _)
   | (with_reducible refine LeO.ite ?_ ?_)
   | (with_reducible refine LeO.bind ?_ (fun _=>?_))
   | exact ih0 _ _ _ _
   | exact LeO.none _
   | refine LeO.ite ?_ ?_
   | refine LeO.bind ?_ (fun _=>?_)
theorem impl_samplesOk.calls (k:Nat) (A0:Option Addr) (c0:Nat) (l0:List Int) (a1:Int) (r:Bool) (w:World) (hr0:Kd.C (Kd.int .i64) w A0 l0.length l0) (hc0:l0.length≤c0) (h:impl_samplesOk.f k l0 a1=some r):
  Calls Try.prog 127 #[.slice A0 l0.length c0,.int .i64 a1] w fun e w'=>e=.returned (.bool r)∧Drawn0 w w':=by
 have HR0:=Aside0.mk hr0
 have HC0:=Aside0.mk hc0
 clear hr0 hc0
 have H:=h
 clear h
 unfold impl_samplesOk.f at H
 have H':=Aside0.mk H
 clear H
 go_enter Try.func127,Try.ntmps127
 go_wp2
 go_loopg [9] k (fun kq v9 w'=>∃ (x9_1:Int),v9=.int .i64 x9_1∧Aside0 (impl_samplesOk.l0 kq a1 l0 (l0.length:Int) x9_1=some r)∧Aside0 (kq≤k)∧Drawn0 w w')
 case atStart=>exact ⟨(0),fS,H',⟨Nat.le_refl _⟩,by repeat (first|exact Drawn0.refl _|apply Drawn0.step)⟩
 case round =>
  clear H'
  obtain ⟨x9_1,rfl,HA,HK1,⟨m1,rfl⟩⟩:=hrel
  cases gk with
  | zero=>exact absurd HA.out (by simp [impl_samplesOk.l0])
  | succ k1 =>
   have H:=HA.out
   clear HA
   simp only [impl_samplesOk.l0] at H
   by_cases c3:x9_1 < (l0.length:Int)
   ·rw [if_pos c3] at H
    have c3b0:decide (x9_1 < (l0.length:Int))=true:=decide_eq_true c3
    clear c3
    by_cases c4:0≤x9_1
    ·rw [if_pos c4] at H
     have c4b0:decide (0≤x9_1)=true:=decide_eq_true c4
     clear c4
     by_cases c5:x9_1 < (l0.length:Int)
     ·rw [if_pos c5] at H
      have c5b0:decide (x9_1 < (l0.length:Int))=true:=decide_eq_true c5
      clear c5
      obtain ⟨t310,A6,H⟩:=bS H
      try dsimp only at H
      obtain ⟨t311,A7,H⟩:=bS H
      try dsimp only at H
      by_cases c8:t311=true
      ·subst c8
       rw [if_pos rfl] at H
       have H':=Aside0.mk H
       clear H
       have p309:0≤(x9_1:Int):=oD
       have q309:x9_1 < (l0.length:Int):=oD
       obtain ⟨ad309,e309,hx309_0⟩:=Kd.at_int HR0.out x9_1 p309 q309
       cases e309
       replace p309:=eq_true p309
       replace q309:=eq_true q309
       go_wp2_with (first|((with_reducible refine gate_callee (f:=68) rfl ?_);refine gL (some 15) Try.func68 #[.int .i64 a1] ?_;(with_reducible refine (impl_powerOf.calls a1 t310 _ A6.out).mono ?_);rintro e w' ⟨rfl,⟨nd,rfl⟩⟩;refine ⟨_,rfl,?_⟩)|((with_reducible refine gate_callee (f:=99) rfl ?_);refine gL (some 17) Try.func99 #[.int .i64 (rd l0 x9_1),.int .i64 0,.int .i64 (wrap64 (t310 - 1))] ?_;(with_reducible refine (impl_within.calls (rd l0 x9_1) 0 (wrap64 (t310 - 1)) true _ A7.out).mono ?_);rintro e w' ⟨rfl,⟨nd,rfl⟩⟩;refine ⟨_,rfl,?_⟩))
       go_roundg k1
       case measure=>have:=HK1.out;omega
       case rel=>exact ⟨(wrap64 (x9_1+1)),fS,H',⟨by have:=HK1.out;omega⟩,by repeat (first|exact Drawn0.refl _|apply Drawn0.step)⟩
      ·obtain rfl:=bF c8
       rw [if_neg nF] at H
       obtain rfl:=sI H
       have p309:0≤(x9_1:Int):=oD
       have q309:x9_1 < (l0.length:Int):=oD
       obtain ⟨ad309,e309,hx309_0⟩:=Kd.at_int HR0.out x9_1 p309 q309
       cases e309
       replace p309:=eq_true p309
       replace q309:=eq_true q309
       go_wp2_with (first|((with_reducible refine gate_callee (f:=68) rfl ?_);refine gL (some 15) Try.func68 #[.int .i64 a1] ?_;(with_reducible refine (impl_powerOf.calls a1 t310 _ A6.out).mono ?_);rintro e w' ⟨rfl,⟨nd,rfl⟩⟩;refine ⟨_,rfl,?_⟩)|((with_reducible refine gate_callee (f:=99) rfl ?_);refine gL (some 17) Try.func99 #[.int .i64 (rd l0 x9_1),.int .i64 0,.int .i64 (wrap64 (t310 - 1))] ?_;(with_reducible refine (impl_within.calls (rd l0 x9_1) 0 (wrap64 (t310 - 1)) false _ A7.out).mono ?_);rintro e w' ⟨rfl,⟨nd,rfl⟩⟩;refine ⟨_,rfl,?_⟩))
       go_ret
       exact ⟨fS,by repeat (first|exact Drawn0.refl _|apply Drawn0.step)⟩
     ·rw [if_neg c5] at H
      exact absurd H (by simp)
    ·rw [if_neg c4] at H
     exact absurd H (by simp)
   ·rw [if_neg c3] at H
    have c3b0:decide (x9_1 < (l0.length:Int))=false:=decide_eq_false c3
    clear c3
    obtain rfl:=sI H
    go_wp2
    go_ret
    exact ⟨fS,by repeat (first|exact Drawn0.refl _|apply Drawn0.step)⟩
def impl_RasterOk.j0:Nat→Bool→Int→Int→Int→Int→List Int→Option (Bool)
 | 0,_,_,_,_,_,_=>none
 | k+1,x20,x313000,x313001,x313002,x313003,x313004=>if x20=true then (some false) else ((impl_ChannelsOf.f k x313002).bind fun t316=>(if (x313004.length:Int)=(wrap64 ((wrap64 (x313000 * x313001)) * t316)) then ((impl_samplesOk.f k x313004 x313003).bind fun t317=>(some t317)) else (some false)))
def impl_RasterOk.f (k:Nat) (a0_0:Int) (a0_1:Int) (a0_2:Int) (a0_3:Int) (l0_4:List Int):Option (Bool):=(impl_isSide.f a0_0).bind fun t313=>(if t313=true then ((impl_isSide.f a0_1).bind fun t314=>(if t314=true then ((impl_DepthOk.f k a0_2 a0_3).bind fun t315=>(impl_RasterOk.j0 k (!t315) a0_0 a0_1 a0_2 a0_3 l0_4)) else (impl_RasterOk.j0 k true a0_0 a0_1 a0_2 a0_3 l0_4))) else (impl_RasterOk.j0 k true a0_0 a0_1 a0_2 a0_3 l0_4))
theorem impl_RasterOk.mono_l:∀ k,(∀ y0 y1 y2 y3 y4 y5,LeO (impl_RasterOk.j0 k y0 y1 y2 y3 y4 y5) (impl_RasterOk.j0 (k+1) y0 y1 y2 y3 y4 y5))
 | 0=>fun _ _ _ _ _ _ r h=>by simp [impl_RasterOk.j0] at h
 | k+1=>by
  have ih0:=impl_RasterOk.mono_l k
  ·intro y0 y1 y2 y3 y4 y5
   unfold impl_RasterOk.j0
   repeat' first
   | (with_reducible exact ih0 _ _ _ _ _ _)
   | (with_reducible exact impl_ChannelsOf.mono _ _)
   | (with_reducible exact impl_DepthOk.mono _ _ _)
   | (with_reducible exact impl_samplesOk.mono _ _ _)
   | (with_reducible exact LeO.refl _)
   | (with_reducible exact LeO.none _)
   | (with_reducible refine LeO.ite ?_ ?_)
   | (with_reducible refine LeO.bind ?_ (fun _=>?_))
   | exact ih0 _ _ _ _ _ _
   | exact impl_ChannelsOf.mono _ _
   | exact impl_DepthOk.mono _ _ _
   | exact impl_samplesOk.mono _ _ _
   | exact LeO.none _
   | refine LeO.ite ?_ ?_
   | refine LeO.bind ?_ (fun _=>?_)
theorem impl_RasterOk.mono:∀ a0 a1 a2 a3 a4 k,LeO (impl_RasterOk.f k a0 a1 a2 a3 a4) (impl_RasterOk.f (k+1) a0 a1 a2 a3 a4):=by
 intro a0 a1 a2 a3 a4 k
 have ih0:=impl_RasterOk.mono_l k
 unfold impl_RasterOk.f
 repeat' first
   | (with_reducible exact ih0 _ _ _ _ _ _)
   | (with_reducible exact impl_ChannelsOf.mono _ _)
   | (with_reducible exact impl_DepthOk.mono _ _ _)
   | (with_reducible exact impl_samplesOk.mono _ _ _)
   | (with_reducible exact LeO.refl _)
   | (with_reducible exact LeO.none _)
   | (with_reducible refine LeO.ite ?_ ?_)
   | (with_reducible refine LeO.bind ?_ (fun _=>?_))
   | exact ih0 _ _ _ _ _ _
   | exact impl_ChannelsOf.mono _ _
   | exact impl_DepthOk.mono _ _ _
   | exact impl_samplesOk.mono _ _ _
   | exact LeO.none _
   | refine LeO.ite ?_ ?_
   | refine LeO.bind ?_ (fun _=>?_)
theorem impl_RasterOk.calls (k:Nat) (a0_0:Int) (a0_1:Int) (a0_2:Int) (a0_3:Int) (A0_4:Option Addr) (c0_4:Nat) (l0_4:List Int) (r:Bool) (w:World) (hr0_4:Kd.C (Kd.int .i64) w A0_4 l0_4.length l0_4) (hc0_4:l0_4.length≤c0_4) (h:impl_RasterOk.f k a0_0 a0_1 a0_2 a0_3 l0_4=some r):
  Calls Try.prog 108 #[.agg #[.int .i64 a0_0,.int .i64 a0_1,.int .i64 a0_2,.int .i64 a0_3,.slice A0_4 l0_4.length c0_4]] w fun e w'=>e=.returned (.bool r)∧Below w.heap.size w w':=by
 have hu34:=Try.underlying34
 have HR0_4:=Aside0.mk hr0_4
 have HC0_4:=Aside0.mk hc0_4
 clear hr0_4 hc0_4
 have HB:=Aside0.mk (Below.refl w.heap.size w)
 have H:=h
 clear h
 unfold impl_RasterOk.f at H
 have HC2:=Aside0.mk H
 clear H
 go_enter Try.func108,Try.ntmps108
 go_upto_region 1 with (first|((with_reducible refine gate_dst (N:=1) rfl ?_);refine boxE 1 (#[.int .i64 a0_0,.int .i64 a0_1,.int .i64 a0_2,.int .i64 a0_3,.slice A0_4 l0_4.length c0_4]) 34 ?_;intro gb312 hg w3 hbox hb;have BK312:=Aside0.mk hbox;have GW312:=(gwH (w:=w) hg);have GE312:=(gwH (w:=w) hg);replace HB:=Aside0.mk (below_step bH hb);clear hb hbox hg))
 repeat (go_quiet (first|((with_reducible refine gate_dst (N:=1) rfl ?_);refine boxE 1 (#[.int .i64 a0_0,.int .i64 a0_1,.int .i64 a0_2,.int .i64 a0_3,.slice A0_4 l0_4.length c0_4]) 34 ?_;intro gb312 hg w3 hbox hb;have BK312:=Aside0.mk hbox;have GW312:=(gwH (w:=w) hg);have GE312:=(gwH (w:=w) hg);replace HB:=Aside0.mk (below_step bH hb);clear hb hbox hg));go_upto_region 1 with (first|((with_reducible refine gate_dst (N:=1) rfl ?_);refine boxE 1 (#[.int .i64 a0_0,.int .i64 a0_1,.int .i64 a0_2,.int .i64 a0_3,.slice A0_4 l0_4.length c0_4]) 34 ?_;intro gb312 hg w3 hbox hb;have BK312:=Aside0.mk hbox;have GW312:=(gwH (w:=w) hg);have GE312:=(gwH (w:=w) hg);replace HB:=Aside0.mk (below_step bH hb);clear hb hbox hg)))
 (try simp only [Act.put,sA,sZ,sC])
 go_cut [20] (fun v20 wc=>∃ (kq:Nat) (x20_1:Bool),v20=.bool x20_1∧Aside0 (impl_RasterOk.j0 kq x20_1 a0_0 a0_1 a0_2 a0_3 l0_4=some r)∧Aside0 (kq≤k)∧Aside0 (wc.heap[gb312]?=some (.cells #[.int .i64 a0_0,.int .i64 a0_1,.int .i64 a0_2,.int .i64 a0_3,(.slice A0_4 l0_4.length c0_4)] 34 (0,0)))∧Aside0 (Below w.heap.size w wc))
 case first =>
  have H:=HC2.out
  clear HC2
  obtain ⟨t313,A4,H⟩:=bS H
  try dsimp only at H
  by_cases c5:t313=true
  ·subst c5
   rw [if_pos rfl] at H
   obtain ⟨t314,A6,H⟩:=bS H
   try dsimp only at H
   by_cases c7:t314=true
   ·subst c7
    rw [if_pos rfl] at H
    obtain ⟨t315,A8,H⟩:=bS H
    try dsimp only at H
    have H':=Aside0.mk H
    clear H
    obtain ⟨z9_0,z9_1,z9_2,z9_3,z9_4,y9_0,y9_1,y9_2,y9_3,y9_4⟩:=blk5f BK312
    go_wp2_with (first|(go_at_call 125;(with_reducible refine (impl_isSide.calls a0_0 true _ A4.out).mono ?_);rintro e w' ⟨rfl,⟨nd,rfl⟩⟩;(try first|exact ⟨rfl,_,World.drewN_drewN _ _ _⟩|exact ⟨rfl,_,Eq.trans (World.drewN_drewN _ _ _) (congrArg (World.drewN _) (Nat.add_assoc _ _ _))⟩))|(go_at_call 125;(with_reducible refine (impl_isSide.calls a0_1 true _ A6.out).mono ?_);rintro e w' ⟨rfl,⟨nd,rfl⟩⟩;(try first|exact ⟨rfl,_,World.drewN_drewN _ _ _⟩|exact ⟨rfl,_,Eq.trans (World.drewN_drewN _ _ _) (congrArg (World.drewN _) (Nat.add_assoc _ _ _))⟩))|(go_at_call 126;(with_reducible refine (impl_DepthOk.calls k a0_2 a0_3 t315 _ A8.out).mono ?_);rintro e w' ⟨rfl,⟨nd,rfl⟩⟩;(try first|exact ⟨rfl,_,World.drewN_drewN _ _ _⟩|exact ⟨rfl,_,Eq.trans (World.drewN_drewN _ _ _) (congrArg (World.drewN _) (Nat.add_assoc _ _ _))⟩)))
    repeat (go_quiet (first|(go_at_call 125;(with_reducible refine (impl_isSide.calls a0_0 true _ A4.out).mono ?_);rintro e w' ⟨rfl,⟨nd,rfl⟩⟩;(try first|exact ⟨rfl,_,World.drewN_drewN _ _ _⟩|exact ⟨rfl,_,Eq.trans (World.drewN_drewN _ _ _) (congrArg (World.drewN _) (Nat.add_assoc _ _ _))⟩))|(go_at_call 125;(with_reducible refine (impl_isSide.calls a0_1 true _ A6.out).mono ?_);rintro e w' ⟨rfl,⟨nd,rfl⟩⟩;(try first|exact ⟨rfl,_,World.drewN_drewN _ _ _⟩|exact ⟨rfl,_,Eq.trans (World.drewN_drewN _ _ _) (congrArg (World.drewN _) (Nat.add_assoc _ _ _))⟩))|(go_at_call 126;(with_reducible refine (impl_DepthOk.calls k a0_2 a0_3 t315 _ A8.out).mono ?_);rintro e w' ⟨rfl,⟨nd,rfl⟩⟩;(try first|exact ⟨rfl,_,World.drewN_drewN _ _ _⟩|exact ⟨rfl,_,Eq.trans (World.drewN_drewN _ _ _) (congrArg (World.drewN _) (Nat.add_assoc _ _ _))⟩)));try go_wp2_with (first|(go_at_call 125;(with_reducible refine (impl_isSide.calls a0_0 true _ A4.out).mono ?_);rintro e w' ⟨rfl,⟨nd,rfl⟩⟩;(try first|exact ⟨rfl,_,World.drewN_drewN _ _ _⟩|exact ⟨rfl,_,Eq.trans (World.drewN_drewN _ _ _) (congrArg (World.drewN _) (Nat.add_assoc _ _ _))⟩))|(go_at_call 125;(with_reducible refine (impl_isSide.calls a0_1 true _ A6.out).mono ?_);rintro e w' ⟨rfl,⟨nd,rfl⟩⟩;(try first|exact ⟨rfl,_,World.drewN_drewN _ _ _⟩|exact ⟨rfl,_,Eq.trans (World.drewN_drewN _ _ _) (congrArg (World.drewN _) (Nat.add_assoc _ _ _))⟩))|(go_at_call 126;(with_reducible refine (impl_DepthOk.calls k a0_2 a0_3 t315 _ A8.out).mono ?_);rintro e w' ⟨rfl,⟨nd,rfl⟩⟩;(try first|exact ⟨rfl,_,World.drewN_drewN _ _ _⟩|exact ⟨rfl,_,Eq.trans (World.drewN_drewN _ _ _) (congrArg (World.drewN _) (Nat.add_assoc _ _ _))⟩))))
    go_meet
    case rel=>exact ⟨_,(!t315),fS,H',⟨by first|omega|exact Nat.le_refl _⟩,⟨by (with_reducible repeat (first|refine blk_drewN ?_ _|refine blk_drew ?_|refine blk_alloc ?_ _));exact BK312.out⟩,⟨bG⟩⟩
   ·obtain rfl:=bF c7
    rw [if_neg nF] at H
    have H':=Aside0.mk H
    clear H
    obtain ⟨z10_0,z10_1,z10_2,z10_3,z10_4,y10_0,y10_1,y10_2,y10_3,y10_4⟩:=blk5f BK312
    go_wp2_with (first|(go_at_call 125;(with_reducible refine (impl_isSide.calls a0_0 true _ A4.out).mono ?_);rintro e w' ⟨rfl,⟨nd,rfl⟩⟩;(try first|exact ⟨rfl,_,World.drewN_drewN _ _ _⟩|exact ⟨rfl,_,Eq.trans (World.drewN_drewN _ _ _) (congrArg (World.drewN _) (Nat.add_assoc _ _ _))⟩))|(go_at_call 125;(with_reducible refine (impl_isSide.calls a0_1 false _ A6.out).mono ?_);rintro e w' ⟨rfl,⟨nd,rfl⟩⟩;(try first|exact ⟨rfl,_,World.drewN_drewN _ _ _⟩|exact ⟨rfl,_,Eq.trans (World.drewN_drewN _ _ _) (congrArg (World.drewN _) (Nat.add_assoc _ _ _))⟩)))
    repeat (go_quiet (first|(go_at_call 125;(with_reducible refine (impl_isSide.calls a0_0 true _ A4.out).mono ?_);rintro e w' ⟨rfl,⟨nd,rfl⟩⟩;(try first|exact ⟨rfl,_,World.drewN_drewN _ _ _⟩|exact ⟨rfl,_,Eq.trans (World.drewN_drewN _ _ _) (congrArg (World.drewN _) (Nat.add_assoc _ _ _))⟩))|(go_at_call 125;(with_reducible refine (impl_isSide.calls a0_1 false _ A6.out).mono ?_);rintro e w' ⟨rfl,⟨nd,rfl⟩⟩;(try first|exact ⟨rfl,_,World.drewN_drewN _ _ _⟩|exact ⟨rfl,_,Eq.trans (World.drewN_drewN _ _ _) (congrArg (World.drewN _) (Nat.add_assoc _ _ _))⟩)));try go_wp2_with (first|(go_at_call 125;(with_reducible refine (impl_isSide.calls a0_0 true _ A4.out).mono ?_);rintro e w' ⟨rfl,⟨nd,rfl⟩⟩;(try first|exact ⟨rfl,_,World.drewN_drewN _ _ _⟩|exact ⟨rfl,_,Eq.trans (World.drewN_drewN _ _ _) (congrArg (World.drewN _) (Nat.add_assoc _ _ _))⟩))|(go_at_call 125;(with_reducible refine (impl_isSide.calls a0_1 false _ A6.out).mono ?_);rintro e w' ⟨rfl,⟨nd,rfl⟩⟩;(try first|exact ⟨rfl,_,World.drewN_drewN _ _ _⟩|exact ⟨rfl,_,Eq.trans (World.drewN_drewN _ _ _) (congrArg (World.drewN _) (Nat.add_assoc _ _ _))⟩))))
    go_meet
    case rel=>exact ⟨_,(true),fS,H',⟨by first|omega|exact Nat.le_refl _⟩,⟨by (with_reducible repeat (first|refine blk_drewN ?_ _|refine blk_drew ?_|refine blk_alloc ?_ _));exact BK312.out⟩,⟨bG⟩⟩
  ·obtain rfl:=bF c5
   rw [if_neg nF] at H
   have H':=Aside0.mk H
   clear H
   obtain ⟨z11_0,z11_1,z11_2,z11_3,z11_4,y11_0,y11_1,y11_2,y11_3,y11_4⟩:=blk5f BK312
   go_wp2_with (first|(go_at_call 125;(with_reducible refine (impl_isSide.calls a0_0 false _ A4.out).mono ?_);rintro e w' ⟨rfl,⟨nd,rfl⟩⟩;(try first|exact ⟨rfl,_,World.drewN_drewN _ _ _⟩|exact ⟨rfl,_,Eq.trans (World.drewN_drewN _ _ _) (congrArg (World.drewN _) (Nat.add_assoc _ _ _))⟩)))
   repeat (go_quiet (first|(go_at_call 125;(with_reducible refine (impl_isSide.calls a0_0 false _ A4.out).mono ?_);rintro e w' ⟨rfl,⟨nd,rfl⟩⟩;(try first|exact ⟨rfl,_,World.drewN_drewN _ _ _⟩|exact ⟨rfl,_,Eq.trans (World.drewN_drewN _ _ _) (congrArg (World.drewN _) (Nat.add_assoc _ _ _))⟩)));try go_wp2_with (first|(go_at_call 125;(with_reducible refine (impl_isSide.calls a0_0 false _ A4.out).mono ?_);rintro e w' ⟨rfl,⟨nd,rfl⟩⟩;(try first|exact ⟨rfl,_,World.drewN_drewN _ _ _⟩|exact ⟨rfl,_,Eq.trans (World.drewN_drewN _ _ _) (congrArg (World.drewN _) (Nat.add_assoc _ _ _))⟩))))
   go_meet
   case rel=>exact ⟨_,(true),fS,H',⟨by first|omega|exact Nat.le_refl _⟩,⟨by (with_reducible repeat (first|refine blk_drewN ?_ _|refine blk_drew ?_|refine blk_alloc ?_ _));exact BK312.out⟩,⟨bG⟩⟩
 case rest =>
  clear HC2
  obtain ⟨kq,x20_1,rfl,HA,HJ1,BK312,HB⟩:=hcut
  cases kq with
  | zero=>exact absurd HA.out (by simp [impl_RasterOk.j0])
  | succ kj1 =>
   have H:=HA.out
   clear HA
   simp only [impl_RasterOk.j0] at H
   by_cases c12:x20_1=true
   ·subst c12
    rw [if_pos rfl] at H
    obtain rfl:=sI H
    go_wp2
    repeat (go_quiet (fail);try go_wp2)
    go_ret
    exact ⟨fE,bG⟩
   ·obtain rfl:=bF c12
    rw [if_neg nF] at H
    obtain ⟨t316,A13,H⟩:=bS H
    try dsimp only at H
    by_cases c14:(l0_4.length:Int)=(wrap64 ((wrap64 (a0_0 * a0_1)) * t316))
    ·rw [if_pos c14] at H
     have c14b0:((l0_4.length:Int) == (wrap64 ((wrap64 (a0_0 * a0_1)) * t316)))=true:=beq_iff_eq.mpr c14
     have c14b1:((l0_4.length:Int) != (wrap64 ((wrap64 (a0_0 * a0_1)) * t316)))=false:=bne_eq_false_iff_eq.mpr c14
     clear c14
     obtain ⟨t317,A15,H⟩:=bS H
     try dsimp only at H
     obtain rfl:=sI H
     obtain ⟨z16_0,z16_1,z16_2,z16_3,z16_4,y16_0,y16_1,y16_2,y16_3,y16_4⟩:=blk5f BK312
     go_wp2_with (first|(go_at_call 67;(with_reducible refine (impl_ChannelsOf.calls kj1 a0_2 t316 _ A13.out).mono ?_);rintro e w' ⟨rfl,⟨nd,rfl⟩⟩;(try first|exact ⟨rfl,_,World.drewN_drewN _ _ _⟩|exact ⟨rfl,_,Eq.trans (World.drewN_drewN _ _ _) (congrArg (World.drewN _) (Nat.add_assoc _ _ _))⟩))|(go_at_call 127;(with_reducible refine (impl_samplesOk.calls kj1 _ _ l0_4 a0_3 t317 _ ?side1 HC0_4.out A15.out).mono ?_);(case side1=>repeat (first|exact (Kd.C_below HR0_4.out bG)|(with_reducible refine Kd.C_alloc ?_ _)|(with_reducible refine Kd.C_drewN ?_ _)|(with_reducible refine Kd.C_drew ?_)));rintro e w' ⟨rfl,⟨nd,rfl⟩⟩;(try first|exact ⟨rfl,_,World.drewN_drewN _ _ _⟩|exact ⟨rfl,_,Eq.trans (World.drewN_drewN _ _ _) (congrArg (World.drewN _) (Nat.add_assoc _ _ _))⟩)))
     repeat (go_quiet (first|(go_at_call 67;(with_reducible refine (impl_ChannelsOf.calls kj1 a0_2 t316 _ A13.out).mono ?_);rintro e w' ⟨rfl,⟨nd,rfl⟩⟩;(try first|exact ⟨rfl,_,World.drewN_drewN _ _ _⟩|exact ⟨rfl,_,Eq.trans (World.drewN_drewN _ _ _) (congrArg (World.drewN _) (Nat.add_assoc _ _ _))⟩))|(go_at_call 127;(with_reducible refine (impl_samplesOk.calls kj1 _ _ l0_4 a0_3 t317 _ ?side1 HC0_4.out A15.out).mono ?_);(case side1=>repeat (first|exact (Kd.C_below HR0_4.out bG)|(with_reducible refine Kd.C_alloc ?_ _)|(with_reducible refine Kd.C_drewN ?_ _)|(with_reducible refine Kd.C_drew ?_)));rintro e w' ⟨rfl,⟨nd,rfl⟩⟩;(try first|exact ⟨rfl,_,World.drewN_drewN _ _ _⟩|exact ⟨rfl,_,Eq.trans (World.drewN_drewN _ _ _) (congrArg (World.drewN _) (Nat.add_assoc _ _ _))⟩)));try go_wp2_with (first|(go_at_call 67;(with_reducible refine (impl_ChannelsOf.calls kj1 a0_2 t316 _ A13.out).mono ?_);rintro e w' ⟨rfl,⟨nd,rfl⟩⟩;(try first|exact ⟨rfl,_,World.drewN_drewN _ _ _⟩|exact ⟨rfl,_,Eq.trans (World.drewN_drewN _ _ _) (congrArg (World.drewN _) (Nat.add_assoc _ _ _))⟩))|(go_at_call 127;(with_reducible refine (impl_samplesOk.calls kj1 _ _ l0_4 a0_3 t317 _ ?side1 HC0_4.out A15.out).mono ?_);(case side1=>repeat (first|exact (Kd.C_below HR0_4.out bG)|(with_reducible refine Kd.C_alloc ?_ _)|(with_reducible refine Kd.C_drewN ?_ _)|(with_reducible refine Kd.C_drew ?_)));rintro e w' ⟨rfl,⟨nd,rfl⟩⟩;(try first|exact ⟨rfl,_,World.drewN_drewN _ _ _⟩|exact ⟨rfl,_,Eq.trans (World.drewN_drewN _ _ _) (congrArg (World.drewN _) (Nat.add_assoc _ _ _))⟩))))
     go_ret
     exact ⟨fE,bG⟩
    ·rw [if_neg c14] at H
     have c14b0:((l0_4.length:Int) == (wrap64 ((wrap64 (a0_0 * a0_1)) * t316)))=false:=beq_eq_false_iff_ne.mpr c14
     have c14b1:((l0_4.length:Int) != (wrap64 ((wrap64 (a0_0 * a0_1)) * t316)))=true:=bne_iff_ne.mpr c14
     obtain rfl:=sI H
     obtain ⟨z17_0,z17_1,z17_2,z17_3,z17_4,y17_0,y17_1,y17_2,y17_3,y17_4⟩:=blk5f BK312
     go_wp2_with (first|(go_at_call 67;(with_reducible refine (impl_ChannelsOf.calls kj1 a0_2 t316 _ A13.out).mono ?_);rintro e w' ⟨rfl,⟨nd,rfl⟩⟩;(try first|exact ⟨rfl,_,World.drewN_drewN _ _ _⟩|exact ⟨rfl,_,Eq.trans (World.drewN_drewN _ _ _) (congrArg (World.drewN _) (Nat.add_assoc _ _ _))⟩)))
     repeat (go_quiet (first|(go_at_call 67;(with_reducible refine (impl_ChannelsOf.calls kj1 a0_2 t316 _ A13.out).mono ?_);rintro e w' ⟨rfl,⟨nd,rfl⟩⟩;(try first|exact ⟨rfl,_,World.drewN_drewN _ _ _⟩|exact ⟨rfl,_,Eq.trans (World.drewN_drewN _ _ _) (congrArg (World.drewN _) (Nat.add_assoc _ _ _))⟩)));try go_wp2_with (first|(go_at_call 67;(with_reducible refine (impl_ChannelsOf.calls kj1 a0_2 t316 _ A13.out).mono ?_);rintro e w' ⟨rfl,⟨nd,rfl⟩⟩;(try first|exact ⟨rfl,_,World.drewN_drewN _ _ _⟩|exact ⟨rfl,_,Eq.trans (World.drewN_drewN _ _ _) (congrArg (World.drewN _) (Nat.add_assoc _ _ _))⟩))))
     go_ret
     exact ⟨fE,bG⟩
def impl_colorOk.f (a0_0:Int) (a0_1:Int) (a0_2:Int):Option (Bool):=(impl_within.f a0_0 0 255).bind fun t319=>(if t319=true then ((impl_within.f a0_1 0 255).bind fun t320=>(if t320=true then ((impl_within.f a0_2 0 255).bind fun t321=>(some t321)) else (some false))) else (some false))
theorem impl_colorOk.calls (a0_0:Int) (a0_1:Int) (a0_2:Int) (r:Bool) (w:World) (h:impl_colorOk.f a0_0 a0_1 a0_2=some r):
  Calls Try.prog 128 #[.agg #[.int .i64 a0_0,.int .i64 a0_1,.int .i64 a0_2]] w fun e w'=>e=.returned (.bool r)∧Below w.heap.size w w':=by
 have hu95:=Try.underlying95
 have HB:=Aside0.mk (Below.refl w.heap.size w)
 have H:=h
 clear h
 unfold impl_colorOk.f at H
 obtain ⟨t319,A2,H⟩:=bS H
 try dsimp only at H
 by_cases c3:t319=true
 ·subst c3
  rw [if_pos rfl] at H
  obtain ⟨t320,A4,H⟩:=bS H
  try dsimp only at H
  by_cases c5:t320=true
  ·subst c5
   rw [if_pos rfl] at H
   obtain ⟨t321,A6,H⟩:=bS H
   try dsimp only at H
   obtain rfl:=sI H
   go_enter Try.func128,Try.ntmps128
   go_wp2_with (first|((with_reducible refine gate_dst (N:=1) rfl ?_);refine boxE 1 (#[.int .i64 a0_0,.int .i64 a0_1,.int .i64 a0_2]) 95 ?_;intro gb318 hg w7 hbox hb;have BK318:=Aside0.mk hbox;have GW318:=(gwH (w:=w) hg);have GE318:=(gwH (w:=w) hg);replace HB:=Aside0.mk (below_step bH hb);clear hb hbox hg;obtain ⟨z8_0,z8_1,z8_2,y8_0,y8_1,y8_2⟩:=blk3f BK318)|((with_reducible refine gate_callee (f:=99) rfl ?_);refine gL (some 5) Try.func99 #[.int .i64 a0_0,.int .i64 0,.int .i64 255] ?_;(with_reducible refine (impl_within.calls a0_0 0 255 true _ A2.out).mono ?_);rintro e w' ⟨rfl,⟨nd,rfl⟩⟩;refine ⟨_,rfl,?_⟩)|(go_at_call 99;(with_reducible refine (impl_within.calls a0_1 0 255 true _ A4.out).mono ?_);rintro e w' ⟨rfl,⟨nd,rfl⟩⟩)|(go_at_call 99;(with_reducible refine (impl_within.calls a0_2 0 255 t321 _ A6.out).mono ?_);rintro e w' ⟨rfl,⟨nd,rfl⟩⟩))
   go_ret
   exact ⟨fE,bG⟩
  ·obtain rfl:=bF c5
   rw [if_neg nF] at H
   obtain rfl:=sI H
   go_enter Try.func128,Try.ntmps128
   go_wp2_with (first|((with_reducible refine gate_dst (N:=1) rfl ?_);refine boxE 1 (#[.int .i64 a0_0,.int .i64 a0_1,.int .i64 a0_2]) 95 ?_;intro gb318 hg w9 hbox hb;have BK318:=Aside0.mk hbox;have GW318:=(gwH (w:=w) hg);have GE318:=(gwH (w:=w) hg);replace HB:=Aside0.mk (below_step bH hb);clear hb hbox hg;obtain ⟨z10_0,z10_1,z10_2,y10_0,y10_1,y10_2⟩:=blk3f BK318)|((with_reducible refine gate_callee (f:=99) rfl ?_);refine gL (some 5) Try.func99 #[.int .i64 a0_0,.int .i64 0,.int .i64 255] ?_;(with_reducible refine (impl_within.calls a0_0 0 255 true _ A2.out).mono ?_);rintro e w' ⟨rfl,⟨nd,rfl⟩⟩;refine ⟨_,rfl,?_⟩)|(go_at_call 99;(with_reducible refine (impl_within.calls a0_1 0 255 false _ A4.out).mono ?_);rintro e w' ⟨rfl,⟨nd,rfl⟩⟩))
   go_ret
   exact ⟨fE,bG⟩
 ·obtain rfl:=bF c3
  rw [if_neg nF] at H
  obtain rfl:=sI H
  go_enter Try.func128,Try.ntmps128
  go_wp2_with (first|((with_reducible refine gate_dst (N:=1) rfl ?_);refine boxE 1 (#[.int .i64 a0_0,.int .i64 a0_1,.int .i64 a0_2]) 95 ?_;intro gb318 hg w11 hbox hb;have BK318:=Aside0.mk hbox;have GW318:=(gwH (w:=w) hg);have GE318:=(gwH (w:=w) hg);replace HB:=Aside0.mk (below_step bH hb);clear hb hbox hg;obtain ⟨z12_0,z12_1,z12_2,y12_0,y12_1,y12_2⟩:=blk3f BK318)|((with_reducible refine gate_callee (f:=99) rfl ?_);refine gL (some 5) Try.func99 #[.int .i64 a0_0,.int .i64 0,.int .i64 255] ?_;(with_reducible refine (impl_within.calls a0_0 0 255 false _ A2.out).mono ?_);rintro e w' ⟨rfl,⟨nd,rfl⟩⟩;refine ⟨_,rfl,?_⟩))
  go_ret
  exact ⟨fE,bG⟩
end Go.Proofs.Ytjpfhldklbgdcaa.Ld
