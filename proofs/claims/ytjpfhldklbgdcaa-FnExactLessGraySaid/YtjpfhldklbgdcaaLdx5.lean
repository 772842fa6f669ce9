import Derived.Test.YtjpfhldklbgdcaaLdx0
import Derived.Test.YtjpfhldklbgdcaaLdx1
import Derived.Test.YtjpfhldklbgdcaaLdx2
set_option maxHeartbeats 8000000
set_option maxRecDepth 100000
namespace Go.Proofs.Ytjpfhldklbgdcaa.Ld
open Go.RowKit Go.Proofs.Ytjpfhldklbgdcaa.Sq Go.Proofs.YtjpfhldklbgdcaaW.PrintWords Go.Proofs.YtjpfhldklbgdcaaW.PrintLast Go.Proofs.YtjpfhldklbgdcaaW.PrintMore
attribute [local go_sem] max2_int min2_int max_two min_two max_three min_three max_four min_four   -- for this text's walks alone
set_option linter.unusedVariables false
set_option linter.unusedSimpArgs false
def spec_l17Depth.f (a0_0:Int) (a0_1:Int) (a0_2:Int) (a0_3:Int) (a0_4:Bool):Option (Int):=(spec_l01In.f a0_2 0 16).bind fun t133=>(if t133=true then (some a0_2) else (some 0))
theorem spec_l17Depth.calls (a0_0:Int) (a0_1:Int) (a0_2:Int) (a0_3:Int) (a0_4:Bool) (r:Int) (w:World) (h:spec_l17Depth.f a0_0 a0_1 a0_2 a0_3 a0_4=some r):
  Calls Try.prog 117 #[.agg #[.int .i64 a0_0,.int .i64 a0_1,.int .i64 a0_2,.int .i64 a0_3,.bool a0_4]] w fun e w'=>e=.returned (.int .i64 r)∧Below w.heap.size w w':=by
 have hu32:=Try.underlying32
 have HB:=Aside0.mk (Below.refl w.heap.size w)
 have H:=h
 clear h
 unfold spec_l17Depth.f at H
 obtain ⟨t133,A2,H⟩:=bS H
 try dsimp only at H
 by_cases c3:t133=true
 ·subst c3
  rw [if_pos rfl] at H
  obtain rfl:=sI H
  go_enter Try.func117,Try.ntmps117
  go_wp2_with (first|((with_reducible refine gate_dst (N:=1) rfl ?_);refine boxE 1 (#[.int .i64 a0_0,.int .i64 a0_1,.int .i64 a0_2,.int .i64 a0_3,.bool a0_4]) 32 ?_;intro gb132 hg w4 hbox hb;have BK132:=Aside0.mk hbox;have GW132:=(gwH (w:=w) hg);have GE132:=(gwH (w:=w) hg);replace HB:=Aside0.mk (below_step bH hb);clear hb hbox hg;obtain ⟨z5_0,z5_1,z5_2,z5_3,z5_4,y5_0,y5_1,y5_2,y5_3,y5_4⟩:=blk5f BK132)|((with_reducible refine gate_callee (f:=116) rfl ?_);refine gL (some 5) Try.func116 #[.int .i64 a0_2,.int .i64 0,.int .i64 16] ?_;(with_reducible refine (spec_l01In.calls a0_2 0 16 true _ A2.out).mono ?_);rintro e w' ⟨rfl,⟨nd,rfl⟩⟩;refine ⟨_,rfl,?_⟩))
  go_ret
  exact ⟨fE,bG⟩
 ·obtain rfl:=bF c3
  rw [if_neg nF] at H
  obtain rfl:=sI H
  go_enter Try.func117,Try.ntmps117
  go_wp2_with (first|((with_reducible refine gate_dst (N:=1) rfl ?_);refine boxE 1 (#[.int .i64 a0_0,.int .i64 a0_1,.int .i64 a0_2,.int .i64 a0_3,.bool a0_4]) 32 ?_;intro gb132 hg w6 hbox hb;have BK132:=Aside0.mk hbox;have GW132:=(gwH (w:=w) hg);have GE132:=(gwH (w:=w) hg);replace HB:=Aside0.mk (below_step bH hb);clear hb hbox hg;obtain ⟨z7_0,z7_1,z7_2,z7_3,z7_4,y7_0,y7_1,y7_2,y7_3,y7_4⟩:=blk5f BK132)|((with_reducible refine gate_callee (f:=116) rfl ?_);refine gL (some 5) Try.func116 #[.int .i64 a0_2,.int .i64 0,.int .i64 16] ?_;(with_reducible refine (spec_l01In.calls a0_2 0 16 false _ A2.out).mono ?_);rintro e w' ⟨rfl,⟨nd,rfl⟩⟩;refine ⟨_,rfl,?_⟩))
  go_ret
  exact ⟨fE,bG⟩
mutual
def spec_ClearOk.j0:Nat→List Int→Int→Int→Option (Bool)
 | 0,_,_,_=>none
 | k+1,x2,x7,x8=>if (x2.length:Int)=0 then (some true) else (spec_ClearOk.l0 k x2 x7 x8 0)
def spec_ClearOk.l0:Nat→List Int→Int→Int→Int→Option (Bool)
 | 0,_,_,_,_=>none
 | k+1,x2,x7,x8,x9=>if x9 < (x2.length:Int) then (if 0≤x9 then ((spec_l01In.f (rd x2 x9) 0 x7).bind fun t140=>(if t140=true then (spec_ClearOk.l0 k x2 x7 x8 (wrap64 (x9+1))) else (some false))) else (none)) else (some ((x2.length:Int) == x8))
end
def spec_ClearOk.f (k:Nat) (a0_0:Int) (a0_1:Int) (a0_2:Int) (a0_3:Int) (a0_4:Bool) (a1:Int) (l2:List Int):Option (Bool):=if a0_3=0 then ((spec_l17Depth.f a0_0 a0_1 a0_2 a0_3 a0_4).bind fun t135=>((spec_l01Pow.f k t135).bind fun t136=>(spec_ClearOk.j0 k l2 (wrap64 (t136 - 1)) 1))) else (if a0_3=2 then ((spec_l17Depth.f a0_0 a0_1 a0_2 a0_3 a0_4).bind fun t137=>((spec_l01Pow.f k t137).bind fun t138=>(spec_ClearOk.j0 k l2 (wrap64 (t138 - 1)) 3))) else (if a0_3=3 then (if (l2.length:Int) > a1 then (some false) else (spec_ClearOk.j0 k l2 255 (l2.length:Int))) else (spec_ClearOk.j0 k l2 0 0)))
theorem spec_ClearOk.mono_l:∀ k,(∀ y0 y1 y2,LeO (spec_ClearOk.j0 k y0 y1 y2) (spec_ClearOk.j0 (k+1) y0 y1 y2))∧(∀ y0 y1 y2 y3,LeO (spec_ClearOk.l0 k y0 y1 y2 y3) (spec_ClearOk.l0 (k+1) y0 y1 y2 y3))
 | 0=>⟨fun _ _ _ r h=>by simp [spec_ClearOk.j0] at h,fun _ _ _ _ r h=>by simp [spec_ClearOk.l0] at h⟩
 | k+1=>by
  obtain ⟨ih0,ih1⟩:=spec_ClearOk.mono_l k
  refine ⟨?_,?_⟩
  ·intro y0 y1 y2
   unfold spec_ClearOk.j0
   repeat' first
   | (with_reducible exact ih0 _ _ _)
   | (with_reducible exact ih1 _ _ _ _)
   | (with_reducible exact spec_l01Pow.mono _ _)
   | (with_reducible exact LeO.refl _)
   | (with_reducible exact LeO.none _)
   | (with_reducible refine LeO.ite ?_ ?_)
   | (with_reducible refine LeO.bind ?_ (fun _=>?_))
   | exact ih0 _ _ _
   | exact ih1 _ _ _ _
   | exact spec_l01Pow.mono _ _
   | exact LeO.none _
   | refine LeO.ite ?_ ?_
   | refine LeO.bind ?_ (fun _=>?_)
  ·intro y0 y1 y2 y3
   unfold spec_ClearOk.l0
   repeat' first
   | (with_reducible exact ih0 _ _ _)
   | (with_reducible exact ih1 _ _ _ _)
   | (with_reducible exact spec_l01Pow.mono _ _)
   | (with_reducible exact LeO.refl _)
   | (with_reducible exact LeO.none _)
   | (with_reducible refine LeO.ite ?_ ?_)
   | (with_reducible refine LeO.bind ?_ (fun _=>?_))
   | exact ih0 _ _ _
   | exact ih1 _ _ _ _
   | exact spec_l01Pow.mono _ _
   | exact LeO.none _
   | refine LeO.ite ?_ ?_
   | refine LeO.bind ?_ (fun _=>?_)
theorem spec_ClearOk.mono:∀ a0 a1 a2 a3 a4 a5 a6 k,LeO (spec_ClearOk.f k a0 a1 a2 a3 a4 a5 a6) (spec_ClearOk.f (k+1) a0 a1 a2 a3 a4 a5 a6):=by
 intro a0 a1 a2 a3 a4 a5 a6 k
 obtain ⟨ih0,ih1⟩:=spec_ClearOk.mono_l k
 unfold spec_ClearOk.f
 repeat' first
   | (with_reducible exact ih0 _ _ _)
   | (with_reducible exact ih1 _ _ _ _)
   | (with_reducible exact spec_l01Pow.mono _ _)
   | (with_reducible exact LeO.refl _)
   | (with_reducible exact LeO.none _)
   | (with_reducible refine LeO.ite ?_ ?_)
   | (with_reducible refine LeO.bind ?_ (fun _=>?_))
   | exact ih0 _ _ _
   | exact ih1 _ _ _ _
   | exact spec_l01Pow.mono _ _
   | exact LeO.none _
   | refine LeO.ite ?_ ?_
   | refine LeO.bind ?_ (fun _=>?_)
theorem spec_ClearOk.calls (k:Nat) (a0_0:Int) (a0_1:Int) (a0_2:Int) (a0_3:Int) (a0_4:Bool) (a1:Int) (A2:Option Addr) (c2:Nat) (l2:List Int) (r:Bool) (w:World) (hr2:Kd.C (Kd.int .i64) w A2 l2.length l2) (hc2:l2.length≤c2) (h:spec_ClearOk.f k a0_0 a0_1 a0_2 a0_3 a0_4 a1 l2=some r):
  Calls Try.prog 86 #[.agg #[.int .i64 a0_0,.int .i64 a0_1,.int .i64 a0_2,.int .i64 a0_3,.bool a0_4],.int .i64 a1,.slice A2 l2.length c2] w fun e w'=>e=.returned (.bool r)∧Below w.heap.size w w':=by
 have hu32:=Try.underlying32
 have HR2:=Aside0.mk hr2
 have HC2:=Aside0.mk hc2
 clear hr2 hc2
 have HB:=Aside0.mk (Below.refl w.heap.size w)
 have H:=h
 clear h
 unfold spec_ClearOk.f at H
 have HC4:=Aside0.mk H
 clear H
 go_enter Try.func86,Try.ntmps86
 go_upto_block 0 with (first|((with_reducible refine gate_dst (N:=3) rfl ?_);refine boxE 3 (#[.int .i64 a0_0,.int .i64 a0_1,.int .i64 a0_2,.int .i64 a0_3,.bool a0_4]) 32 ?_;intro gb134 hg w5 hbox hb;have BK134:=Aside0.mk hbox;have GW134:=(gwH (w:=w) hg);have GE134:=(gwH (w:=w) hg);replace HB:=Aside0.mk (below_step bH hb);clear hb hbox hg;obtain ⟨z6_0,z6_1,z6_2,z6_3,z6_4,y6_0,y6_1,y6_2,y6_3,y6_4⟩:=blk5f BK134))
 (try simp only [Act.put,sA,sZ,sC])
 go_cut [7,8] (fun v7 v8 wc=>∃ (kq:Nat) (x7_3:Int) (x8_3:Int),v7=.int .i64 x7_3∧v8=.int .i64 x8_3∧Aside0 (spec_ClearOk.j0 kq l2 x7_3 x8_3=some r)∧Aside0 (kq≤k)∧Aside0 (wc.heap[gb134]?=some (.cells #[.int .i64 a0_0,.int .i64 a0_1,.int .i64 a0_2,.int .i64 a0_3,.bool a0_4] 32 (0,0)))∧Aside0 (Below w.heap.size w wc))
 case first =>
  have H:=HC4.out
  clear HC4
  by_cases c7:a0_3=0
  ·rw [if_pos c7] at H
   have c7b0:(a0_3 == 0)=true:=beq_iff_eq.mpr c7
   have c7b1:(a0_3 != 0)=false:=bne_eq_false_iff_eq.mpr c7
   clear c7
   (first|rw [c7b0]|(simp only [i64_w,i32_w];rw [c7b0])|skip)
   obtain ⟨t135,A8,H⟩:=bS H
   try dsimp only at H
   obtain ⟨t136,A9,H⟩:=bS H
   try dsimp only at H
   have H':=Aside0.mk H
   clear H
   obtain ⟨z10_0,z10_1,z10_2,z10_3,z10_4,y10_0,y10_1,y10_2,y10_3,y10_4⟩:=blk5f BK134
   go_wp2_with (first|((with_reducible refine gate_callee (f:=117) rfl ?_);refine gL (some 15) Try.func117 #[.agg #[.int .i64 a0_0,.int .i64 a0_1,.int .i64 a0_2,.int .i64 a0_3,.bool a0_4]] ?_;(with_reducible refine (spec_l17Depth.calls a0_0 a0_1 a0_2 a0_3 a0_4 t135 _ A8.out).mono ?_);rintro e w11 ⟨rfl,hb⟩;refine ⟨_,rfl,?_⟩;replace BK134:=Aside0.mk (bkb BK134 hb);replace HB:=Aside0.mk (below_step bG hb);(try clear hb))|((with_reducible refine gate_callee (f:=82) rfl ?_);refine gL (some 16) Try.func82 #[.int .i64 t135] ?_;(with_reducible refine (spec_l01Pow.calls k t135 t136 _ A9.out).mono ?_);rintro e w' ⟨rfl,⟨nd,rfl⟩⟩;refine ⟨_,rfl,?_⟩))
   go_meet
   case rel=>exact ⟨_,(wrap64 (t136 - 1)),(1),fS,fS,H',⟨by first|omega|exact Nat.le_refl _⟩,⟨by (with_reducible repeat (first|refine blk_drewN ?_ _|refine blk_drew ?_|refine blk_alloc ?_ _));exact BK134.out⟩,⟨bG⟩⟩
  ·rw [if_neg c7] at H
   have c7b0:(a0_3 == 0)=false:=beq_eq_false_iff_ne.mpr c7
   have c7b1:(a0_3 != 0)=true:=bne_iff_ne.mpr c7
   (first|rw [c7b0]|(simp only [i64_w,i32_w];rw [c7b0])|skip)
   by_cases c12:a0_3=2
   ·rw [if_pos c12] at H
    have c12b0:(a0_3 == 2)=true:=beq_iff_eq.mpr c12
    have c12b1:(a0_3 != 2)=false:=bne_eq_false_iff_eq.mpr c12
    clear c12
    obtain ⟨t137,A13,H⟩:=bS H
    try dsimp only at H
    obtain ⟨t138,A14,H⟩:=bS H
    try dsimp only at H
    have H':=Aside0.mk H
    clear H
    obtain ⟨z15_0,z15_1,z15_2,z15_3,z15_4,y15_0,y15_1,y15_2,y15_3,y15_4⟩:=blk5f BK134
    go_wp2_with (first|((with_reducible refine gate_callee (f:=117) rfl ?_);refine gL (some 21) Try.func117 #[.agg #[.int .i64 a0_0,.int .i64 a0_1,.int .i64 a0_2,.int .i64 a0_3,.bool a0_4]] ?_;(with_reducible refine (spec_l17Depth.calls a0_0 a0_1 a0_2 a0_3 a0_4 t137 _ A13.out).mono ?_);rintro e w16 ⟨rfl,hb⟩;refine ⟨_,rfl,?_⟩;replace BK134:=Aside0.mk (bkb BK134 hb);replace HB:=Aside0.mk (below_step bG hb);(try clear hb))|((with_reducible refine gate_callee (f:=82) rfl ?_);refine gL (some 22) Try.func82 #[.int .i64 t137] ?_;(with_reducible refine (spec_l01Pow.calls k t137 t138 _ A14.out).mono ?_);rintro e w' ⟨rfl,⟨nd,rfl⟩⟩;refine ⟨_,rfl,?_⟩))
    go_meet
    case rel=>exact ⟨_,(wrap64 (t138 - 1)),(3),fS,fS,H',⟨by first|omega|exact Nat.le_refl _⟩,⟨by (with_reducible repeat (first|refine blk_drewN ?_ _|refine blk_drew ?_|refine blk_alloc ?_ _));exact BK134.out⟩,⟨bG⟩⟩
   ·rw [if_neg c12] at H
    have c12b0:(a0_3 == 2)=false:=beq_eq_false_iff_ne.mpr c12
    have c12b1:(a0_3 != 2)=true:=bne_iff_ne.mpr c12
    by_cases c17:a0_3=3
    ·rw [if_pos c17] at H
     have c17b0:(a0_3 == 3)=true:=beq_iff_eq.mpr c17
     have c17b1:(a0_3 != 3)=false:=bne_eq_false_iff_eq.mpr c17
     clear c17
     by_cases c18:(l2.length:Int) > a1
     ·rw [if_pos c18] at H
      have c18b0:decide (a1 < (l2.length:Int))=true:=decide_eq_true c18
      clear c18
      obtain rfl:=sI H
      go_wp2
      go_ret
      exact ⟨fE,bG⟩
     ·rw [if_neg c18] at H
      have c18b0:decide (a1 < (l2.length:Int))=false:=decide_eq_false c18
      clear c18
      have H':=Aside0.mk H
      clear H
      go_wp2
      go_meet
      case rel=>exact ⟨_,(255),((l2.length:Int)),fS,fS,H',⟨by first|omega|exact Nat.le_refl _⟩,⟨by (with_reducible repeat (first|refine blk_drewN ?_ _|refine blk_drew ?_|refine blk_alloc ?_ _));exact BK134.out⟩,⟨bG⟩⟩
    ·rw [if_neg c17] at H
     have c17b0:(a0_3 == 3)=false:=beq_eq_false_iff_ne.mpr c17
     have c17b1:(a0_3 != 3)=true:=bne_iff_ne.mpr c17
     have H':=Aside0.mk H
     clear H
     go_wp2
     go_meet
     case rel=>exact ⟨_,(0),(0),fS,fS,H',⟨by first|omega|exact Nat.le_refl _⟩,⟨by (with_reducible repeat (first|refine blk_drewN ?_ _|refine blk_drew ?_|refine blk_alloc ?_ _));exact BK134.out⟩,⟨bG⟩⟩
 case rest =>
  clear HC4
  clear z6_0 z6_1 z6_2 z6_3 z6_4 y6_0 y6_1 y6_2 y6_3 y6_4
  obtain ⟨kq,x7_3,x8_3,rfl,rfl,HA,HJ3,BK134,HB⟩:=hcut
  cases kq with
  | zero=>exact absurd HA.out (by simp [spec_ClearOk.j0])
  | succ kj3 =>
   have H:=HA.out
   clear HA
   simp only [spec_ClearOk.j0] at H
   by_cases c19:(l2.length:Int)=0
   ·rw [if_pos c19] at H
    have c19b0:((l2.length:Int) == 0)=true:=beq_iff_eq.mpr c19
    have c19b1:((l2.length:Int) != 0)=false:=bne_eq_false_iff_eq.mpr c19
    clear c19
    obtain rfl:=sI H
    go_wp2
    go_ret
    exact ⟨fE,bG⟩
   ·rw [if_neg c19] at H
    have c19b0:((l2.length:Int) == 0)=false:=beq_eq_false_iff_ne.mpr c19
    have c19b1:((l2.length:Int) != 0)=true:=bne_iff_ne.mpr c19
    have c19b2:¬ (l2=[]):=fun h_=>c19 (by rw [h_];rfl)
    have H':=Aside0.mk H
    clear H
    go_wp2
    go_loopg [9] kj3 (fun kq v9 w'=>∃ (x9_2:Int),v9=.int .i64 x9_2∧Aside0 (spec_ClearOk.l0 kq l2 x7_3 x8_3 x9_2=some r)∧Aside0 (kq≤kj3)∧Aside0 (w'.heap[gb134]?=some (.cells #[.int .i64 a0_0,.int .i64 a0_1,.int .i64 a0_2,.int .i64 a0_3,.bool a0_4] 32 (0,0)))∧Aside0 (Below w.heap.size w w'))
    case atStart=>exact ⟨(0),fS,H',⟨Nat.le_refl _⟩,⟨by (with_reducible repeat (first|refine blk_drewN ?_ _|refine blk_drew ?_|refine blk_alloc ?_ _));exact BK134.out⟩,⟨bG⟩⟩
    case round =>
     clear H'
     clear c19 c19b0 c19b1 c19b2
     obtain ⟨x9_2,rfl,HA,HK2,BK134,HB⟩:=hrel
     cases gk with
     | zero=>exact absurd HA.out (by simp [spec_ClearOk.l0])
     | succ k2 =>
      have H:=HA.out
      clear HA
      simp only [spec_ClearOk.l0] at H
      by_cases c20:x9_2 < (l2.length:Int)
      ·rw [if_pos c20] at H
       have c20b0:decide (x9_2 < (l2.length:Int))=true:=decide_eq_true c20
       clear c20
       by_cases c21:0≤x9_2
       ·rw [if_pos c21] at H
        have c21b0:decide (0≤x9_2)=true:=decide_eq_true c21
        clear c21
        obtain ⟨t140,A22,H⟩:=bS H
        try dsimp only at H
        by_cases c23:t140=true
        ·subst c23
         rw [if_pos rfl] at H
         have H':=Aside0.mk H
         clear H
         have p139:0≤(x9_2:Int):=oD
         have q139:x9_2 < (l2.length:Int):=oD
         obtain ⟨ad139,e139,hx139_0⟩:=Kd.at_int HR2.out x9_2 p139 q139
         cases e139
         replace hx139_0:=(HB.out.cell (World.block_lt_of_cell? w _ hx139_0)).trans hx139_0
         replace p139:=eq_true p139
         replace q139:=eq_true q139
         go_wp2_with (first|((with_reducible refine gate_callee (f:=116) rfl ?_);refine gL (some 45) Try.func116 #[.int .i64 (rd l2 x9_2),.int .i64 0,.int .i64 x7_3] ?_;(with_reducible refine (spec_l01In.calls (rd l2 x9_2) 0 x7_3 true _ A22.out).mono ?_);rintro e w' ⟨rfl,⟨nd,rfl⟩⟩;refine ⟨_,rfl,?_⟩))
         go_roundg k2
         case measure=>have:=HJ3.out;have:=HK2.out;omega
         case rel=>exact ⟨(wrap64 (x9_2+1)),fS,H',⟨by have:=HJ3.out;have:=HK2.out;omega⟩,⟨by (with_reducible repeat (first|refine blk_drewN ?_ _|refine blk_drew ?_|refine blk_alloc ?_ _));exact BK134.out⟩,⟨bG⟩⟩
        ·obtain rfl:=bF c23
         rw [if_neg nF] at H
         obtain rfl:=sI H
         have p139:0≤(x9_2:Int):=oD
         have q139:x9_2 < (l2.length:Int):=oD
         obtain ⟨ad139,e139,hx139_0⟩:=Kd.at_int HR2.out x9_2 p139 q139
         cases e139
         replace hx139_0:=(HB.out.cell (World.block_lt_of_cell? w _ hx139_0)).trans hx139_0
         replace p139:=eq_true p139
         replace q139:=eq_true q139
         go_wp2_with (first|((with_reducible refine gate_callee (f:=116) rfl ?_);refine gL (some 45) Try.func116 #[.int .i64 (rd l2 x9_2),.int .i64 0,.int .i64 x7_3] ?_;(with_reducible refine (spec_l01In.calls (rd l2 x9_2) 0 x7_3 false _ A22.out).mono ?_);rintro e w' ⟨rfl,⟨nd,rfl⟩⟩;refine ⟨_,rfl,?_⟩))
         go_ret
         exact ⟨fE,bG⟩
       ·rw [if_neg c21] at H
        exact absurd H (by simp)
      ·rw [if_neg c20] at H
       have c20b0:decide (x9_2 < (l2.length:Int))=false:=decide_eq_false c20
       clear c20
       obtain rfl:=sI H
       go_wp2
       go_ret
       exact ⟨fE,bG⟩
def spec_Needless.f (a0:ByteArray):Option (Bool):=(spec_NameOk.f a0).bind fun t141=>(if t141=true then (if 0 < (a0.size:Int) then (some (decide ((bt a0 0)≥97))) else (none)) else (some false))
theorem spec_Needless.calls (a0:ByteArray) (r:Bool) (w:World) (h:spec_Needless.f a0=some r):
  Calls Try.prog 118 #[.string a0] w fun e w'=>e=.returned (.bool r)∧Drawn0 w w':=by
 have H:=h
 clear h
 unfold spec_Needless.f at H
 obtain ⟨t141,A2,H⟩:=bS H
 try dsimp only at H
 by_cases c3:t141=true
 ·subst c3
  rw [if_pos rfl] at H
  by_cases c4:0 < (a0.size:Int)
  ·rw [if_pos c4] at H
   have c4b0:decide (0 < (a0.size:Int))=true:=decide_eq_true c4
   have c4b1:decide (0 < a0.size)=true:=decide_eq_true (by omega)
   clear c4
   obtain rfl:=sI H
   go_enter Try.func118,Try.ntmps118
   go_wp2_with (first|((with_reducible refine gate_callee (f:=113) rfl ?_);refine gL (some 4) Try.func113 #[.string a0] ?_;(with_reducible refine (spec_NameOk.calls a0 true _ A2.out).mono ?_);rintro e w' ⟨rfl,⟨nd,rfl⟩⟩;refine ⟨_,rfl,?_⟩;have p5:0≤(0:Int):=(by omega);have q5:0 < a0.size:=(by have:(0:Int) < (a0.size:Int):=oD;omega);have hx5:∀ h:0 < a0.size,((a0[0]'h).toNat:Int)=bt a0 0:=bt_at a0 0;clear p5;have qi5:(0 < (a0.size:Int))=True:=eq_true (oD);replace q5:=eq_true q5))
   go_ret
   exact ⟨fS,by repeat (first|exact Drawn0.refl _|apply Drawn0.step)⟩
  ·rw [if_neg c4] at H
   exact absurd H (by simp)
 ·obtain rfl:=bF c3
  rw [if_neg nF] at H
  obtain rfl:=sI H
  go_enter Try.func118,Try.ntmps118
  go_wp2_with (first|((with_reducible refine gate_callee (f:=113) rfl ?_);refine gL (some 4) Try.func113 #[.string a0] ?_;(with_reducible refine (spec_NameOk.calls a0 false _ A2.out).mono ?_);rintro e w' ⟨rfl,⟨nd,rfl⟩⟩;refine ⟨_,rfl,?_⟩))
  go_ret
  exact ⟨fS,by repeat (first|exact Drawn0.refl _|apply Drawn0.step)⟩
def spec_l18Kept.l0:Nat→List (S83)→Int→Option (Bool)
 | 0,_,_=>none
 | k+1,x0,x3=>if x3 < (x0.length:Int) then (if 0≤x3 then ((spec_Needless.f ((rd_T83 x0 x3).f0)).bind fun t143=>(if t143=true then (if ((rd_T83 x0 x3).f0).toList=([116,82,78,83]:List UInt8) then (some false) else (if (((rd_T83 x0 x3).f1).size:Int) > 2600 then (some false) else (spec_l18Kept.l0 k x0 (wrap64 (x3+1))))) else (some false))) else (none)) else (some true)
def spec_l18Kept.f (k:Nat) (l0:List (S83)):Option (Bool):=if (l0.length:Int) > 32 then (some false) else (spec_l18Kept.l0 k l0 0)
theorem spec_l18Kept.mono_l:∀ k,(∀ y0 y1,LeO (spec_l18Kept.l0 k y0 y1) (spec_l18Kept.l0 (k+1) y0 y1))
 | 0=>fun _ _ r h=>by simp [spec_l18Kept.l0] at h
 | k+1=>by
  have ih0:=spec_l18Kept.mono_l k
  ·intro y0 y1
   unfold spec_l18Kept.l0
   repeat' first
   | (with_reducible exact ih0 _ _)
   | (with_reducible exact LeO.refl _)
   | (with_reducible exact LeO.none _)
   | (with_reducible refine LeO.ite ?_ ?_)
   | (with_reducible refine LeO.bind ?_ (fun _=>?_))
   | exact ih0 _ _
   | exact LeO.none _
   | refine LeO.ite ?_ ?_
   | refine LeO.bind ?_ (fun _=>?_)
theorem spec_l18Kept.mono:∀ a0 k,LeO (spec_l18Kept.f k a0) (spec_l18Kept.f (k+1) a0):=by
 intro a0 k
 have ih0:=spec_l18Kept.mono_l k
 unfold spec_l18Kept.f
 repeat' first
   | (with_reducible exact ih0 _ _)
   | (with_reducible exact LeO.refl _)
   | (with_reducible exact LeO.none _)
   | (with_reducible refine LeO.ite ?_ ?_)
   | (with_reducible refine LeO.bind ?_ (fun _=>?_))
   | exact ih0 _ _
   | exact LeO.none _
   | refine LeO.ite ?_ ?_
   | refine LeO.bind ?_ (fun _=>?_)
theorem spec_l18Kept.calls (k:Nat) (A0:Option Addr) (c0:Nat) (l0:List (S83)) (r:Bool) (w:World) (hr0:Kd.C k83 w A0 l0.length l0) (hc0:l0.length≤c0) (h:spec_l18Kept.f k l0=some r):
  Calls Try.prog 87 #[.slice A0 l0.length c0] w fun e w'=>e=.returned (.bool r)∧Drawn0 w w':=by
 have HR0:=Aside0.mk hr0
 have HC0:=Aside0.mk hc0
 clear hr0 hc0
 have H:=h
 clear h
 unfold spec_l18Kept.f at H
 by_cases c2:(l0.length:Int) > 32
 ·rw [if_pos c2] at H
  have c2b0:decide (32 < (l0.length:Int))=true:=decide_eq_true c2
  have c2b1:decide (32 < l0.length)=true:=decide_eq_true (by omega)
  clear c2
  obtain rfl:=sI H
  go_enter Try.func87,Try.ntmps87
  go_wp2
  go_ret
  exact ⟨fS,by repeat (first|exact Drawn0.refl _|apply Drawn0.step)⟩
 ·rw [if_neg c2] at H
  have c2b0:decide (32 < (l0.length:Int))=false:=decide_eq_false c2
  have c2b1:decide (32 < l0.length)=false:=decide_eq_false (by omega)
  clear c2
  have H':=Aside0.mk H
  clear H
  go_enter Try.func87,Try.ntmps87
  go_wp2
  go_loopg [3] k (fun kq v3 w'=>∃ (x3_1:Int),v3=.int .i64 x3_1∧Aside0 (spec_l18Kept.l0 kq l0 x3_1=some r)∧Aside0 (kq≤k)∧Drawn0 w w')
  case atStart=>exact ⟨(0),fS,H',⟨Nat.le_refl _⟩,by repeat (first|exact Drawn0.refl _|apply Drawn0.step)⟩
  case round =>
   clear H'
   clear c2b0 c2b1
   obtain ⟨x3_1,rfl,HA,HK1,⟨m1,rfl⟩⟩:=hrel
   cases gk with
   | zero=>exact absurd HA.out (by simp [spec_l18Kept.l0])
   | succ k1 =>
    have H:=HA.out
    clear HA
    simp only [spec_l18Kept.l0] at H
    by_cases c3:x3_1 < (l0.length:Int)
    ·rw [if_pos c3] at H
     have c3b0:decide (x3_1 < (l0.length:Int))=true:=decide_eq_true c3
     clear c3
     by_cases c4:0≤x3_1
     ·rw [if_pos c4] at H
      have c4b0:decide (0≤x3_1)=true:=decide_eq_true c4
      clear c4
      obtain ⟨t143,A5,H⟩:=bS H
      try dsimp only at H
      by_cases c6:t143=true
      ·subst c6
       rw [if_pos rfl] at H
       by_cases c7:((rd_T83 l0 x3_1).f0).toList=([116,82,78,83]:List UInt8)
       ·rw [if_pos c7] at H
        have c7b0:(((rd_T83 l0 x3_1).f0).toList == ([116,82,78,83]:List UInt8))=true:=beq_iff_eq.mpr c7
        have c7b1:(((rd_T83 l0 x3_1).f0).toList != ([116,82,78,83]:List UInt8))=false:=bne_eq_false_iff_eq.mpr c7
        clear c7
        obtain rfl:=sI H
        have p142:0≤(x3_1:Int):=oD
        have q142:x3_1 < (l0.length:Int):=oD
        obtain ⟨ad142,e142,hx142_0,hx142_1⟩:=at_T83 HR0.out x3_1 p142 q142
        cases e142
        replace p142:=eq_true p142
        replace q142:=eq_true q142
        go_wp2_with (first|((with_reducible refine gate_callee (f:=118) rfl ?_);refine gL (some 18) Try.func118 #[.string ((rd_T83 l0 x3_1).f0)] ?_;(with_reducible refine (spec_Needless.calls ((rd_T83 l0 x3_1).f0) true _ A5.out).mono ?_);rintro e w' ⟨rfl,⟨nd,rfl⟩⟩;refine ⟨_,rfl,?_⟩;have p144:0≤(x3_1:Int):=oD;have q144:x3_1 < (l0.length:Int):=oD;obtain ⟨ad144,e144,hx144_0,hx144_1⟩:=at_T83 HR0.out x3_1 p144 q144;obtain rfl:ad142=ad144:=(by injection e144);replace p144:=eq_true p144;replace q144:=eq_true q144))
        go_ret
        exact ⟨fS,by repeat (first|exact Drawn0.refl _|apply Drawn0.step)⟩
       ·rw [if_neg c7] at H
        have c7b0:(((rd_T83 l0 x3_1).f0).toList == ([116,82,78,83]:List UInt8))=false:=beq_eq_false_iff_ne.mpr c7
        have c7b1:(((rd_T83 l0 x3_1).f0).toList != ([116,82,78,83]:List UInt8))=true:=bne_iff_ne.mpr c7
        by_cases c8:(((rd_T83 l0 x3_1).f1).size:Int) > 2600
        ·rw [if_pos c8] at H
         have c8b0:decide (2600 < (((rd_T83 l0 x3_1).f1).size:Int))=true:=decide_eq_true c8
         have c8b1:decide (2600 < ((rd_T83 l0 x3_1).f1).size)=true:=decide_eq_true (by omega)
         clear c8
         obtain rfl:=sI H
         have p142:0≤(x3_1:Int):=oD
         have q142:x3_1 < (l0.length:Int):=oD
         obtain ⟨ad142,e142,hx142_0,hx142_1⟩:=at_T83 HR0.out x3_1 p142 q142
         cases e142
         replace p142:=eq_true p142
         replace q142:=eq_true q142
         go_wp2_with (first|((with_reducible refine gate_callee (f:=118) rfl ?_);refine gL (some 18) Try.func118 #[.string ((rd_T83 l0 x3_1).f0)] ?_;(with_reducible refine (spec_Needless.calls ((rd_T83 l0 x3_1).f0) true _ A5.out).mono ?_);rintro e w' ⟨rfl,⟨nd,rfl⟩⟩;refine ⟨_,rfl,?_⟩;have p144:0≤(x3_1:Int):=oD;have q144:x3_1 < (l0.length:Int):=oD;obtain ⟨ad144,e144,hx144_0,hx144_1⟩:=at_T83 HR0.out x3_1 p144 q144;obtain rfl:ad142=ad144:=(by injection e144);replace p144:=eq_true p144;replace q144:=eq_true q144;have p145:0≤(x3_1:Int):=oD;have q145:x3_1 < (l0.length:Int):=oD;obtain ⟨ad145,e145,hx145_0,hx145_1⟩:=at_T83 HR0.out x3_1 p145 q145;obtain rfl:ad142=ad145:=(by injection e145);replace p145:=eq_true p145;replace q145:=eq_true q145))
         go_ret
         exact ⟨fS,by repeat (first|exact Drawn0.refl _|apply Drawn0.step)⟩
        ·rw [if_neg c8] at H
         have c8b0:decide (2600 < (((rd_T83 l0 x3_1).f1).size:Int))=false:=decide_eq_false c8
         have c8b1:decide (2600 < ((rd_T83 l0 x3_1).f1).size)=false:=decide_eq_false (by omega)
         clear c8
         have H':=Aside0.mk H
         clear H
         have p142:0≤(x3_1:Int):=oD
         have q142:x3_1 < (l0.length:Int):=oD
         obtain ⟨ad142,e142,hx142_0,hx142_1⟩:=at_T83 HR0.out x3_1 p142 q142
         cases e142
         replace p142:=eq_true p142
         replace q142:=eq_true q142
         go_wp2_with (first|((with_reducible refine gate_callee (f:=118) rfl ?_);refine gL (some 18) Try.func118 #[.string ((rd_T83 l0 x3_1).f0)] ?_;(with_reducible refine (spec_Needless.calls ((rd_T83 l0 x3_1).f0) true _ A5.out).mono ?_);rintro e w' ⟨rfl,⟨nd,rfl⟩⟩;refine ⟨_,rfl,?_⟩;have p144:0≤(x3_1:Int):=oD;have q144:x3_1 < (l0.length:Int):=oD;obtain ⟨ad144,e144,hx144_0,hx144_1⟩:=at_T83 HR0.out x3_1 p144 q144;obtain rfl:ad142=ad144:=(by injection e144);replace p144:=eq_true p144;replace q144:=eq_true q144;have p145:0≤(x3_1:Int):=oD;have q145:x3_1 < (l0.length:Int):=oD;obtain ⟨ad145,e145,hx145_0,hx145_1⟩:=at_T83 HR0.out x3_1 p145 q145;obtain rfl:ad142=ad145:=(by injection e145);replace p145:=eq_true p145;replace q145:=eq_true q145))
         go_roundg k1
         case measure=>have:=HK1.out;omega
         case rel=>exact ⟨(wrap64 (x3_1+1)),fS,H',⟨by have:=HK1.out;omega⟩,by repeat (first|exact Drawn0.refl _|apply Drawn0.step)⟩
      ·obtain rfl:=bF c6
       rw [if_neg nF] at H
       obtain rfl:=sI H
       have p142:0≤(x3_1:Int):=oD
       have q142:x3_1 < (l0.length:Int):=oD
       obtain ⟨ad142,e142,hx142_0,hx142_1⟩:=at_T83 HR0.out x3_1 p142 q142
       cases e142
       replace p142:=eq_true p142
       replace q142:=eq_true q142
       go_wp2_with (first|((with_reducible refine gate_callee (f:=118) rfl ?_);refine gL (some 18) Try.func118 #[.string ((rd_T83 l0 x3_1).f0)] ?_;(with_reducible refine (spec_Needless.calls ((rd_T83 l0 x3_1).f0) false _ A5.out).mono ?_);rintro e w' ⟨rfl,⟨nd,rfl⟩⟩;refine ⟨_,rfl,?_⟩))
       go_ret
       exact ⟨fS,by repeat (first|exact Drawn0.refl _|apply Drawn0.step)⟩
     ·rw [if_neg c4] at H
      exact absurd H (by simp)
    ·rw [if_neg c3] at H
     have c3b0:decide (x3_1 < (l0.length:Int))=false:=decide_eq_false c3
     clear c3
     obtain rfl:=sI H
     go_wp2
     go_ret
     exact ⟨fS,by repeat (first|exact Drawn0.refl _|apply Drawn0.step)⟩
def spec_l17Byte.f (a0:Int):Option (Bool):=(spec_l01In.f a0 0 255).bind fun t146=>(some t146)
theorem spec_l17Byte.calls (a0:Int) (r:Bool) (w:World) (h:spec_l17Byte.f a0=some r):
  Calls Try.prog 119 #[.int .i64 a0] w fun e w'=>e=.returned (.bool r)∧Drawn0 w w':=by
 have H:=h
 clear h
 unfold spec_l17Byte.f at H
 obtain ⟨t146,A2,H⟩:=bS H
 try dsimp only at H
 obtain rfl:=sI H
 go_enter Try.func119,Try.ntmps119
 go_wp2_with (first|((with_reducible refine gate_callee (f:=116) rfl ?_);refine gL (some 4) Try.func116 #[.int .i64 a0,.int .i64 0,.int .i64 255] ?_;(with_reducible refine (spec_l01In.calls a0 0 255 t146 _ A2.out).mono ?_);rintro e w' ⟨rfl,⟨nd,rfl⟩⟩;refine ⟨_,rfl,?_⟩))
 go_ret
 exact ⟨fS,by repeat (first|exact Drawn0.refl _|apply Drawn0.step)⟩
end Go.Proofs.Ytjpfhldklbgdcaa.Ld
