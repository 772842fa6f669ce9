import Derived.Test.YtjpfhldklbgdcaaLdx0
import Derived.Test.YtjpfhldklbgdcaaLdx1
set_option maxHeartbeats 8000000
set_option maxRecDepth 100000
namespace Go.Proofs.Ytjpfhldklbgdcaa.Ld
open Go.RowKit Go.Proofs.Ytjpfhldklbgdcaa.Sq Go.Proofs.YtjpfhldklbgdcaaW.PrintWords Go.Proofs.YtjpfhldklbgdcaaW.PrintLast Go.Proofs.YtjpfhldklbgdcaaW.PrintMore
attribute [local go_sem] max2_int min2_int max_two min_two max_three min_three max_four min_four   -- for this text's walks alone
set_option linter.unusedVariables false
set_option linter.unusedSimpArgs false
def spec_Touchy.l0:Nat→Int→Int→Int→Int→Int→Bool→List (S95)→List Int→Int→Int→Int→Int→List Int→List (S83)→Option (Bool)
 | 0,_,_,_,_,_,_,_,_,_,_,_,_,_,_=>none
 | k+1,x3,x117000,x117001,x117002,x117003,x117004,x117005,x117006,x117007,x117008,x117009,x117010,x117011,x117012=>if x3 < (x117012.length:Int) then (if 0≤x3 then (if ((rd_T83 x117012 x3).f0).toList=([115,66,73,84]:List UInt8) then (some true) else (if ((rd_T83 x117012 x3).f0).toList=([98,75,71,68]:List UInt8) then (some true) else (if ((rd_T83 x117012 x3).f0).toList=([104,73,83,84]:List UInt8) then (some true) else ((spec_SafeToCopy.f ((rd_T83 x117012 x3).f0)).bind fun t118=>(if t118=true then (spec_Touchy.l0 k (wrap64 (x3+1)) x117000 x117001 x117002 x117003 x117004 x117005 x117006 x117007 x117008 x117009 x117010 x117011 x117012) else (some true)))))) else (none)) else (some false)
def spec_Touchy.f (k:Nat) (a0_0:Int) (a0_1:Int) (a0_2:Int) (a0_3:Int) (a0_4:Bool) (l0_5:List (S95)) (l0_6:List Int) (a0_7:Int) (a0_8:Int) (a0_9:Int) (a0_10:Int) (l0_11:List Int) (l0_12:List (S83)):Option (Bool):=spec_Touchy.l0 k 0 a0_0 a0_1 a0_2 a0_3 a0_4 l0_5 l0_6 a0_7 a0_8 a0_9 a0_10 l0_11 l0_12
theorem spec_Touchy.mono_l:∀ k,(∀ y0 y1 y2 y3 y4 y5 y6 y7 y8 y9 y10 y11 y12 y13,LeO (spec_Touchy.l0 k y0 y1 y2 y3 y4 y5 y6 y7 y8 y9 y10 y11 y12 y13) (spec_Touchy.l0 (k+1) y0 y1 y2 y3 y4 y5 y6 y7 y8 y9 y10 y11 y12 y13))
 | 0=>fun _ _ _ _ _ _ _ _ _ _ _ _ _ _ r h=>by simp [spec_Touchy.l0] at h
 | k+1=>by
  have ih0:=spec_Touchy.mono_l k
  ·intro y0 y1 y2 y3 y4 y5 y6 y7 y8 y9 y10 y11 y12 y13
   unfold spec_Touchy.l0
   repeat' first
   | (with_reducible exact ih0 _ _ _ _ _ _ _ _ _ _ _ _ _ _)
   | (with_reducible exact LeO.refl _)
   | (with_reducible exact LeO.none _)
   | (with_reducible refine LeO.ite ?_ ?_)
   | (with_reducible refine LeO.bind ?_ (fun _=>?_))
   | exact ih0 _ _ _ _ _ _ _ _ _ _ _ _ _ _
   | exact LeO.none _
   | refine LeO.ite ?_ ?_
   | refine LeO.bind ?_ (fun _=>?_)
theorem spec_Touchy.mono:∀ a0 a1 a2 a3 a4 a5 a6 a7 a8 a9 a10 a11 a12 k,LeO (spec_Touchy.f k a0 a1 a2 a3 a4 a5 a6 a7 a8 a9 a10 a11 a12) (spec_Touchy.f (k+1) a0 a1 a2 a3 a4 a5 a6 a7 a8 a9 a10 a11 a12):=by
 intro a0 a1 a2 a3 a4 a5 a6 a7 a8 a9 a10 a11 a12 k
 have ih0:=spec_Touchy.mono_l k
 unfold spec_Touchy.f
 repeat' first
   | (with_reducible exact ih0 _ _ _ _ _ _ _ _ _ _ _ _ _ _)
   | (with_reducible exact LeO.refl _)
   | (with_reducible exact LeO.none _)
   | (with_reducible refine LeO.ite ?_ ?_)
   | (with_reducible refine LeO.bind ?_ (fun _=>?_))
   | exact ih0 _ _ _ _ _ _ _ _ _ _ _ _ _ _
   | exact LeO.none _
   | refine LeO.ite ?_ ?_
   | refine LeO.bind ?_ (fun _=>?_)
theorem spec_Touchy.calls (k:Nat) (a0_0:Int) (a0_1:Int) (a0_2:Int) (a0_3:Int) (a0_4:Bool) (A0_5:Option Addr) (c0_5:Nat) (l0_5:List (S95)) (A0_6:Option Addr) (c0_6:Nat) (l0_6:List Int) (a0_7:Int) (a0_8:Int) (a0_9:Int) (a0_10:Int) (A0_11:Option Addr) (c0_11:Nat) (l0_11:List Int) (A0_12:Option Addr) (c0_12:Nat) (l0_12:List (S83)) (r:Bool) (w:World) (hr0_5:Kd.C k95 w A0_5 l0_5.length l0_5) (hc0_5:l0_5.length≤c0_5) (hr0_6:Kd.C (Kd.int .i64) w A0_6 l0_6.length l0_6) (hc0_6:l0_6.length≤c0_6) (hr0_11:Kd.C (Kd.int .i64) w A0_11 l0_11.length l0_11) (hc0_11:l0_11.length≤c0_11) (hr0_12:Kd.C k83 w A0_12 l0_12.length l0_12) (hc0_12:l0_12.length≤c0_12) (h:spec_Touchy.f k a0_0 a0_1 a0_2 a0_3 a0_4 l0_5 l0_6 a0_7 a0_8 a0_9 a0_10 l0_11 l0_12=some r):
  Calls Try.prog 28 #[.agg #[.int .i64 a0_0,.int .i64 a0_1,.int .i64 a0_2,.int .i64 a0_3,.bool a0_4,.slice A0_5 l0_5.length c0_5,.slice A0_6 l0_6.length c0_6,.int .i64 a0_7,.int .i64 a0_8,.int .i64 a0_9,.int .i64 a0_10,.slice A0_11 l0_11.length c0_11,.slice A0_12 l0_12.length c0_12]] w fun e w'=>e=.returned (.bool r)∧Below w.heap.size w w':=by
 have hu37:=Try.underlying37
 have HR0_5:=Aside0.mk hr0_5
 have HC0_5:=Aside0.mk hc0_5
 clear hr0_5 hc0_5
 have HR0_6:=Aside0.mk hr0_6
 have HC0_6:=Aside0.mk hc0_6
 clear hr0_6 hc0_6
 have HR0_11:=Aside0.mk hr0_11
 have HC0_11:=Aside0.mk hc0_11
 clear hr0_11 hc0_11
 have HR0_12:=Aside0.mk hr0_12
 have HC0_12:=Aside0.mk hc0_12
 clear hr0_12 hc0_12
 have HB:=Aside0.mk (Below.refl w.heap.size w)
 have H:=h
 clear h
 unfold spec_Touchy.f at H
 have H':=Aside0.mk H
 clear H
 go_enter Try.func28,Try.ntmps28
 go_wp2_with (first|((with_reducible refine gate_dst (N:=1) rfl ?_);refine boxE 1 (#[.int .i64 a0_0,.int .i64 a0_1,.int .i64 a0_2,.int .i64 a0_3,.bool a0_4,.slice A0_5 l0_5.length c0_5,.slice A0_6 l0_6.length c0_6,.int .i64 a0_7,.int .i64 a0_8,.int .i64 a0_9,.int .i64 a0_10,.slice A0_11 l0_11.length c0_11,.slice A0_12 l0_12.length c0_12]) 37 ?_;intro gb116 hg w2 hbox hb;have BK116:=Aside0.mk hbox;have GW116:=(gwH (w:=w) hg);have GE116:=(gwH (w:=w) hg);replace HB:=Aside0.mk (below_step bH hb);clear hb hbox hg))
 go_loopg [3] k (fun kq v3 w'=>∃ (x3_1:Int),v3=.int .i64 x3_1∧Aside0 (spec_Touchy.l0 kq x3_1 a0_0 a0_1 a0_2 a0_3 a0_4 l0_5 l0_6 a0_7 a0_8 a0_9 a0_10 l0_11 l0_12=some r)∧Aside0 (kq≤k)∧Aside0 (w'.heap[gb116]?=some (.cells #[.int .i64 a0_0,.int .i64 a0_1,.int .i64 a0_2,.int .i64 a0_3,.bool a0_4,(.slice A0_5 l0_5.length c0_5),(.slice A0_6 l0_6.length c0_6),.int .i64 a0_7,.int .i64 a0_8,.int .i64 a0_9,.int .i64 a0_10,(.slice A0_11 l0_11.length c0_11),(.slice A0_12 l0_12.length c0_12)] 37 (0,0)))∧Aside0 (Below w.heap.size w w'))
 case atStart=>exact ⟨(0),fS,H',⟨Nat.le_refl _⟩,⟨by (with_reducible repeat (first|refine blk_drewN ?_ _|refine blk_drew ?_|refine blk_alloc ?_ _));exact BK116.out⟩,⟨bG⟩⟩
 case round =>
  clear H'
  try clear c2
  try clear p2
  obtain ⟨x3_1,rfl,HA,HK1,BK116,HB⟩:=hrel
  cases gk with
  | zero=>exact absurd HA.out (by simp [spec_Touchy.l0])
  | succ k1 =>
   have H:=HA.out
   clear HA
   simp only [spec_Touchy.l0] at H
   by_cases c3:x3_1 < (l0_12.length:Int)
   ·rw [if_pos c3] at H
    have c3b0:decide (x3_1 < (l0_12.length:Int))=true:=decide_eq_true c3
    clear c3
    by_cases c4:0≤x3_1
    ·rw [if_pos c4] at H
     have c4b0:decide (0≤x3_1)=true:=decide_eq_true c4
     clear c4
     by_cases c5:((rd_T83 l0_12 x3_1).f0).toList=([115,66,73,84]:List UInt8)
     ·rw [if_pos c5] at H
      have c5b0:(((rd_T83 l0_12 x3_1).f0).toList == ([115,66,73,84]:List UInt8))=true:=beq_iff_eq.mpr c5
      have c5b1:(((rd_T83 l0_12 x3_1).f0).toList != ([115,66,73,84]:List UInt8))=false:=bne_eq_false_iff_eq.mpr c5
      clear c5
      obtain rfl:=sI H
      obtain ⟨z6_0,z6_1,z6_2,z6_3,z6_4,z6_5,z6_6,z6_7,z6_8,z6_9,z6_10,z6_11,z6_12,y6_0,y6_1,y6_2,y6_3,y6_4,y6_5,y6_6,y6_7,y6_8,y6_9,y6_10,y6_11,y6_12⟩:=blk13f BK116
      have p117:0≤(x3_1:Int):=oD
      have q117:x3_1 < (l0_12.length:Int):=oD
      obtain ⟨ad117,e117,hx117_0,hx117_1⟩:=at_T83 HR0_12.out x3_1 p117 q117
      cases e117
      replace hx117_0:=(HB.out.cell (World.block_lt_of_cell? w _ hx117_0)).trans hx117_0
      replace hx117_1:=(HB.out.cell (World.block_lt_of_cell? w _ hx117_1)).trans hx117_1
      replace p117:=eq_true p117
      replace q117:=eq_true q117
      go_wp2
      go_ret
      exact ⟨fE,bG⟩
     ·rw [if_neg c5] at H
      have c5b0:(((rd_T83 l0_12 x3_1).f0).toList == ([115,66,73,84]:List UInt8))=false:=beq_eq_false_iff_ne.mpr c5
      have c5b1:(((rd_T83 l0_12 x3_1).f0).toList != ([115,66,73,84]:List UInt8))=true:=bne_iff_ne.mpr c5
      by_cases c7:((rd_T83 l0_12 x3_1).f0).toList=([98,75,71,68]:List UInt8)
      ·rw [if_pos c7] at H
       have c7b0:(((rd_T83 l0_12 x3_1).f0).toList == ([98,75,71,68]:List UInt8))=true:=beq_iff_eq.mpr c7
       have c7b1:(((rd_T83 l0_12 x3_1).f0).toList != ([98,75,71,68]:List UInt8))=false:=bne_eq_false_iff_eq.mpr c7
       clear c7
       obtain rfl:=sI H
       obtain ⟨z8_0,z8_1,z8_2,z8_3,z8_4,z8_5,z8_6,z8_7,z8_8,z8_9,z8_10,z8_11,z8_12,y8_0,y8_1,y8_2,y8_3,y8_4,y8_5,y8_6,y8_7,y8_8,y8_9,y8_10,y8_11,y8_12⟩:=blk13f BK116
       have p117:0≤(x3_1:Int):=oD
       have q117:x3_1 < (l0_12.length:Int):=oD
       obtain ⟨ad117,e117,hx117_0,hx117_1⟩:=at_T83 HR0_12.out x3_1 p117 q117
       cases e117
       replace hx117_0:=(HB.out.cell (World.block_lt_of_cell? w _ hx117_0)).trans hx117_0
       replace hx117_1:=(HB.out.cell (World.block_lt_of_cell? w _ hx117_1)).trans hx117_1
       replace p117:=eq_true p117
       replace q117:=eq_true q117
       go_wp2
       go_ret
       exact ⟨fE,bG⟩
      ·rw [if_neg c7] at H
       have c7b0:(((rd_T83 l0_12 x3_1).f0).toList == ([98,75,71,68]:List UInt8))=false:=beq_eq_false_iff_ne.mpr c7
       have c7b1:(((rd_T83 l0_12 x3_1).f0).toList != ([98,75,71,68]:List UInt8))=true:=bne_iff_ne.mpr c7
       by_cases c9:((rd_T83 l0_12 x3_1).f0).toList=([104,73,83,84]:List UInt8)
       ·rw [if_pos c9] at H
        have c9b0:(((rd_T83 l0_12 x3_1).f0).toList == ([104,73,83,84]:List UInt8))=true:=beq_iff_eq.mpr c9
        have c9b1:(((rd_T83 l0_12 x3_1).f0).toList != ([104,73,83,84]:List UInt8))=false:=bne_eq_false_iff_eq.mpr c9
        clear c9
        obtain rfl:=sI H
        obtain ⟨z10_0,z10_1,z10_2,z10_3,z10_4,z10_5,z10_6,z10_7,z10_8,z10_9,z10_10,z10_11,z10_12,y10_0,y10_1,y10_2,y10_3,y10_4,y10_5,y10_6,y10_7,y10_8,y10_9,y10_10,y10_11,y10_12⟩:=blk13f BK116
        have p117:0≤(x3_1:Int):=oD
        have q117:x3_1 < (l0_12.length:Int):=oD
        obtain ⟨ad117,e117,hx117_0,hx117_1⟩:=at_T83 HR0_12.out x3_1 p117 q117
        cases e117
        replace hx117_0:=(HB.out.cell (World.block_lt_of_cell? w _ hx117_0)).trans hx117_0
        replace hx117_1:=(HB.out.cell (World.block_lt_of_cell? w _ hx117_1)).trans hx117_1
        replace p117:=eq_true p117
        replace q117:=eq_true q117
        go_wp2
        go_ret
        exact ⟨fE,bG⟩
       ·rw [if_neg c9] at H
        have c9b0:(((rd_T83 l0_12 x3_1).f0).toList == ([104,73,83,84]:List UInt8))=false:=beq_eq_false_iff_ne.mpr c9
        have c9b1:(((rd_T83 l0_12 x3_1).f0).toList != ([104,73,83,84]:List UInt8))=true:=bne_iff_ne.mpr c9
        obtain ⟨t118,A11,H⟩:=bS H
        try dsimp only at H
        by_cases c12:t118=true
        ·subst c12
         rw [if_pos rfl] at H
         have H':=Aside0.mk H
         clear H
         obtain ⟨z13_0,z13_1,z13_2,z13_3,z13_4,z13_5,z13_6,z13_7,z13_8,z13_9,z13_10,z13_11,z13_12,y13_0,y13_1,y13_2,y13_3,y13_4,y13_5,y13_6,y13_7,y13_8,y13_9,y13_10,y13_11,y13_12⟩:=blk13f BK116
         have p117:0≤(x3_1:Int):=oD
         have q117:x3_1 < (l0_12.length:Int):=oD
         obtain ⟨ad117,e117,hx117_0,hx117_1⟩:=at_T83 HR0_12.out x3_1 p117 q117
         cases e117
         replace hx117_0:=(HB.out.cell (World.block_lt_of_cell? w _ hx117_0)).trans hx117_0
         replace hx117_1:=(HB.out.cell (World.block_lt_of_cell? w _ hx117_1)).trans hx117_1
         replace p117:=eq_true p117
         replace q117:=eq_true q117
         go_wp2_with (first|(go_at_call 81;(with_reducible refine (spec_SafeToCopy.calls ((rd_T83 l0_12 x3_1).f0) true _ A11.out).mono ?_);rintro e w' ⟨rfl,⟨nd,rfl⟩⟩))
         go_roundg k1
         case measure=>have:=HK1.out;omega
         case rel=>exact ⟨(wrap64 (x3_1+1)),fS,H',⟨by have:=HK1.out;omega⟩,⟨by (with_reducible repeat (first|refine blk_drewN ?_ _|refine blk_drew ?_|refine blk_alloc ?_ _));exact BK116.out⟩,⟨bG⟩⟩
        ·obtain rfl:=bF c12
         rw [if_neg nF] at H
         obtain rfl:=sI H
         obtain ⟨z14_0,z14_1,z14_2,z14_3,z14_4,z14_5,z14_6,z14_7,z14_8,z14_9,z14_10,z14_11,z14_12,y14_0,y14_1,y14_2,y14_3,y14_4,y14_5,y14_6,y14_7,y14_8,y14_9,y14_10,y14_11,y14_12⟩:=blk13f BK116
         have p117:0≤(x3_1:Int):=oD
         have q117:x3_1 < (l0_12.length:Int):=oD
         obtain ⟨ad117,e117,hx117_0,hx117_1⟩:=at_T83 HR0_12.out x3_1 p117 q117
         cases e117
         replace hx117_0:=(HB.out.cell (World.block_lt_of_cell? w _ hx117_0)).trans hx117_0
         replace hx117_1:=(HB.out.cell (World.block_lt_of_cell? w _ hx117_1)).trans hx117_1
         replace p117:=eq_true p117
         replace q117:=eq_true q117
         go_wp2_with (first|(go_at_call 81;(with_reducible refine (spec_SafeToCopy.calls ((rd_T83 l0_12 x3_1).f0) false _ A11.out).mono ?_);rintro e w' ⟨rfl,⟨nd,rfl⟩⟩))
         go_ret
         exact ⟨fE,bG⟩
    ·rw [if_neg c4] at H
     exact absurd H (by simp)
   ·rw [if_neg c3] at H
    have c3b0:decide (x3_1 < (l0_12.length:Int))=false:=decide_eq_false c3
    clear c3
    obtain rfl:=sI H
    obtain ⟨z15_0,z15_1,z15_2,z15_3,z15_4,z15_5,z15_6,z15_7,z15_8,z15_9,z15_10,z15_11,z15_12,y15_0,y15_1,y15_2,y15_3,y15_4,y15_5,y15_6,y15_7,y15_8,y15_9,y15_10,y15_11,y15_12⟩:=blk13f BK116
    go_wp2
    go_ret
    exact ⟨fE,bG⟩
def spec_l01Pow.l0:Nat→Int→Int→Int→Option (Int)
 | 0,_,_,_=>none
 | k+1,x0,x3,x4=>if x4 < x0 then (spec_l01Pow.l0 k x0 (wrap64 (2 * x3)) (wrap64 (x4+1))) else (some x3)
def spec_l01Pow.f (k:Nat) (a0:Int):Option (Int):=spec_l01Pow.l0 k a0 1 0
theorem spec_l01Pow.mono_l:∀ k,(∀ y0 y1 y2,LeO (spec_l01Pow.l0 k y0 y1 y2) (spec_l01Pow.l0 (k+1) y0 y1 y2))
 | 0=>fun _ _ _ r h=>by simp [spec_l01Pow.l0] at h
 | k+1=>by
  have ih0:=spec_l01Pow.mono_l k
  ·intro y0 y1 y2
   unfold spec_l01Pow.l0
   repeat' first
   | (with_reducible exact ih0 _ _ _)
   | (with_reducible exact LeO.refl _)
   | (with_reducible exact LeO.none _)
   | (with_reducible refine LeO.ite ?_ ?_)
   | (with_reducible refine LeO.bind ?_ (fun _=>?_))
   | exact ih0 _ _ _
   | exact LeO.none _
   | refine LeO.ite ?_ ?_
   | refine LeO.bind ?_ (fun _=>?_)
theorem spec_l01Pow.mono:∀ a0 k,LeO (spec_l01Pow.f k a0) (spec_l01Pow.f (k+1) a0):=by
 intro a0 k
 have ih0:=spec_l01Pow.mono_l k
 unfold spec_l01Pow.f
 repeat' first
   | (with_reducible exact ih0 _ _ _)
   | (with_reducible exact LeO.refl _)
   | (with_reducible exact LeO.none _)
   | (with_reducible refine LeO.ite ?_ ?_)
   | (with_reducible refine LeO.bind ?_ (fun _=>?_))
   | exact ih0 _ _ _
   | exact LeO.none _
   | refine LeO.ite ?_ ?_
   | refine LeO.bind ?_ (fun _=>?_)
theorem spec_l01Pow.calls (k:Nat) (a0:Int) (r:Int) (w:World) (h:spec_l01Pow.f k a0=some r):
  Calls Try.prog 82 #[.int .i64 a0] w fun e w'=>e=.returned (.int .i64 r)∧Drawn0 w w':=by
 have H:=h
 clear h
 unfold spec_l01Pow.f at H
 have H':=Aside0.mk H
 clear H
 go_enter Try.func82,Try.ntmps82
 go_wp2
 go_loopg [3,4] k (fun kq v3 v4 w'=>∃ (x3_1:Int) (x4_1:Int),v3=.int .i64 x3_1∧v4=.int .i64 x4_1∧Aside0 (spec_l01Pow.l0 kq a0 x3_1 x4_1=some r)∧Aside0 (kq≤k)∧Drawn0 w w')
 case atStart=>exact ⟨(1),(0),fS,fS,H',⟨Nat.le_refl _⟩,by repeat (first|exact Drawn0.refl _|apply Drawn0.step)⟩
 case round =>
  clear H'
  obtain ⟨x3_1,x4_1,rfl,rfl,HA,HK1,⟨m1,rfl⟩⟩:=hrel
  cases gk with
  | zero=>exact absurd HA.out (by simp [spec_l01Pow.l0])
  | succ k1 =>
   have H:=HA.out
   clear HA
   simp only [spec_l01Pow.l0] at H
   by_cases c2:x4_1 < a0
   ·rw [if_pos c2] at H
    have c2b0:decide (x4_1 < a0)=true:=decide_eq_true c2
    clear c2
    have H':=Aside0.mk H
    clear H
    go_wp2
    go_roundg k1
    case measure=>have:=HK1.out;omega
    case rel=>exact ⟨(wrap64 (2 * x3_1)),(wrap64 (x4_1+1)),fS,fS,H',⟨by have:=HK1.out;omega⟩,by repeat (first|exact Drawn0.refl _|apply Drawn0.step)⟩
   ·rw [if_neg c2] at H
    have c2b0:decide (x4_1 < a0)=false:=decide_eq_false c2
    clear c2
    obtain rfl:=sI H
    go_wp2
    go_ret
    exact ⟨fS,by repeat (first|exact Drawn0.refl _|apply Drawn0.step)⟩
def spec_l01In.f (a0:Int) (a1:Int) (a2:Int):Option (Bool):=if a0≥a1 then (some (decide (a0≤a2))) else (some false)
theorem spec_l01In.calls (a0:Int) (a1:Int) (a2:Int) (r:Bool) (w:World) (h:spec_l01In.f a0 a1 a2=some r):
  Calls Try.prog 116 #[.int .i64 a0,.int .i64 a1,.int .i64 a2] w fun e w'=>e=.returned (.bool r)∧Drawn0 w w':=by
 have H:=h
 clear h
 unfold spec_l01In.f at H
 by_cases c4:a0≥a1
 ·rw [if_pos c4] at H
  have c4b0:decide (a1≤a0)=true:=decide_eq_true c4
  clear c4
  obtain rfl:=sI H
  go_enter Try.func116,Try.ntmps116
  go_wp2
  go_ret
  exact ⟨fS,by repeat (first|exact Drawn0.refl _|apply Drawn0.step)⟩
 ·rw [if_neg c4] at H
  have c4b0:decide (a1≤a0)=false:=decide_eq_false c4
  clear c4
  obtain rfl:=sI H
  go_enter Try.func116,Try.ntmps116
  go_wp2
  go_ret
  exact ⟨fS,by repeat (first|exact Drawn0.refl _|apply Drawn0.step)⟩
def spec_l12Side.f (a0:Int):Option (Bool):=(spec_l01In.f a0 1 24).bind fun t119=>(some t119)
theorem spec_l12Side.calls (a0:Int) (r:Bool) (w:World) (h:spec_l12Side.f a0=some r):
  Calls Try.prog 114 #[.int .i64 a0] w fun e w'=>e=.returned (.bool r)∧Drawn0 w w':=by
 have H:=h
 clear h
 unfold spec_l12Side.f at H
 obtain ⟨t119,A2,H⟩:=bS H
 try dsimp only at H
 obtain rfl:=sI H
 go_enter Try.func114,Try.ntmps114
 go_wp2_with (first|((with_reducible refine gate_callee (f:=116) rfl ?_);refine gL (some 4) Try.func116 #[.int .i64 a0,.int .i64 1,.int .i64 24] ?_;(with_reducible refine (spec_l01In.calls a0 1 24 t119 _ A2.out).mono ?_);rintro e w' ⟨rfl,⟨nd,rfl⟩⟩;refine ⟨_,rfl,?_⟩))
 go_ret
 exact ⟨fS,by repeat (first|exact Drawn0.refl _|apply Drawn0.step)⟩
def spec_DepthOk.j0:Nat→Int→Int→Bool→Option (Bool)
 | 0,_,_,_=>none
 | k+1,x0,x1,x5=>if x0=0 then (if x5=true then (some true) else (if x1=8 then (some true) else (some (x1 == 16)))) else (if x0=3 then (if x5=true then (some true) else (some (x1 == 8))) else (if x0=2 then (if x1=8 then (some true) else (some (x1 == 16))) else (if x0=4 then (if x1=8 then (some true) else (some (x1 == 16))) else (if x0=6 then (if x1=8 then (some true) else (some (x1 == 16))) else (some false)))))
def spec_DepthOk.f (k:Nat) (a0:Int) (a1:Int):Option (Bool):=if a1=1 then (spec_DepthOk.j0 k a0 a1 true) else (if a1=2 then (spec_DepthOk.j0 k a0 a1 true) else (spec_DepthOk.j0 k a0 a1 (a1 == 4)))
theorem spec_DepthOk.mono_l:∀ k,(∀ y0 y1 y2,LeO (spec_DepthOk.j0 k y0 y1 y2) (spec_DepthOk.j0 (k+1) y0 y1 y2))
 | 0=>fun _ _ _ r h=>by simp [spec_DepthOk.j0] at h
 | k+1=>by
  have ih0:=spec_DepthOk.mono_l k
  ·intro y0 y1 y2
   unfold spec_DepthOk.j0
   repeat' first
   | (with_reducible exact ih0 _ _ _)
   | (with_reducible exact LeO.refl _)
   | (with_reducible exact LeO.none _)
   | (with_reducible refine LeO.ite ?_ ?_)
   | (with_reducible refine LeO.bind ?_ (fun _=>?_))
   | exact ih0 _ _ _
   | exact LeO.none _
   | refine LeO.ite ?_ ?_
   | refine LeO.bind ?_ (fun _=>?_)
theorem spec_DepthOk.mono:∀ a0 a1 k,LeO (spec_DepthOk.f k a0 a1) (spec_DepthOk.f (k+1) a0 a1):=by
 intro a0 a1 k
 have ih0:=spec_DepthOk.mono_l k
 unfold spec_DepthOk.f
 repeat' first
   | (with_reducible exact ih0 _ _ _)
   | (with_reducible exact LeO.refl _)
   | (with_reducible exact LeO.none _)
   | (with_reducible refine LeO.ite ?_ ?_)
   | (with_reducible refine LeO.bind ?_ (fun _=>?_))
   | exact ih0 _ _ _
   | exact LeO.none _
   | refine LeO.ite ?_ ?_
   | refine LeO.bind ?_ (fun _=>?_)
theorem spec_DepthOk.calls (k:Nat) (a0:Int) (a1:Int) (r:Bool) (w:World) (h:spec_DepthOk.f k a0 a1=some r):
  Calls Try.prog 115 #[.int .i64 a0,.int .i64 a1] w fun e w'=>e=.returned (.bool r)∧Drawn0 w w':=by
 have H:=h
 clear h
 unfold spec_DepthOk.f at H
 have HC3:=Aside0.mk H
 clear H
 go_enter Try.func115,Try.ntmps115
 go_upto_region 1 with (fail)
 go_cut [5] (fun v5 wc=>∃ (kq:Nat) (x5_2:Bool),v5=.bool x5_2∧Aside0 (spec_DepthOk.j0 kq a0 a1 x5_2=some r)∧Aside0 (kq≤k)∧Drawn0 w wc)
 case first =>
  have H:=HC3.out
  clear HC3
  by_cases c4:a1=1
  ·rw [if_pos c4] at H
   have c4b0:(a1 == 1)=true:=beq_iff_eq.mpr c4
   have c4b1:(a1 != 1)=false:=bne_eq_false_iff_eq.mpr c4
   clear c4
   (first|rw [c4b0]|(simp only [i64_w,i32_w];rw [c4b0])|skip)
   have H':=Aside0.mk H
   clear H
   go_wp2
   go_meet
   case rel=>exact ⟨_,(true),fS,H',⟨by first|omega|exact Nat.le_refl _⟩,by repeat (first|exact Drawn0.refl _|apply Drawn0.step)⟩
  ·rw [if_neg c4] at H
   have c4b0:(a1 == 1)=false:=beq_eq_false_iff_ne.mpr c4
   have c4b1:(a1 != 1)=true:=bne_iff_ne.mpr c4
   (first|rw [c4b0]|(simp only [i64_w,i32_w];rw [c4b0])|skip)
   by_cases c5:a1=2
   ·rw [if_pos c5] at H
    have c5b0:(a1 == 2)=true:=beq_iff_eq.mpr c5
    have c5b1:(a1 != 2)=false:=bne_eq_false_iff_eq.mpr c5
    clear c5
    have H':=Aside0.mk H
    clear H
    go_wp2
    go_meet
    case rel=>exact ⟨_,(true),fS,H',⟨by first|omega|exact Nat.le_refl _⟩,by repeat (first|exact Drawn0.refl _|apply Drawn0.step)⟩
   ·rw [if_neg c5] at H
    have c5b0:(a1 == 2)=false:=beq_eq_false_iff_ne.mpr c5
    have c5b1:(a1 != 2)=true:=bne_iff_ne.mpr c5
    have H':=Aside0.mk H
    clear H
    go_wp2
    go_meet
    case rel=>exact ⟨_,((a1 == 4)),fS,H',⟨by first|omega|exact Nat.le_refl _⟩,by repeat (first|exact Drawn0.refl _|apply Drawn0.step)⟩
 case rest =>
  clear HC3
  try clear c1
  try clear p2
  try clear c4
  try clear c4b0
  try clear c4b1
  try clear c5
  try clear c5b0
  try clear c5b1
  obtain ⟨kq,x5_2,rfl,HA,HJ2,⟨mc2,rfl⟩⟩:=hcut
  cases kq with
  | zero=>exact absurd HA.out (by simp [spec_DepthOk.j0])
  | succ kj2 =>
   have H:=HA.out
   clear HA
   simp only [spec_DepthOk.j0] at H
   by_cases c6:a0=0
   ·rw [if_pos c6] at H
    have c6b0:(a0 == 0)=true:=beq_iff_eq.mpr c6
    have c6b1:(a0 != 0)=false:=bne_eq_false_iff_eq.mpr c6
    clear c6
    by_cases c7:x5_2=true
    ·subst c7
     rw [if_pos rfl] at H
     obtain rfl:=sI H
     go_wp2
     go_ret
     exact ⟨fS,by repeat (first|exact Drawn0.refl _|apply Drawn0.step)⟩
    ·obtain rfl:=bF c7
     rw [if_neg nF] at H
     by_cases c8:a1=8
     ·rw [if_pos c8] at H
      have c8b0:(a1 == 8)=true:=beq_iff_eq.mpr c8
      have c8b1:(a1 != 8)=false:=bne_eq_false_iff_eq.mpr c8
      clear c8
      obtain rfl:=sI H
      go_wp2
      go_ret
      exact ⟨fS,by repeat (first|exact Drawn0.refl _|apply Drawn0.step)⟩
     ·rw [if_neg c8] at H
      have c8b0:(a1 == 8)=false:=beq_eq_false_iff_ne.mpr c8
      have c8b1:(a1 != 8)=true:=bne_iff_ne.mpr c8
      obtain rfl:=sI H
      go_wp2
      go_ret
      exact ⟨fS,by repeat (first|exact Drawn0.refl _|apply Drawn0.step)⟩
   ·rw [if_neg c6] at H
    have c6b0:(a0 == 0)=false:=beq_eq_false_iff_ne.mpr c6
    have c6b1:(a0 != 0)=true:=bne_iff_ne.mpr c6
    by_cases c9:a0=3
    ·rw [if_pos c9] at H
     have c9b0:(a0 == 3)=true:=beq_iff_eq.mpr c9
     have c9b1:(a0 != 3)=false:=bne_eq_false_iff_eq.mpr c9
     clear c9
     by_cases c10:x5_2=true
     ·subst c10
      rw [if_pos rfl] at H
      obtain rfl:=sI H
      go_wp2
      go_ret
      exact ⟨fS,by repeat (first|exact Drawn0.refl _|apply Drawn0.step)⟩
     ·obtain rfl:=bF c10
      rw [if_neg nF] at H
      obtain rfl:=sI H
      go_wp2
      go_ret
      exact ⟨fS,by repeat (first|exact Drawn0.refl _|apply Drawn0.step)⟩
    ·rw [if_neg c9] at H
     have c9b0:(a0 == 3)=false:=beq_eq_false_iff_ne.mpr c9
     have c9b1:(a0 != 3)=true:=bne_iff_ne.mpr c9
     by_cases c11:a0=2
     ·rw [if_pos c11] at H
      have c11b0:(a0 == 2)=true:=beq_iff_eq.mpr c11
      have c11b1:(a0 != 2)=false:=bne_eq_false_iff_eq.mpr c11
      clear c11
      by_cases c12:a1=8
      ·rw [if_pos c12] at H
       have c12b0:(a1 == 8)=true:=beq_iff_eq.mpr c12
       have c12b1:(a1 != 8)=false:=bne_eq_false_iff_eq.mpr c12
       clear c12
       obtain rfl:=sI H
       go_wp2
       go_ret
       exact ⟨fS,by repeat (first|exact Drawn0.refl _|apply Drawn0.step)⟩
      ·rw [if_neg c12] at H
       have c12b0:(a1 == 8)=false:=beq_eq_false_iff_ne.mpr c12
       have c12b1:(a1 != 8)=true:=bne_iff_ne.mpr c12
       obtain rfl:=sI H
       go_wp2
       go_ret
       exact ⟨fS,by repeat (first|exact Drawn0.refl _|apply Drawn0.step)⟩
     ·rw [if_neg c11] at H
      have c11b0:(a0 == 2)=false:=beq_eq_false_iff_ne.mpr c11
      have c11b1:(a0 != 2)=true:=bne_iff_ne.mpr c11
      by_cases c13:a0=4
      ·rw [if_pos c13] at H
       have c13b0:(a0 == 4)=true:=beq_iff_eq.mpr c13
       have c13b1:(a0 != 4)=false:=bne_eq_false_iff_eq.mpr c13
       clear c13
       by_cases c14:a1=8
       ·rw [if_pos c14] at H
        have c14b0:(a1 == 8)=true:=beq_iff_eq.mpr c14
        have c14b1:(a1 != 8)=false:=bne_eq_false_iff_eq.mpr c14
        clear c14
        obtain rfl:=sI H
        go_wp2
        go_ret
        exact ⟨fS,by repeat (first|exact Drawn0.refl _|apply Drawn0.step)⟩
       ·rw [if_neg c14] at H
        have c14b0:(a1 == 8)=false:=beq_eq_false_iff_ne.mpr c14
        have c14b1:(a1 != 8)=true:=bne_iff_ne.mpr c14
        obtain rfl:=sI H
        go_wp2
        go_ret
        exact ⟨fS,by repeat (first|exact Drawn0.refl _|apply Drawn0.step)⟩
      ·rw [if_neg c13] at H
       have c13b0:(a0 == 4)=false:=beq_eq_false_iff_ne.mpr c13
       have c13b1:(a0 != 4)=true:=bne_iff_ne.mpr c13
       by_cases c15:a0=6
       ·rw [if_pos c15] at H
        have c15b0:(a0 == 6)=true:=beq_iff_eq.mpr c15
        have c15b1:(a0 != 6)=false:=bne_eq_false_iff_eq.mpr c15
        clear c15
        by_cases c16:a1=8
        ·rw [if_pos c16] at H
         have c16b0:(a1 == 8)=true:=beq_iff_eq.mpr c16
         have c16b1:(a1 != 8)=false:=bne_eq_false_iff_eq.mpr c16
         clear c16
         obtain rfl:=sI H
         go_wp2
         go_ret
         exact ⟨fS,by repeat (first|exact Drawn0.refl _|apply Drawn0.step)⟩
        ·rw [if_neg c16] at H
         have c16b0:(a1 == 8)=false:=beq_eq_false_iff_ne.mpr c16
         have c16b1:(a1 != 8)=true:=bne_iff_ne.mpr c16
         obtain rfl:=sI H
         go_wp2
         go_ret
         exact ⟨fS,by repeat (first|exact Drawn0.refl _|apply Drawn0.step)⟩
       ·rw [if_neg c15] at H
        have c15b0:(a0 == 6)=false:=beq_eq_false_iff_ne.mpr c15
        have c15b1:(a0 != 6)=true:=bne_iff_ne.mpr c15
        obtain rfl:=sI H
        go_wp2
        go_ret
        exact ⟨fS,by repeat (first|exact Drawn0.refl _|apply Drawn0.step)⟩
def spec_HeadOk.f (k:Nat) (a0_0:Int) (a0_1:Int) (a0_2:Int) (a0_3:Int) (a0_4:Bool):Option (Bool):=(spec_l12Side.f a0_0).bind fun t121=>(if t121=true then ((spec_l12Side.f a0_1).bind fun t122=>(if t122=true then ((spec_DepthOk.f k a0_3 a0_2).bind fun t123=>(some t123)) else (some false))) else (some false))
theorem spec_HeadOk.mono:∀ a0 a1 a2 a3 a4 k,LeO (spec_HeadOk.f k a0 a1 a2 a3 a4) (spec_HeadOk.f (k+1) a0 a1 a2 a3 a4):=by
 intro a0 a1 a2 a3 a4 k
 unfold spec_HeadOk.f
 repeat' first
   | (with_reducible exact spec_DepthOk.mono _ _ _)
   | (with_reducible exact LeO.refl _)
   | (with_reducible exact LeO.none _)
   | (with_reducible refine LeO.ite ?_ ?_)
   | (with_reducible refine LeO.bind ?_ (fun _=>?_))
   | exact spec_DepthOk.mono _ _ _
   | exact LeO.none _
   | refine LeO.ite ?_ ?_
   | refine LeO.bind ?_ (fun _=>?_)
theorem spec_HeadOk.calls (k:Nat) (a0_0:Int) (a0_1:Int) (a0_2:Int) (a0_3:Int) (a0_4:Bool) (r:Bool) (w:World) (h:spec_HeadOk.f k a0_0 a0_1 a0_2 a0_3 a0_4=some r):
  Calls Try.prog 84 #[.agg #[.int .i64 a0_0,.int .i64 a0_1,.int .i64 a0_2,.int .i64 a0_3,.bool a0_4]] w fun e w'=>e=.returned (.bool r)∧Below w.heap.size w w':=by
 have hu32:=Try.underlying32
 have HB:=Aside0.mk (Below.refl w.heap.size w)
 have H:=h
 clear h
 unfold spec_HeadOk.f at H
 obtain ⟨t121,A2,H⟩:=bS H
 try dsimp only at H
 by_cases c3:t121=true
 ·subst c3
  rw [if_pos rfl] at H
  obtain ⟨t122,A4,H⟩:=bS H
  try dsimp only at H
  by_cases c5:t122=true
  ·subst c5
   rw [if_pos rfl] at H
   obtain ⟨t123,A6,H⟩:=bS H
   try dsimp only at H
   obtain rfl:=sI H
   go_enter Try.func84,Try.ntmps84
   go_wp2_with (first|((with_reducible refine gate_dst (N:=1) rfl ?_);refine boxE 1 (#[.int .i64 a0_0,.int .i64 a0_1,.int .i64 a0_2,.int .i64 a0_3,.bool a0_4]) 32 ?_;intro gb120 hg w7 hbox hb;have BK120:=Aside0.mk hbox;have GW120:=(gwH (w:=w) hg);have GE120:=(gwH (w:=w) hg);replace HB:=Aside0.mk (below_step bH hb);clear hb hbox hg;obtain ⟨z8_0,z8_1,z8_2,z8_3,z8_4,y8_0,y8_1,y8_2,y8_3,y8_4⟩:=blk5f BK120)|((with_reducible refine gate_callee (f:=114) rfl ?_);refine gL (some 5) Try.func114 #[.int .i64 a0_0] ?_;(with_reducible refine (spec_l12Side.calls a0_0 true _ A2.out).mono ?_);rintro e w' ⟨rfl,⟨nd,rfl⟩⟩;refine ⟨_,rfl,?_⟩)|(go_at_call 114;(with_reducible refine (spec_l12Side.calls a0_1 true _ A4.out).mono ?_);rintro e w' ⟨rfl,⟨nd,rfl⟩⟩)|(go_at_call 115;(with_reducible refine (spec_DepthOk.calls k a0_3 a0_2 t123 _ A6.out).mono ?_);rintro e w' ⟨rfl,⟨nd,rfl⟩⟩))
   go_ret
   exact ⟨fE,bG⟩
  ·obtain rfl:=bF c5
   rw [if_neg nF] at H
   obtain rfl:=sI H
   go_enter Try.func84,Try.ntmps84
   go_wp2_with (first|((with_reducible refine gate_dst (N:=1) rfl ?_);refine boxE 1 (#[.int .i64 a0_0,.int .i64 a0_1,.int .i64 a0_2,.int .i64 a0_3,.bool a0_4]) 32 ?_;intro gb120 hg w9 hbox hb;have BK120:=Aside0.mk hbox;have GW120:=(gwH (w:=w) hg);have GE120:=(gwH (w:=w) hg);replace HB:=Aside0.mk (below_step bH hb);clear hb hbox hg;obtain ⟨z10_0,z10_1,z10_2,z10_3,z10_4,y10_0,y10_1,y10_2,y10_3,y10_4⟩:=blk5f BK120)|((with_reducible refine gate_callee (f:=114) rfl ?_);refine gL (some 5) Try.func114 #[.int .i64 a0_0] ?_;(with_reducible refine (spec_l12Side.calls a0_0 true _ A2.out).mono ?_);rintro e w' ⟨rfl,⟨nd,rfl⟩⟩;refine ⟨_,rfl,?_⟩)|(go_at_call 114;(with_reducible refine (spec_l12Side.calls a0_1 false _ A4.out).mono ?_);rintro e w' ⟨rfl,⟨nd,rfl⟩⟩))
   go_ret
   exact ⟨fE,bG⟩
 ·obtain rfl:=bF c3
  rw [if_neg nF] at H
  obtain rfl:=sI H
  go_enter Try.func84,Try.ntmps84
  go_wp2_with (first|((with_reducible refine gate_dst (N:=1) rfl ?_);refine boxE 1 (#[.int .i64 a0_0,.int .i64 a0_1,.int .i64 a0_2,.int .i64 a0_3,.bool a0_4]) 32 ?_;intro gb120 hg w11 hbox hb;have BK120:=Aside0.mk hbox;have GW120:=(gwH (w:=w) hg);have GE120:=(gwH (w:=w) hg);replace HB:=Aside0.mk (below_step bH hb);clear hb hbox hg;obtain ⟨z12_0,z12_1,z12_2,z12_3,z12_4,y12_0,y12_1,y12_2,y12_3,y12_4⟩:=blk5f BK120)|((with_reducible refine gate_callee (f:=114) rfl ?_);refine gL (some 5) Try.func114 #[.int .i64 a0_0] ?_;(with_reducible refine (spec_l12Side.calls a0_0 false _ A2.out).mono ?_);rintro e w' ⟨rfl,⟨nd,rfl⟩⟩;refine ⟨_,rfl,?_⟩))
  go_ret
  exact ⟨fE,bG⟩
end Go.Proofs.Ytjpfhldklbgdcaa.Ld
