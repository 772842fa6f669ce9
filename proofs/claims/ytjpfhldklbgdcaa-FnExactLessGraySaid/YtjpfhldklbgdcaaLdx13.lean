import Derived.Test.YtjpfhldklbgdcaaLdx0
set_option maxHeartbeats 8000000
set_option maxRecDepth 100000
namespace Go.Proofs.Ytjpfhldklbgdcaa.Ld
open Go.RowKit Go.Proofs.Ytjpfhldklbgdcaa.Sq Go.Proofs.YtjpfhldklbgdcaaW.PrintWords Go.Proofs.YtjpfhldklbgdcaaW.PrintLast Go.Proofs.YtjpfhldklbgdcaaW.PrintMore
attribute [local go_sem] max2_int min2_int max_two min_two max_three min_three max_four min_four   -- for this text's walks alone
set_option linter.unusedVariables false
set_option linter.unusedSimpArgs false
def impl_inTable.l0:Nat→List Int→Int→Int→Int→Int→Int→Int→Bool→List (S95)→List Int→Int→Int→Int→Int→List Int→List (S83)→Option (Bool)
 | 0,_,_,_,_,_,_,_,_,_,_,_,_,_,_,_,_=>none
 | k+1,x7,x8,x9,x339000,x339001,x339002,x339003,x339004,x339005,x339006,x339007,x339008,x339009,x339010,x339011,x339012=>if x9 < x8 then (if 0≤x9 then (if x9 < (x7.length:Int) then (if (rd x7 x9)≥(x339005.length:Int) then (some false) else (impl_inTable.l0 k x7 x8 (wrap64 (x9+1)) x339000 x339001 x339002 x339003 x339004 x339005 x339006 x339007 x339008 x339009 x339010 x339011 x339012)) else (none)) else (none)) else (some true)
def impl_inTable.f (k:Nat) (a0_0:Int) (a0_1:Int) (a0_2:Int) (a0_3:Int) (a0_4:Bool) (l0_5:List (S95)) (l0_6:List Int) (a0_7:Int) (a0_8:Int) (a0_9:Int) (a0_10:Int) (l0_11:List Int) (l0_12:List (S83)):Option (Bool):=impl_inTable.l0 k l0_11 (l0_11.length:Int) 0 a0_0 a0_1 a0_2 a0_3 a0_4 l0_5 l0_6 a0_7 a0_8 a0_9 a0_10 l0_11 l0_12
theorem impl_inTable.mono_l:∀ k,(∀ y0 y1 y2 y3 y4 y5 y6 y7 y8 y9 y10 y11 y12 y13 y14 y15,LeO (impl_inTable.l0 k y0 y1 y2 y3 y4 y5 y6 y7 y8 y9 y10 y11 y12 y13 y14 y15) (impl_inTable.l0 (k+1) y0 y1 y2 y3 y4 y5 y6 y7 y8 y9 y10 y11 y12 y13 y14 y15))
 | 0=>fun _ _ _ _ _ _ _ _ _ _ _ _ _ _ _ _ r h=>by simp [impl_inTable.l0] at h
 | k+1=>by
  have ih0:=impl_inTable.mono_l k
  ·intro y0 y1 y2 y3 y4 y5 y6 y7 y8 y9 y10 y11 y12 y13 y14 y15
   unfold impl_inTable.l0
   repeat' first
   | (with_reducible exact ih0 _ _ _ _ _ _ _ _ _ _ _ _ _ _ _ _)
   | (with_reducible exact LeO.refl _)
   | (with_reducible exact LeO.none _)
   | (with_reducible refine LeO.ite ?_ ?_)
   | (with_reducible refine LeO.bind ?_ (fun _=>?_))
   | exact ih0 _ _ _ _ _ _ _ _ _ _ _ _ _ _ _ _
   | exact LeO.none _
   | refine LeO.ite ?_ ?_
   | refine LeO.bind ?_ (fun _=>?_)
theorem impl_inTable.mono:∀ a0 a1 a2 a3 a4 a5 a6 a7 a8 a9 a10 a11 a12 k,LeO (impl_inTable.f k a0 a1 a2 a3 a4 a5 a6 a7 a8 a9 a10 a11 a12) (impl_inTable.f (k+1) a0 a1 a2 a3 a4 a5 a6 a7 a8 a9 a10 a11 a12):=by
 intro a0 a1 a2 a3 a4 a5 a6 a7 a8 a9 a10 a11 a12 k
 have ih0:=impl_inTable.mono_l k
 unfold impl_inTable.f
 repeat' first
   | (with_reducible exact ih0 _ _ _ _ _ _ _ _ _ _ _ _ _ _ _ _)
   | (with_reducible exact LeO.refl _)
   | (with_reducible exact LeO.none _)
   | (with_reducible refine LeO.ite ?_ ?_)
   | (with_reducible refine LeO.bind ?_ (fun _=>?_))
   | exact ih0 _ _ _ _ _ _ _ _ _ _ _ _ _ _ _ _
   | exact LeO.none _
   | refine LeO.ite ?_ ?_
   | refine LeO.bind ?_ (fun _=>?_)
theorem impl_inTable.calls (k:Nat) (a0_0:Int) (a0_1:Int) (a0_2:Int) (a0_3:Int) (a0_4:Bool) (A0_5:Option Addr) (c0_5:Nat) (l0_5:List (S95)) (A0_6:Option Addr) (c0_6:Nat) (l0_6:List Int) (a0_7:Int) (a0_8:Int) (a0_9:Int) (a0_10:Int) (A0_11:Option Addr) (c0_11:Nat) (l0_11:List Int) (A0_12:Option Addr) (c0_12:Nat) (l0_12:List (S83)) (r:Bool) (w:World) (hr0_5:Kd.C k95 w A0_5 l0_5.length l0_5) (hc0_5:l0_5.length≤c0_5) (hr0_6:Kd.C (Kd.int .i64) w A0_6 l0_6.length l0_6) (hc0_6:l0_6.length≤c0_6) (hr0_11:Kd.C (Kd.int .i64) w A0_11 l0_11.length l0_11) (hc0_11:l0_11.length≤c0_11) (hr0_12:Kd.C k83 w A0_12 l0_12.length l0_12) (hc0_12:l0_12.length≤c0_12) (h:impl_inTable.f k a0_0 a0_1 a0_2 a0_3 a0_4 l0_5 l0_6 a0_7 a0_8 a0_9 a0_10 l0_11 l0_12=some r):
  Calls Try.prog 112 #[.agg #[.int .i64 a0_0,.int .i64 a0_1,.int .i64 a0_2,.int .i64 a0_3,.bool a0_4,.slice A0_5 l0_5.length c0_5,.slice A0_6 l0_6.length c0_6,.int .i64 a0_7,.int .i64 a0_8,.int .i64 a0_9,.int .i64 a0_10,.slice A0_11 l0_11.length c0_11,.slice A0_12 l0_12.length c0_12]] w fun e w'=>e=.returned (.bool r)∧Below w.heap.size w w':=by
 have hu37:=Try.underlying37
 have HR0_5:=Aside0.mk hr0_5
 have HC0_5:=Aside0.mk hc0_5
 clear hr0_5 hc0_5
 have HR0_6:=Aside0.mk hr0_6
 have HC0_6:=Aside0.mk hc0_6
 clear hr0_6 hc0_6
 have HR0_11:=Aside0.mk hr0_11
 have HC0_11:=Aside0.mk hc0_11
 clear hr0_11 hc0_11
 have HR0_12:=Aside0.mk hr0_12
 have HC0_12:=Aside0.mk hc0_12
 clear hr0_12 hc0_12
 have HB:=Aside0.mk (Below.refl w.heap.size w)
 have H:=h
 clear h
 unfold impl_inTable.f at H
 have H':=Aside0.mk H
 clear H
 go_enter Try.func112,Try.ntmps112
 go_wp2_with (first|((with_reducible refine gate_dst (N:=1) rfl ?_);refine boxE 1 (#[.int .i64 a0_0,.int .i64 a0_1,.int .i64 a0_2,.int .i64 a0_3,.bool a0_4,.slice A0_5 l0_5.length c0_5,.slice A0_6 l0_6.length c0_6,.int .i64 a0_7,.int .i64 a0_8,.int .i64 a0_9,.int .i64 a0_10,.slice A0_11 l0_11.length c0_11,.slice A0_12 l0_12.length c0_12]) 37 ?_;intro gb338 hg w2 hbox hb;have BK338:=Aside0.mk hbox;have GW338:=(gwH (w:=w) hg);have GE338:=(gwH (w:=w) hg);replace HB:=Aside0.mk (below_step bH hb);clear hb hbox hg;obtain ⟨z3_0,z3_1,z3_2,z3_3,z3_4,z3_5,z3_6,z3_7,z3_8,z3_9,z3_10,z3_11,z3_12,y3_0,y3_1,y3_2,y3_3,y3_4,y3_5,y3_6,y3_7,y3_8,y3_9,y3_10,y3_11,y3_12⟩:=blk13f BK338))
 go_loopg [9] k (fun kq v9 w'=>∃ (x9_1:Int),v9=.int .i64 x9_1∧Aside0 (impl_inTable.l0 kq l0_11 (l0_11.length:Int) x9_1 a0_0 a0_1 a0_2 a0_3 a0_4 l0_5 l0_6 a0_7 a0_8 a0_9 a0_10 l0_11 l0_12=some r)∧Aside0 (kq≤k)∧Aside0 (w'.heap[gb338]?=some (.cells #[.int .i64 a0_0,.int .i64 a0_1,.int .i64 a0_2,.int .i64 a0_3,.bool a0_4,(.slice A0_5 l0_5.length c0_5),(.slice A0_6 l0_6.length c0_6),.int .i64 a0_7,.int .i64 a0_8,.int .i64 a0_9,.int .i64 a0_10,(.slice A0_11 l0_11.length c0_11),(.slice A0_12 l0_12.length c0_12)] 37 (0,0)))∧Aside0 (Below w.heap.size w w'))
 case atStart=>exact ⟨(0),fS,H',⟨Nat.le_refl _⟩,⟨by (with_reducible repeat (first|refine blk_drewN ?_ _|refine blk_drew ?_|refine blk_alloc ?_ _));exact BK338.out⟩,⟨bG⟩⟩
 case round =>
  clear H'
  clear z3_0 z3_1 z3_10 z3_11 z3_12 z3_2 z3_3 z3_4 z3_5 z3_6 z3_7 z3_8 z3_9 y3_0 y3_1 y3_10 y3_11 y3_12 y3_2 y3_3 y3_4 y3_5 y3_6 y3_7 y3_8 y3_9
  obtain ⟨x9_1,rfl,HA,HK1,BK338,HB⟩:=hrel
  cases gk with
  | zero=>exact absurd HA.out (by simp [impl_inTable.l0])
  | succ k1 =>
   have H:=HA.out
   clear HA
   simp only [impl_inTable.l0] at H
   by_cases c4:x9_1 < (l0_11.length:Int)
   ·rw [if_pos c4] at H
    have c4b0:decide (x9_1 < (l0_11.length:Int))=true:=decide_eq_true c4
    clear c4
    by_cases c5:0≤x9_1
    ·rw [if_pos c5] at H
     have c5b0:decide (0≤x9_1)=true:=decide_eq_true c5
     clear c5
     by_cases c6:x9_1 < (l0_11.length:Int)
     ·rw [if_pos c6] at H
      have c6b0:decide (x9_1 < (l0_11.length:Int))=true:=decide_eq_true c6
      clear c6
      by_cases c7:(rd l0_11 x9_1)≥(l0_5.length:Int)
      ·rw [if_pos c7] at H
       have c7b0:decide ((l0_5.length:Int)≤(rd l0_11 x9_1))=true:=decide_eq_true c7
       clear c7
       obtain rfl:=sI H
       have p339:0≤(x9_1:Int):=oD
       have q339:x9_1 < (l0_11.length:Int):=oD
       obtain ⟨ad339,e339,hx339_0⟩:=Kd.at_int HR0_11.out x9_1 p339 q339
       cases e339
       replace hx339_0:=(HB.out.cell (World.block_lt_of_cell? w _ hx339_0)).trans hx339_0
       replace p339:=eq_true p339
       replace q339:=eq_true q339
       obtain ⟨z8_0,z8_1,z8_2,z8_3,z8_4,z8_5,z8_6,z8_7,z8_8,z8_9,z8_10,z8_11,z8_12,y8_0,y8_1,y8_2,y8_3,y8_4,y8_5,y8_6,y8_7,y8_8,y8_9,y8_10,y8_11,y8_12⟩:=blk13f BK338
       go_wp2
       go_ret
       exact ⟨fE,bG⟩
      ·rw [if_neg c7] at H
       have c7b0:decide ((l0_5.length:Int)≤(rd l0_11 x9_1))=false:=decide_eq_false c7
       clear c7
       have H':=Aside0.mk H
       clear H
       have p339:0≤(x9_1:Int):=oD
       have q339:x9_1 < (l0_11.length:Int):=oD
       obtain ⟨ad339,e339,hx339_0⟩:=Kd.at_int HR0_11.out x9_1 p339 q339
       cases e339
       replace hx339_0:=(HB.out.cell (World.block_lt_of_cell? w _ hx339_0)).trans hx339_0
       replace p339:=eq_true p339
       replace q339:=eq_true q339
       obtain ⟨z9_0,z9_1,z9_2,z9_3,z9_4,z9_5,z9_6,z9_7,z9_8,z9_9,z9_10,z9_11,z9_12,y9_0,y9_1,y9_2,y9_3,y9_4,y9_5,y9_6,y9_7,y9_8,y9_9,y9_10,y9_11,y9_12⟩:=blk13f BK338
       go_wp2
       go_roundg k1
       case measure=>have:=HK1.out;omega
       case rel=>exact ⟨(wrap64 (x9_1+1)),fS,H',⟨by have:=HK1.out;omega⟩,⟨by (with_reducible repeat (first|refine blk_drewN ?_ _|refine blk_drew ?_|refine blk_alloc ?_ _));exact BK338.out⟩,⟨bG⟩⟩
     ·rw [if_neg c6] at H
      exact absurd H (by simp)
    ·rw [if_neg c5] at H
     exact absurd H (by simp)
   ·rw [if_neg c4] at H
    have c4b0:decide (x9_1 < (l0_11.length:Int))=false:=decide_eq_false c4
    clear c4
    obtain rfl:=sI H
    go_wp2
    go_ret
    exact ⟨fE,bG⟩
end Go.Proofs.Ytjpfhldklbgdcaa.Ld
