import Derived.Test.YtjpfhldklbgdcaaLdx0
import Derived.Test.YtjpfhldklbgdcaaLdx10
import Derived.Test.YtjpfhldklbgdcaaLdx11
set_option maxHeartbeats 8000000
set_option maxRecDepth 100000
namespace Go.Proofs.Ytjpfhldklbgdcaa.Ld
open Go.RowKit Go.Proofs.Ytjpfhldklbgdcaa.Sq Go.Proofs.YtjpfhldklbgdcaaW.PrintWords Go.Proofs.YtjpfhldklbgdcaaW.PrintLast Go.Proofs.YtjpfhldklbgdcaaW.PrintMore
attribute [local go_sem] max2_int min2_int max_two min_two max_three min_three max_four min_four   -- for this text's walks alone
set_option linter.unusedVariables false
set_option linter.unusedSimpArgs false
def impl_tableOk.l0:Nat→List (S95)→List (S95)→Int→Int→Int→Int→Int→Int→Bool→Option (Bool)
 | 0,_,_,_,_,_,_,_,_,_=>none
 | k+1,x1,x13,x14,x15,x323000,x323001,x323002,x323003,x323004=>if x15 < x14 then (if 0≤x15 then (if x15 < (x13.length:Int) then ((impl_colorOk.f ((rd_T95 x13 x15).f0) ((rd_T95 x13 x15).f1) ((rd_T95 x13 x15).f2)).bind fun t325=>(if t325=true then (impl_tableOk.l0 k x1 x13 x14 (wrap64 (x15+1)) x323000 x323001 x323002 x323003 x323004) else (some false))) else (none)) else (none)) else ((impl_powerOf.f x323002).bind fun t326=>((impl_within.f (x1.length:Int) 1 t326).bind fun t327=>(some t327)))
def impl_tableOk.f (k:Nat) (a0_0:Int) (a0_1:Int) (a0_2:Int) (a0_3:Int) (a0_4:Bool) (l1:List (S95)):Option (Bool):=if a0_3=3 then (impl_tableOk.l0 k l1 l1 (l1.length:Int) 0 a0_0 a0_1 a0_2 a0_3 a0_4) else (some ((l1.length:Int) == 0))
theorem impl_tableOk.mono_l:∀ k,(∀ y0 y1 y2 y3 y4 y5 y6 y7 y8,LeO (impl_tableOk.l0 k y0 y1 y2 y3 y4 y5 y6 y7 y8) (impl_tableOk.l0 (k+1) y0 y1 y2 y3 y4 y5 y6 y7 y8))
 | 0=>fun _ _ _ _ _ _ _ _ _ r h=>by simp [impl_tableOk.l0] at h
 | k+1=>by
  have ih0:=impl_tableOk.mono_l k
  ·intro y0 y1 y2 y3 y4 y5 y6 y7 y8
   unfold impl_tableOk.l0
   repeat' first
   | (with_reducible exact ih0 _ _ _ _ _ _ _ _ _)
   | (with_reducible exact LeO.refl _)
   | (with_reducible exact LeO.none _)
   | (with_reducible refine LeO.ite ?_ ?_)
   | (with_reducible refine LeO.bind ?_ (fun _=>?_))
   | exact ih0 _ _ _ _ _ _ _ _ _
   | exact LeO.none _
   | refine LeO.ite ?_ ?_
   | refine LeO.bind ?_ (fun _=>?_)
theorem impl_tableOk.mono:∀ a0 a1 a2 a3 a4 a5 k,LeO (impl_tableOk.f k a0 a1 a2 a3 a4 a5) (impl_tableOk.f (k+1) a0 a1 a2 a3 a4 a5):=by
 intro a0 a1 a2 a3 a4 a5 k
 have ih0:=impl_tableOk.mono_l k
 unfold impl_tableOk.f
 repeat' first
   | (with_reducible exact ih0 _ _ _ _ _ _ _ _ _)
   | (with_reducible exact LeO.refl _)
   | (with_reducible exact LeO.none _)
   | (with_reducible refine LeO.ite ?_ ?_)
   | (with_reducible refine LeO.bind ?_ (fun _=>?_))
   | exact ih0 _ _ _ _ _ _ _ _ _
   | exact LeO.none _
   | refine LeO.ite ?_ ?_
   | refine LeO.bind ?_ (fun _=>?_)
theorem impl_tableOk.calls (k:Nat) (a0_0:Int) (a0_1:Int) (a0_2:Int) (a0_3:Int) (a0_4:Bool) (A1:Option Addr) (c1:Nat) (l1:List (S95)) (r:Bool) (w:World) (hr1:Kd.C k95 w A1 l1.length l1) (hc1:l1.length≤c1) (h:impl_tableOk.f k a0_0 a0_1 a0_2 a0_3 a0_4 l1=some r):
  Calls Try.prog 109 #[.agg #[.int .i64 a0_0,.int .i64 a0_1,.int .i64 a0_2,.int .i64 a0_3,.bool a0_4],.slice A1 l1.length c1] w fun e w'=>e=.returned (.bool r)∧Below w.heap.size w w':=by
 have hu32:=Try.underlying32
 have hu95:=Try.underlying95
 have HR1:=Aside0.mk hr1
 have HC1:=Aside0.mk hc1
 clear hr1 hc1
 have HB:=Aside0.mk (Below.refl w.heap.size w)
 have H:=h
 clear h
 unfold impl_tableOk.f at H
 by_cases c3:a0_3=3
 ·rw [if_pos c3] at H
  have c3b0:(a0_3 == 3)=true:=beq_iff_eq.mpr c3
  have c3b1:(a0_3 != 3)=false:=bne_eq_false_iff_eq.mpr c3
  clear c3
  have H':=Aside0.mk H
  clear H
  go_enter Try.func109,Try.ntmps109
  go_wp2_with (first|((with_reducible refine gate_dst (N:=2) rfl ?_);refine boxE 2 (#[.int .i64 a0_0,.int .i64 a0_1,.int .i64 a0_2,.int .i64 a0_3,.bool a0_4]) 32 ?_;intro gb322 hg w4 hbox hb;have BK322:=Aside0.mk hbox;have GW322:=(gwH (w:=w) hg);have GE322:=(gwH (w:=w) hg);replace HB:=Aside0.mk (below_step bH hb);clear hb hbox hg;obtain ⟨z5_0,z5_1,z5_2,z5_3,z5_4,y5_0,y5_1,y5_2,y5_3,y5_4⟩:=blk5f BK322))
  go_loopg [15] k (fun kq v15 w'=>∃ (x15_1:Int),v15=.int .i64 x15_1∧Aside0 (impl_tableOk.l0 kq l1 l1 (l1.length:Int) x15_1 a0_0 a0_1 a0_2 a0_3 a0_4=some r)∧Aside0 (kq≤k)∧Aside0 (w'.heap[gb322]?=some (.cells #[.int .i64 a0_0,.int .i64 a0_1,.int .i64 a0_2,.int .i64 a0_3,.bool a0_4] 32 (0,0)))∧Aside0 (Below w.heap.size w w'))
  case atStart=>exact ⟨(0),fS,H',⟨Nat.le_refl _⟩,⟨by (with_reducible repeat (first|refine blk_drewN ?_ _|refine blk_drew ?_|refine blk_alloc ?_ _));exact BK322.out⟩,⟨bG⟩⟩
  case round =>
   clear H'
   clear c3b0 c3b1 z5_0 z5_1 z5_2 z5_3 z5_4 y5_0 y5_1 y5_2 y5_3 y5_4
   obtain ⟨x15_1,rfl,HA,HK1,BK322,HB⟩:=hrel
   cases gk with
   | zero=>exact absurd HA.out (by simp [impl_tableOk.l0])
   | succ k1 =>
    have H:=HA.out
    clear HA
    simp only [impl_tableOk.l0] at H
    by_cases c6:x15_1 < (l1.length:Int)
    ·rw [if_pos c6] at H
     have c6b0:decide (x15_1 < (l1.length:Int))=true:=decide_eq_true c6
     clear c6
     by_cases c7:0≤x15_1
     ·rw [if_pos c7] at H
      have c7b0:decide (0≤x15_1)=true:=decide_eq_true c7
      clear c7
      by_cases c8:x15_1 < (l1.length:Int)
      ·rw [if_pos c8] at H
       have c8b0:decide (x15_1 < (l1.length:Int))=true:=decide_eq_true c8
       clear c8
       obtain ⟨t325,A9,H⟩:=bS H
       try dsimp only at H
       by_cases c10:t325=true
       ·subst c10
        rw [if_pos rfl] at H
        have H':=Aside0.mk H
        clear H
        have p323:0≤(x15_1:Int):=oD
        have q323:x15_1 < (l1.length:Int):=oD
        obtain ⟨ad323,e323,hx323_0,hx323_1,hx323_2⟩:=at_T95 HR1.out x15_1 p323 q323
        cases e323
        replace hx323_0:=(HB.out.cell (World.block_lt_of_cell? w _ hx323_0)).trans hx323_0
        replace hx323_1:=(HB.out.cell (World.block_lt_of_cell? w _ hx323_1)).trans hx323_1
        replace hx323_2:=(HB.out.cell (World.block_lt_of_cell? w _ hx323_2)).trans hx323_2
        replace p323:=eq_true p323
        replace q323:=eq_true q323
        go_wp2_with (first|((with_reducible refine gate_dst (N:=6) rfl ?_);refine boxE 6 (#[.int .i64 0,.int .i64 0,.int .i64 0]) 95 ?_;intro gb324 hg w11 hbox hb;have n0_:=Aside0.mk (bkb BK322 hb);have n1_:=Aside0.mk (below_step bG hb);have n2_:=Aside0.mk hbox;have n3_:=(gwG (w:=w) hg);have n4_:=(gwG (w:=w) hg);have n5_:=(nbl BK322 hg);have n6_:=(nbg BK322 hg);clear BK322;clear HB;have BK322:=n0_;have HB:=n1_;have BK324:=n2_;have GW324:=n3_;have GE324:=n4_;have NB322_324:=n5_;have NB324_322:=n6_;clear n0_ n1_ n2_ n3_ n4_ n5_ n6_;clear hb hbox hg;have hnb12:=NB324_322.out;have hnc12:=NB322_324.out;obtain ⟨z13_0,z13_1,z13_2,y13_0,y13_1,y13_2⟩:=blk3f BK324)|((with_reducible refine gate_callee (f:=128) rfl ?_);refine gL (some 20) Try.func128 #[.agg #[.int .i64 ((rd_T95 l1 x15_1).f0),.int .i64 ((rd_T95 l1 x15_1).f1),.int .i64 ((rd_T95 l1 x15_1).f2)]] ?_;(with_reducible refine (impl_colorOk.calls ((rd_T95 l1 x15_1).f0) ((rd_T95 l1 x15_1).f1) ((rd_T95 l1 x15_1).f2) true _ A9.out).mono ?_);rintro e w14 ⟨rfl,hb⟩;refine ⟨_,rfl,?_⟩;replace BK322:=Aside0.mk (bfb BK322 hb);replace BK324:=Aside0.mk (blk_below (g:=gb324) (o:=.cells #[.int .i64 ((rd_T95 l1 x15_1).f0),.int .i64 ((rd_T95 l1 x15_1).f1),.int .i64 ((rd_T95 l1 x15_1).f2)] 95 (0,0)) (by refine bP (cs:=?_) ?_ 2 ?_;rotate_left;refine bP (cs:=?_) ?_ 1 ?_;rotate_left;refine bP (cs:=?_) ?_ 0 ?_;rotate_left;exact BK324.out;all_goals ((try simp only [sA,sZ,sC]);first|done|rfl)) hb);replace HB:=Aside0.mk (below_step bG hb);(try clear hb)))
        go_roundg k1
        case measure=>have:=HK1.out;omega
        case rel=>exact ⟨(wrap64 (x15_1+1)),fS,H',⟨by have:=HK1.out;omega⟩,⟨by (with_reducible repeat (first|refine blk_drewN ?_ _|refine blk_drew ?_|refine blk_alloc ?_ _));exact BK322.out⟩,⟨bG⟩⟩
       ·obtain rfl:=bF c10
        rw [if_neg nF] at H
        obtain rfl:=sI H
        have p323:0≤(x15_1:Int):=oD
        have q323:x15_1 < (l1.length:Int):=oD
        obtain ⟨ad323,e323,hx323_0,hx323_1,hx323_2⟩:=at_T95 HR1.out x15_1 p323 q323
        cases e323
        replace hx323_0:=(HB.out.cell (World.block_lt_of_cell? w _ hx323_0)).trans hx323_0
        replace hx323_1:=(HB.out.cell (World.block_lt_of_cell? w _ hx323_1)).trans hx323_1
        replace hx323_2:=(HB.out.cell (World.block_lt_of_cell? w _ hx323_2)).trans hx323_2
        replace p323:=eq_true p323
        replace q323:=eq_true q323
        go_wp2_with (first|((with_reducible refine gate_dst (N:=6) rfl ?_);refine boxE 6 (#[.int .i64 0,.int .i64 0,.int .i64 0]) 95 ?_;intro gb324 hg w15 hbox hb;have n0_:=Aside0.mk (bkb BK322 hb);have n1_:=Aside0.mk (below_step bG hb);have n2_:=Aside0.mk hbox;have n3_:=(gwG (w:=w) hg);have n4_:=(gwG (w:=w) hg);have n5_:=(nbl BK322 hg);have n6_:=(nbg BK322 hg);clear BK322;clear HB;have BK322:=n0_;have HB:=n1_;have BK324:=n2_;have GW324:=n3_;have GE324:=n4_;have NB322_324:=n5_;have NB324_322:=n6_;clear n0_ n1_ n2_ n3_ n4_ n5_ n6_;clear hb hbox hg;have hnb16:=NB324_322.out;have hnc16:=NB322_324.out;obtain ⟨z17_0,z17_1,z17_2,y17_0,y17_1,y17_2⟩:=blk3f BK324)|((with_reducible refine gate_callee (f:=128) rfl ?_);refine gL (some 20) Try.func128 #[.agg #[.int .i64 ((rd_T95 l1 x15_1).f0),.int .i64 ((rd_T95 l1 x15_1).f1),.int .i64 ((rd_T95 l1 x15_1).f2)]] ?_;(with_reducible refine (impl_colorOk.calls ((rd_T95 l1 x15_1).f0) ((rd_T95 l1 x15_1).f1) ((rd_T95 l1 x15_1).f2) false _ A9.out).mono ?_);rintro e w18 ⟨rfl,hb⟩;refine ⟨_,rfl,?_⟩;replace BK322:=Aside0.mk (bfb BK322 hb);replace BK324:=Aside0.mk (blk_below (g:=gb324) (o:=.cells #[.int .i64 ((rd_T95 l1 x15_1).f0),.int .i64 ((rd_T95 l1 x15_1).f1),.int .i64 ((rd_T95 l1 x15_1).f2)] 95 (0,0)) (by refine bP (cs:=?_) ?_ 2 ?_;rotate_left;refine bP (cs:=?_) ?_ 1 ?_;rotate_left;refine bP (cs:=?_) ?_ 0 ?_;rotate_left;exact BK324.out;all_goals ((try simp only [sA,sZ,sC]);first|done|rfl)) hb);replace HB:=Aside0.mk (below_step bG hb);(try clear hb)))
        go_ret
        exact ⟨fE,bG⟩
      ·rw [if_neg c8] at H
       exact absurd H (by simp)
     ·rw [if_neg c7] at H
      exact absurd H (by simp)
    ·rw [if_neg c6] at H
     have c6b0:decide (x15_1 < (l1.length:Int))=false:=decide_eq_false c6
     clear c6
     obtain ⟨t326,A19,H⟩:=bS H
     try dsimp only at H
     obtain ⟨t327,A20,H⟩:=bS H
     try dsimp only at H
     obtain rfl:=sI H
     obtain ⟨z21_0,z21_1,z21_2,z21_3,z21_4,y21_0,y21_1,y21_2,y21_3,y21_4⟩:=blk5f BK322
     go_wp2_with (first|((with_reducible refine gate_callee (f:=68) rfl ?_);refine gL (some 27) Try.func68 #[.int .i64 a0_2] ?_;(with_reducible refine (impl_powerOf.calls a0_2 t326 _ A19.out).mono ?_);rintro e w' ⟨rfl,⟨nd,rfl⟩⟩;refine ⟨_,rfl,?_⟩)|((with_reducible refine gate_callee (f:=99) rfl ?_);refine gL (some 28) Try.func99 #[.int .i64 (l1.length:Int),.int .i64 1,.int .i64 t326] ?_;(with_reducible refine (impl_within.calls (l1.length:Int) 1 t326 t327 _ A20.out).mono ?_);rintro e w' ⟨rfl,⟨nd,rfl⟩⟩;refine ⟨_,rfl,?_⟩))
     go_ret
     exact ⟨fE,bG⟩
 ·rw [if_neg c3] at H
  have c3b0:(a0_3 == 3)=false:=beq_eq_false_iff_ne.mpr c3
  have c3b1:(a0_3 != 3)=true:=bne_iff_ne.mpr c3
  obtain rfl:=sI H
  go_enter Try.func109,Try.ntmps109
  go_wp2_with (first|((with_reducible refine gate_dst (N:=2) rfl ?_);refine boxE 2 (#[.int .i64 a0_0,.int .i64 a0_1,.int .i64 a0_2,.int .i64 a0_3,.bool a0_4]) 32 ?_;intro gb322 hg w22 hbox hb;have BK322:=Aside0.mk hbox;have GW322:=(gwH (w:=w) hg);have GE322:=(gwH (w:=w) hg);replace HB:=Aside0.mk (below_step bH hb);clear hb hbox hg;obtain ⟨z23_0,z23_1,z23_2,z23_3,z23_4,y23_0,y23_1,y23_2,y23_3,y23_4⟩:=blk5f BK322))
  go_ret
  exact ⟨fE,bG⟩
def impl_ClearOk.j0:Nat→Int→List Int→Int→Int→Int→Int→Int→Bool→Option (Bool)
 | 0,_,_,_,_,_,_,_,_=>none
 | k+1,x1,x2,x7,x329000,x329001,x329002,x329003,x329004=>if x329003=0 then (if (x2.length:Int)=1 then ((impl_samplesOk.f k x2 x7).bind fun t330=>(some t330)) else (some false)) else (if x329003=2 then (if (x2.length:Int)=3 then ((impl_samplesOk.f k x2 x7).bind fun t331=>(some t331)) else (some false)) else (if x329003=3 then (if (x2.length:Int)≤x1 then ((impl_samplesOk.f k x2 8).bind fun t332=>(some t332)) else (some false)) else (some false)))
def impl_ClearOk.f (k:Nat) (a0_0:Int) (a0_1:Int) (a0_2:Int) (a0_3:Int) (a0_4:Bool) (a1:Int) (l2:List Int):Option (Bool):=if (l2.length:Int)=0 then (if a0_3=3 then (some (decide (a1≥0))) else (some true)) else ((impl_within.f a0_2 0 16).bind fun t329=>(if t329=true then (impl_ClearOk.j0 k a1 l2 a0_2 a0_0 a0_1 a0_2 a0_3 a0_4) else (impl_ClearOk.j0 k a1 l2 0 a0_0 a0_1 a0_2 a0_3 a0_4)))
theorem impl_ClearOk.mono_l:∀ k,(∀ y0 y1 y2 y3 y4 y5 y6 y7,LeO (impl_ClearOk.j0 k y0 y1 y2 y3 y4 y5 y6 y7) (impl_ClearOk.j0 (k+1) y0 y1 y2 y3 y4 y5 y6 y7))
 | 0=>fun _ _ _ _ _ _ _ _ r h=>by simp [impl_ClearOk.j0] at h
 | k+1=>by
  have ih0:=impl_ClearOk.mono_l k
  ·intro y0 y1 y2 y3 y4 y5 y6 y7
   unfold impl_ClearOk.j0
   repeat' first
   | (with_reducible exact ih0 _ _ _ _ _ _ _ _)
   | (with_reducible exact impl_samplesOk.mono _ _ _)
   | (with_reducible exact LeO.refl _)
   | (with_reducible exact LeO.none _)
   | (with_reducible refine LeO.ite ?_ ?_)
   | (with_reducible refine LeO.bind ?_ (fun _=>?_))
   | exact ih0 _ _ _ _ _ _ _ _
   | exact impl_samplesOk.mono _ _ _
   | exact LeO.none _
   | refine LeO.ite ?_ ?_
   | refine LeO.bind ?_ (fun _=>?_)
theorem impl_ClearOk.mono:∀ a0 a1 a2 a3 a4 a5 a6 k,LeO (impl_ClearOk.f k a0 a1 a2 a3 a4 a5 a6) (impl_ClearOk.f (k+1) a0 a1 a2 a3 a4 a5 a6):=by
 intro a0 a1 a2 a3 a4 a5 a6 k
 have ih0:=impl_ClearOk.mono_l k
 unfold impl_ClearOk.f
 repeat' first
   | (with_reducible exact ih0 _ _ _ _ _ _ _ _)
   | (with_reducible exact impl_samplesOk.mono _ _ _)
   | (with_reducible exact LeO.refl _)
   | (with_reducible exact LeO.none _)
   | (with_reducible refine LeO.ite ?_ ?_)
   | (with_reducible refine LeO.bind ?_ (fun _=>?_))
   | exact ih0 _ _ _ _ _ _ _ _
   | exact impl_samplesOk.mono _ _ _
   | exact LeO.none _
   | refine LeO.ite ?_ ?_
   | refine LeO.bind ?_ (fun _=>?_)
theorem impl_ClearOk.calls (k:Nat) (a0_0:Int) (a0_1:Int) (a0_2:Int) (a0_3:Int) (a0_4:Bool) (a1:Int) (A2:Option Addr) (c2:Nat) (l2:List Int) (r:Bool) (w:World) (hr2:Kd.C (Kd.int .i64) w A2 l2.length l2) (hc2:l2.length≤c2) (h:impl_ClearOk.f k a0_0 a0_1 a0_2 a0_3 a0_4 a1 l2=some r):
  Calls Try.prog 110 #[.agg #[.int .i64 a0_0,.int .i64 a0_1,.int .i64 a0_2,.int .i64 a0_3,.bool a0_4],.int .i64 a1,.slice A2 l2.length c2] w fun e w'=>e=.returned (.bool r)∧Below w.heap.size w w':=by
 have hu32:=Try.underlying32
 have HR2:=Aside0.mk hr2
 have HC2:=Aside0.mk hc2
 clear hr2 hc2
 have HB:=Aside0.mk (Below.refl w.heap.size w)
 have H:=h
 clear h
 unfold impl_ClearOk.f at H
 by_cases c4:(l2.length:Int)=0
 ·rw [if_pos c4] at H
  have c4b0:((l2.length:Int) == 0)=true:=beq_iff_eq.mpr c4
  have c4b1:((l2.length:Int) != 0)=false:=bne_eq_false_iff_eq.mpr c4
  clear c4
  by_cases c5:a0_3=3
  ·rw [if_pos c5] at H
   have c5b0:(a0_3 == 3)=true:=beq_iff_eq.mpr c5
   have c5b1:(a0_3 != 3)=false:=bne_eq_false_iff_eq.mpr c5
   clear c5
   obtain rfl:=sI H
   go_enter Try.func110,Try.ntmps110
   go_wp2_with (first|((with_reducible refine gate_dst (N:=3) rfl ?_);refine boxE 3 (#[.int .i64 a0_0,.int .i64 a0_1,.int .i64 a0_2,.int .i64 a0_3,.bool a0_4]) 32 ?_;intro gb328 hg w6 hbox hb;have BK328:=Aside0.mk hbox;have GW328:=(gwH (w:=w) hg);have GE328:=(gwH (w:=w) hg);replace HB:=Aside0.mk (below_step bH hb);clear hb hbox hg;obtain ⟨z7_0,z7_1,z7_2,z7_3,z7_4,y7_0,y7_1,y7_2,y7_3,y7_4⟩:=blk5f BK328))
   go_ret
   exact ⟨fE,bG⟩
  ·rw [if_neg c5] at H
   have c5b0:(a0_3 == 3)=false:=beq_eq_false_iff_ne.mpr c5
   have c5b1:(a0_3 != 3)=true:=bne_iff_ne.mpr c5
   obtain rfl:=sI H
   go_enter Try.func110,Try.ntmps110
   go_wp2_with (first|((with_reducible refine gate_dst (N:=3) rfl ?_);refine boxE 3 (#[.int .i64 a0_0,.int .i64 a0_1,.int .i64 a0_2,.int .i64 a0_3,.bool a0_4]) 32 ?_;intro gb328 hg w8 hbox hb;have BK328:=Aside0.mk hbox;have GW328:=(gwH (w:=w) hg);have GE328:=(gwH (w:=w) hg);replace HB:=Aside0.mk (below_step bH hb);clear hb hbox hg;obtain ⟨z9_0,z9_1,z9_2,z9_3,z9_4,y9_0,y9_1,y9_2,y9_3,y9_4⟩:=blk5f BK328))
   go_ret
   exact ⟨fE,bG⟩
 ·rw [if_neg c4] at H
  have c4b0:((l2.length:Int) == 0)=false:=beq_eq_false_iff_ne.mpr c4
  have c4b1:((l2.length:Int) != 0)=true:=bne_iff_ne.mpr c4
  have c4b2:¬ (l2=[]):=fun h_=>c4 (by rw [h_];rfl)
  obtain ⟨t329,A10,H⟩:=bS H
  try dsimp only at H
  have HC11:=Aside0.mk H
  clear H
  go_enter Try.func110,Try.ntmps110
  go_upto_if 20 with (first|((with_reducible refine gate_dst (N:=3) rfl ?_);refine boxE 3 (#[.int .i64 a0_0,.int .i64 a0_1,.int .i64 a0_2,.int .i64 a0_3,.bool a0_4]) 32 ?_;intro gb328 hg w12 hbox hb;have BK328:=Aside0.mk hbox;have GW328:=(gwH (w:=w) hg);have GE328:=(gwH (w:=w) hg);replace HB:=Aside0.mk (below_step bH hb);clear hb hbox hg;obtain ⟨z13_0,z13_1,z13_2,z13_3,z13_4,y13_0,y13_1,y13_2,y13_3,y13_4⟩:=blk5f BK328)|((with_reducible refine gate_callee (f:=99) rfl ?_);refine gL (some 20) Try.func99 #[.int .i64 a0_2,.int .i64 0,.int .i64 16] ?_;(with_reducible refine (impl_within.calls a0_2 0 16 t329 _ A10.out).mono ?_);rintro e w' ⟨rfl,⟨nd,rfl⟩⟩;refine ⟨_,rfl,?_⟩))
  (try simp only [Act.put,sA,sZ,sC])
  go_cut [7] (fun v7 wc=>∃ (kq:Nat) (x7_10:Int),v7=.int .i64 x7_10∧Aside0 (impl_ClearOk.j0 kq a1 l2 x7_10 a0_0 a0_1 a0_2 a0_3 a0_4=some r)∧Aside0 (kq≤k)∧Aside0 (wc.heap[gb328]?=some (.cells #[.int .i64 a0_0,.int .i64 a0_1,.int .i64 a0_2,.int .i64 a0_3,.bool a0_4] 32 (0,0)))∧Aside0 (Below w.heap.size w wc))
  case first =>
   have H:=HC11.out
   clear HC11
   by_cases c14:t329=true
   ·subst c14
    rw [if_pos rfl] at H
    have H':=Aside0.mk H
    clear H
    obtain ⟨z15_0,z15_1,z15_2,z15_3,z15_4,y15_0,y15_1,y15_2,y15_3,y15_4⟩:=blk5f BK328
    go_wp2
    go_meet
    case rel=>exact ⟨_,(a0_2),fS,H',⟨by first|omega|exact Nat.le_refl _⟩,⟨by (with_reducible repeat (first|refine blk_drewN ?_ _|refine blk_drew ?_|refine blk_alloc ?_ _));exact BK328.out⟩,⟨bG⟩⟩
   ·obtain rfl:=bF c14
    rw [if_neg nF] at H
    have H':=Aside0.mk H
    clear H
    go_wp2
    go_meet
    case rel=>exact ⟨_,(0),fS,H',⟨by first|omega|exact Nat.le_refl _⟩,⟨by (with_reducible repeat (first|refine blk_drewN ?_ _|refine blk_drew ?_|refine blk_alloc ?_ _));exact BK328.out⟩,⟨bG⟩⟩
  case rest =>
   clear HC11
   clear c4 c4b0 c4b1 c4b2 z13_0 z13_1 z13_2 z13_3 z13_4 y13_0 y13_1 y13_2 y13_3 y13_4
   obtain ⟨kq,x7_10,rfl,HA,HJ10,BK328,HB⟩:=hcut
   cases kq with
   | zero=>exact absurd HA.out (by simp [impl_ClearOk.j0])
   | succ kj10 =>
    have H:=HA.out
    clear HA
    simp only [impl_ClearOk.j0] at H
    by_cases c16:a0_3=0
    ·rw [if_pos c16] at H
     have c16b0:(a0_3 == 0)=true:=beq_iff_eq.mpr c16
     have c16b1:(a0_3 != 0)=false:=bne_eq_false_iff_eq.mpr c16
     clear c16
     by_cases c17:(l2.length:Int)=1
     ·rw [if_pos c17] at H
      have c17b0:((l2.length:Int) == 1)=true:=beq_iff_eq.mpr c17
      have c17b1:((l2.length:Int) != 1)=false:=bne_eq_false_iff_eq.mpr c17
      clear c17
      obtain ⟨t330,A18,H⟩:=bS H
      try dsimp only at H
      obtain rfl:=sI H
      obtain ⟨z19_0,z19_1,z19_2,z19_3,z19_4,y19_0,y19_1,y19_2,y19_3,y19_4⟩:=blk5f BK328
      go_wp2_with (first|(go_at_call 127;(with_reducible refine (impl_samplesOk.calls kj10 _ _ l2 x7_10 t330 _ (cB HR2) HC2.out A18.out).mono ?_);rintro e w' ⟨rfl,⟨nd,rfl⟩⟩))
      go_ret
      exact ⟨fE,bG⟩
     ·rw [if_neg c17] at H
      have c17b0:((l2.length:Int) == 1)=false:=beq_eq_false_iff_ne.mpr c17
      have c17b1:((l2.length:Int) != 1)=true:=bne_iff_ne.mpr c17
      obtain rfl:=sI H
      obtain ⟨z20_0,z20_1,z20_2,z20_3,z20_4,y20_0,y20_1,y20_2,y20_3,y20_4⟩:=blk5f BK328
      go_wp2
      go_ret
      exact ⟨fE,bG⟩
    ·rw [if_neg c16] at H
     have c16b0:(a0_3 == 0)=false:=beq_eq_false_iff_ne.mpr c16
     have c16b1:(a0_3 != 0)=true:=bne_iff_ne.mpr c16
     by_cases c21:a0_3=2
     ·rw [if_pos c21] at H
      have c21b0:(a0_3 == 2)=true:=beq_iff_eq.mpr c21
      have c21b1:(a0_3 != 2)=false:=bne_eq_false_iff_eq.mpr c21
      clear c21
      by_cases c22:(l2.length:Int)=3
      ·rw [if_pos c22] at H
       have c22b0:((l2.length:Int) == 3)=true:=beq_iff_eq.mpr c22
       have c22b1:((l2.length:Int) != 3)=false:=bne_eq_false_iff_eq.mpr c22
       clear c22
       obtain ⟨t331,A23,H⟩:=bS H
       try dsimp only at H
       obtain rfl:=sI H
       obtain ⟨z24_0,z24_1,z24_2,z24_3,z24_4,y24_0,y24_1,y24_2,y24_3,y24_4⟩:=blk5f BK328
       go_wp2_with (first|(go_at_call 127;(with_reducible refine (impl_samplesOk.calls kj10 _ _ l2 x7_10 t331 _ (cB HR2) HC2.out A23.out).mono ?_);rintro e w' ⟨rfl,⟨nd,rfl⟩⟩))
       go_ret
       exact ⟨fE,bG⟩
      ·rw [if_neg c22] at H
       have c22b0:((l2.length:Int) == 3)=false:=beq_eq_false_iff_ne.mpr c22
       have c22b1:((l2.length:Int) != 3)=true:=bne_iff_ne.mpr c22
       obtain rfl:=sI H
       obtain ⟨z25_0,z25_1,z25_2,z25_3,z25_4,y25_0,y25_1,y25_2,y25_3,y25_4⟩:=blk5f BK328
       go_wp2
       go_ret
       exact ⟨fE,bG⟩
     ·rw [if_neg c21] at H
      have c21b0:(a0_3 == 2)=false:=beq_eq_false_iff_ne.mpr c21
      have c21b1:(a0_3 != 2)=true:=bne_iff_ne.mpr c21
      by_cases c26:a0_3=3
      ·rw [if_pos c26] at H
       have c26b0:(a0_3 == 3)=true:=beq_iff_eq.mpr c26
       have c26b1:(a0_3 != 3)=false:=bne_eq_false_iff_eq.mpr c26
       clear c26
       by_cases c27:(l2.length:Int)≤a1
       ·rw [if_pos c27] at H
        have c27b0:decide ((l2.length:Int)≤a1)=true:=decide_eq_true c27
        clear c27
        obtain ⟨t332,A28,H⟩:=bS H
        try dsimp only at H
        obtain rfl:=sI H
        obtain ⟨z29_0,z29_1,z29_2,z29_3,z29_4,y29_0,y29_1,y29_2,y29_3,y29_4⟩:=blk5f BK328
        go_wp2_with (first|(go_at_call 127;(with_reducible refine (impl_samplesOk.calls kj10 _ _ l2 8 t332 _ (cB HR2) HC2.out A28.out).mono ?_);rintro e w' ⟨rfl,⟨nd,rfl⟩⟩))
        go_ret
        exact ⟨fE,bG⟩
       ·rw [if_neg c27] at H
        have c27b0:decide ((l2.length:Int)≤a1)=false:=decide_eq_false c27
        clear c27
        obtain rfl:=sI H
        obtain ⟨z30_0,z30_1,z30_2,z30_3,z30_4,y30_0,y30_1,y30_2,y30_3,y30_4⟩:=blk5f BK328
        go_wp2
        go_ret
        exact ⟨fE,bG⟩
      ·rw [if_neg c26] at H
       have c26b0:(a0_3 == 3)=false:=beq_eq_false_iff_ne.mpr c26
       have c26b1:(a0_3 != 3)=true:=bne_iff_ne.mpr c26
       obtain rfl:=sI H
       obtain ⟨z31_0,z31_1,z31_2,z31_3,z31_4,y31_0,y31_1,y31_2,y31_3,y31_4⟩:=blk5f BK328
       go_wp2
       go_ret
       exact ⟨fE,bG⟩
def impl_Needless.f (k:Nat) (a0:ByteArray):Option (Bool):=(impl_NameOk.f k a0).bind fun t333=>(if t333=true then (if 0 < (a0.size:Int) then ((impl_isSmall.f (bt a0 0)).bind fun t334=>(some t334)) else (none)) else (some false))
theorem impl_Needless.mono:∀ a0 k,LeO (impl_Needless.f k a0) (impl_Needless.f (k+1) a0):=by
 intro a0 k
 unfold impl_Needless.f
 repeat' first
   | (with_reducible exact impl_NameOk.mono _ _)
   | (with_reducible exact LeO.refl _)
   | (with_reducible exact LeO.none _)
   | (with_reducible refine LeO.ite ?_ ?_)
   | (with_reducible refine LeO.bind ?_ (fun _=>?_))
   | exact impl_NameOk.mono _ _
   | exact LeO.none _
   | refine LeO.ite ?_ ?_
   | refine LeO.bind ?_ (fun _=>?_)
theorem impl_Needless.calls (k:Nat) (a0:ByteArray) (r:Bool) (w:World) (h:impl_Needless.f k a0=some r):
  Calls Try.prog 129 #[.string a0] w fun e w'=>e=.returned (.bool r)∧Drawn0 w w':=by
 have H:=h
 clear h
 unfold impl_Needless.f at H
 obtain ⟨t333,A2,H⟩:=bS H
 try dsimp only at H
 by_cases c3:t333=true
 ·subst c3
  rw [if_pos rfl] at H
  by_cases c4:0 < (a0.size:Int)
  ·rw [if_pos c4] at H
   have c4b0:decide (0 < (a0.size:Int))=true:=decide_eq_true c4
   have c4b1:decide (0 < a0.size)=true:=decide_eq_true (by omega)
   clear c4
   obtain ⟨t334,A6,H⟩:=bS H
   try dsimp only at H
   obtain rfl:=sI H
   go_enter Try.func129,Try.ntmps129
   go_wp2_with (first|((with_reducible refine gate_callee (f:=103) rfl ?_);refine gL (some 4) Try.func103 #[.string a0] ?_;(with_reducible refine (impl_NameOk.calls k a0 true _ A2.out).mono ?_);rintro e w' ⟨rfl,⟨nd,rfl⟩⟩;refine ⟨_,rfl,?_⟩;have p5:0≤(0:Int):=(by omega);have q5:0 < a0.size:=(by have:(0:Int) < (a0.size:Int):=oD;omega);have hx5:∀ h:0 < a0.size,((a0[0]'h).toNat:Int)=bt a0 0:=bt_at a0 0;clear p5;have qi5:(0 < (a0.size:Int))=True:=eq_true (oD);replace q5:=eq_true q5)|(go_at_call 104;(with_reducible refine (impl_isSmall.calls (bt a0 0) t334 _ A6.out).mono ?_);rintro e w' ⟨rfl,⟨nd,rfl⟩⟩))
   go_ret
   exact ⟨fS,by repeat (first|exact Drawn0.refl _|apply Drawn0.step)⟩
  ·rw [if_neg c4] at H
   exact absurd H (by simp)
 ·obtain rfl:=bF c3
  rw [if_neg nF] at H
  obtain rfl:=sI H
  go_enter Try.func129,Try.ntmps129
  go_wp2_with (first|((with_reducible refine gate_callee (f:=103) rfl ?_);refine gL (some 4) Try.func103 #[.string a0] ?_;(with_reducible refine (impl_NameOk.calls k a0 false _ A2.out).mono ?_);rintro e w' ⟨rfl,⟨nd,rfl⟩⟩;refine ⟨_,rfl,?_⟩))
  go_ret
  exact ⟨fS,by repeat (first|exact Drawn0.refl _|apply Drawn0.step)⟩
def impl_keptOk.l0:Nat→List (S83)→List (S83)→Int→Int→Option (Bool)
 | 0,_,_,_,_=>none
 | k+1,x0,x5,x6,x7=>if x7 < x6 then (if 0≤x7 then (if x7 < (x5.length:Int) then ((impl_Needless.f k ((rd_T83 x5 x7).f0)).bind fun t337=>(if t337=true then (if ((rd_T83 x5 x7).f0).toList=([116,82,78,83]:List UInt8) then (some false) else (if (((rd_T83 x5 x7).f1).size:Int) > 2600 then (some false) else (impl_keptOk.l0 k x0 x5 x6 (wrap64 (x7+1))))) else (some false))) else (none)) else (none)) else (some (decide ((x0.length:Int)≤32)))
def impl_keptOk.f (k:Nat) (l0:List (S83)):Option (Bool):=impl_keptOk.l0 k l0 l0 (l0.length:Int) 0
theorem impl_keptOk.mono_l:∀ k,(∀ y0 y1 y2 y3,LeO (impl_keptOk.l0 k y0 y1 y2 y3) (impl_keptOk.l0 (k+1) y0 y1 y2 y3))
 | 0=>fun _ _ _ _ r h=>by simp [impl_keptOk.l0] at h
 | k+1=>by
  have ih0:=impl_keptOk.mono_l k
  ·intro y0 y1 y2 y3
   unfold impl_keptOk.l0
   repeat' first
   | (with_reducible exact ih0 _ _ _ _)
   | (with_reducible exact impl_Needless.mono _ _)
   | (with_reducible exact LeO.refl _)
   | (with_reducible exact LeO.none _)
   | (with_reducible refine LeO.ite ?_ ?_)
   | (with_reducible refine LeO.bind ?_ (fun _=>?_))
   | exact ih0 _ _ _ _
   | exact impl_Needless.mono _ _
   | exact LeO.none _
   | refine LeO.ite ?_ ?_
   | refine LeO.bind ?_ (fun _=>?_)
theorem impl_keptOk.mono:∀ a0 k,LeO (impl_keptOk.f k a0) (impl_keptOk.f (k+1) a0):=by
 intro a0 k
 have ih0:=impl_keptOk.mono_l k
 unfold impl_keptOk.f
 repeat' first
   | (with_reducible exact ih0 _ _ _ _)
   | (with_reducible exact impl_Needless.mono _ _)
   | (with_reducible exact LeO.refl _)
   | (with_reducible exact LeO.none _)
   | (with_reducible refine LeO.ite ?_ ?_)
   | (with_reducible refine LeO.bind ?_ (fun _=>?_))
   | exact ih0 _ _ _ _
   | exact impl_Needless.mono _ _
   | exact LeO.none _
   | refine LeO.ite ?_ ?_
   | refine LeO.bind ?_ (fun _=>?_)
theorem impl_keptOk.calls (k:Nat) (A0:Option Addr) (c0:Nat) (l0:List (S83)) (r:Bool) (w:World) (hr0:Kd.C k83 w A0 l0.length l0) (hc0:l0.length≤c0) (h:impl_keptOk.f k l0=some r):
  Calls Try.prog 111 #[.slice A0 l0.length c0] w fun e w'=>e=.returned (.bool r)∧Below w.heap.size w w':=by
 have hu83:=Try.underlying83
 have HR0:=Aside0.mk hr0
 have HC0:=Aside0.mk hc0
 clear hr0 hc0
 have HB:=Aside0.mk (Below.refl w.heap.size w)
 have H:=h
 clear h
 unfold impl_keptOk.f at H
 have H':=Aside0.mk H
 clear H
 go_enter Try.func111,Try.ntmps111
 go_wp2
 go_loopg [7] k (fun kq v7 w'=>∃ (x7_1:Int),v7=.int .i64 x7_1∧Aside0 (impl_keptOk.l0 kq l0 l0 (l0.length:Int) x7_1=some r)∧Aside0 (kq≤k)∧Aside0 (Below w.heap.size w w'))
 case atStart=>exact ⟨(0),fS,H',⟨Nat.le_refl _⟩,⟨bH⟩⟩
 case round =>
  clear H'
  obtain ⟨x7_1,rfl,HA,HK1,HB⟩:=hrel
  cases gk with
  | zero=>exact absurd HA.out (by simp [impl_keptOk.l0])
  | succ k1 =>
   have H:=HA.out
   clear HA
   simp only [impl_keptOk.l0] at H
   by_cases c2:x7_1 < (l0.length:Int)
   ·rw [if_pos c2] at H
    have c2b0:decide (x7_1 < (l0.length:Int))=true:=decide_eq_true c2
    clear c2
    by_cases c3:0≤x7_1
    ·rw [if_pos c3] at H
     have c3b0:decide (0≤x7_1)=true:=decide_eq_true c3
     clear c3
     by_cases c4:x7_1 < (l0.length:Int)
     ·rw [if_pos c4] at H
      have c4b0:decide (x7_1 < (l0.length:Int))=true:=decide_eq_true c4
      clear c4
      obtain ⟨t337,A5,H⟩:=bS H
      try dsimp only at H
      by_cases c6:t337=true
      ·subst c6
       rw [if_pos rfl] at H
       by_cases c7:((rd_T83 l0 x7_1).f0).toList=([116,82,78,83]:List UInt8)
       ·rw [if_pos c7] at H
        have c7b0:(((rd_T83 l0 x7_1).f0).toList == ([116,82,78,83]:List UInt8))=true:=beq_iff_eq.mpr c7
        have c7b1:(((rd_T83 l0 x7_1).f0).toList != ([116,82,78,83]:List UInt8))=false:=bne_eq_false_iff_eq.mpr c7
        clear c7
        obtain rfl:=sI H
        have p335:0≤(x7_1:Int):=oD
        have q335:x7_1 < (l0.length:Int):=oD
        obtain ⟨ad335,e335,hx335_0,hx335_1⟩:=at_T83 HR0.out x7_1 p335 q335
        cases e335
        replace hx335_0:=(HB.out.cell (World.block_lt_of_cell? w _ hx335_0)).trans hx335_0
        replace hx335_1:=(HB.out.cell (World.block_lt_of_cell? w _ hx335_1)).trans hx335_1
        replace p335:=eq_true p335
        replace q335:=eq_true q335
        go_wp2_with (first|((with_reducible refine gate_dst (N:=4) rfl ?_);(try (refine gate_guard (by rfl) ?_;dsimp only));refine boxE 4 (#[.string (⟨#[]⟩:ByteArray),.string (⟨#[]⟩:ByteArray)]) 83 ?_;intro gb336 hg w8 hbox hb;have BK336:=Aside0.mk hbox;have GW336:=(gwH (w:=w) hg);have GE336:=(gwH (w:=w) hg);replace HB:=Aside0.mk (below_step bH hb);clear hb hbox hg;obtain ⟨z9_0,z9_1,y9_0,y9_1⟩:=blk2f BK336)|((with_reducible refine gate_callee (f:=129) rfl ?_);refine gL (some 13) Try.func129 #[.string ((rd_T83 l0 x7_1).f0)] ?_;(with_reducible refine (impl_Needless.calls k1 ((rd_T83 l0 x7_1).f0) true _ A5.out).mono ?_);rintro e w' ⟨rfl,⟨nd,rfl⟩⟩;refine ⟨_,rfl,?_⟩))
        go_ret
        exact ⟨fE,bG⟩
       ·rw [if_neg c7] at H
        have c7b0:(((rd_T83 l0 x7_1).f0).toList == ([116,82,78,83]:List UInt8))=false:=beq_eq_false_iff_ne.mpr c7
        have c7b1:(((rd_T83 l0 x7_1).f0).toList != ([116,82,78,83]:List UInt8))=true:=bne_iff_ne.mpr c7
        by_cases c10:(((rd_T83 l0 x7_1).f1).size:Int) > 2600
        ·rw [if_pos c10] at H
         have c10b0:decide (2600 < (((rd_T83 l0 x7_1).f1).size:Int))=true:=decide_eq_true c10
         have c10b1:decide (2600 < ((rd_T83 l0 x7_1).f1).size)=true:=decide_eq_true (by omega)
         clear c10
         obtain rfl:=sI H
         have p335:0≤(x7_1:Int):=oD
         have q335:x7_1 < (l0.length:Int):=oD
         obtain ⟨ad335,e335,hx335_0,hx335_1⟩:=at_T83 HR0.out x7_1 p335 q335
         cases e335
         replace hx335_0:=(HB.out.cell (World.block_lt_of_cell? w _ hx335_0)).trans hx335_0
         replace hx335_1:=(HB.out.cell (World.block_lt_of_cell? w _ hx335_1)).trans hx335_1
         replace p335:=eq_true p335
         replace q335:=eq_true q335
         go_wp2_with (first|((with_reducible refine gate_dst (N:=4) rfl ?_);(try (refine gate_guard (by rfl) ?_;dsimp only));refine boxE 4 (#[.string (⟨#[]⟩:ByteArray),.string (⟨#[]⟩:ByteArray)]) 83 ?_;intro gb336 hg w11 hbox hb;have BK336:=Aside0.mk hbox;have GW336:=(gwH (w:=w) hg);have GE336:=(gwH (w:=w) hg);replace HB:=Aside0.mk (below_step bH hb);clear hb hbox hg;obtain ⟨z12_0,z12_1,y12_0,y12_1⟩:=blk2f BK336)|((with_reducible refine gate_callee (f:=129) rfl ?_);refine gL (some 13) Try.func129 #[.string ((rd_T83 l0 x7_1).f0)] ?_;(with_reducible refine (impl_Needless.calls k1 ((rd_T83 l0 x7_1).f0) true _ A5.out).mono ?_);rintro e w' ⟨rfl,⟨nd,rfl⟩⟩;refine ⟨_,rfl,?_⟩))
         go_ret
         exact ⟨fE,bG⟩
        ·rw [if_neg c10] at H
         have c10b0:decide (2600 < (((rd_T83 l0 x7_1).f1).size:Int))=false:=decide_eq_false c10
         have c10b1:decide (2600 < ((rd_T83 l0 x7_1).f1).size)=false:=decide_eq_false (by omega)
         clear c10
         have H':=Aside0.mk H
         clear H
         have p335:0≤(x7_1:Int):=oD
         have q335:x7_1 < (l0.length:Int):=oD
         obtain ⟨ad335,e335,hx335_0,hx335_1⟩:=at_T83 HR0.out x7_1 p335 q335
         cases e335
         replace hx335_0:=(HB.out.cell (World.block_lt_of_cell? w _ hx335_0)).trans hx335_0
         replace hx335_1:=(HB.out.cell (World.block_lt_of_cell? w _ hx335_1)).trans hx335_1
         replace p335:=eq_true p335
         replace q335:=eq_true q335
         go_wp2_with (first|((with_reducible refine gate_dst (N:=4) rfl ?_);(try (refine gate_guard (by rfl) ?_;dsimp only));refine boxE 4 (#[.string (⟨#[]⟩:ByteArray),.string (⟨#[]⟩:ByteArray)]) 83 ?_;intro gb336 hg w13 hbox hb;have BK336:=Aside0.mk hbox;have GW336:=(gwH (w:=w) hg);have GE336:=(gwH (w:=w) hg);replace HB:=Aside0.mk (below_step bH hb);clear hb hbox hg;obtain ⟨z14_0,z14_1,y14_0,y14_1⟩:=blk2f BK336)|((with_reducible refine gate_callee (f:=129) rfl ?_);refine gL (some 13) Try.func129 #[.string ((rd_T83 l0 x7_1).f0)] ?_;(with_reducible refine (impl_Needless.calls k1 ((rd_T83 l0 x7_1).f0) true _ A5.out).mono ?_);rintro e w' ⟨rfl,⟨nd,rfl⟩⟩;refine ⟨_,rfl,?_⟩))
         go_roundg k1
         case measure=>have:=HK1.out;omega
         case rel=>exact ⟨(wrap64 (x7_1+1)),fS,H',⟨by have:=HK1.out;omega⟩,⟨bG⟩⟩
      ·obtain rfl:=bF c6
       rw [if_neg nF] at H
       obtain rfl:=sI H
       have p335:0≤(x7_1:Int):=oD
       have q335:x7_1 < (l0.length:Int):=oD
       obtain ⟨ad335,e335,hx335_0,hx335_1⟩:=at_T83 HR0.out x7_1 p335 q335
       cases e335
       replace hx335_0:=(HB.out.cell (World.block_lt_of_cell? w _ hx335_0)).trans hx335_0
       replace hx335_1:=(HB.out.cell (World.block_lt_of_cell? w _ hx335_1)).trans hx335_1
       replace p335:=eq_true p335
       replace q335:=eq_true q335
       go_wp2_with (first|((with_reducible refine gate_dst (N:=4) rfl ?_);(try (refine gate_guard (by rfl) ?_;dsimp only));refine boxE 4 (#[.string (⟨#[]⟩:ByteArray),.string (⟨#[]⟩:ByteArray)]) 83 ?_;intro gb336 hg w15 hbox hb;have BK336:=Aside0.mk hbox;have GW336:=(gwH (w:=w) hg);have GE336:=(gwH (w:=w) hg);replace HB:=Aside0.mk (below_step bH hb);clear hb hbox hg;obtain ⟨z16_0,z16_1,y16_0,y16_1⟩:=blk2f BK336)|((with_reducible refine gate_callee (f:=129) rfl ?_);refine gL (some 13) Try.func129 #[.string ((rd_T83 l0 x7_1).f0)] ?_;(with_reducible refine (impl_Needless.calls k1 ((rd_T83 l0 x7_1).f0) false _ A5.out).mono ?_);rintro e w' ⟨rfl,⟨nd,rfl⟩⟩;refine ⟨_,rfl,?_⟩))
       go_ret
       exact ⟨fE,bG⟩
     ·rw [if_neg c4] at H
      exact absurd H (by simp)
    ·rw [if_neg c3] at H
     exact absurd H (by simp)
   ·rw [if_neg c2] at H
    have c2b0:decide (x7_1 < (l0.length:Int))=false:=decide_eq_false c2
    clear c2
    obtain rfl:=sI H
    go_wp2
    go_ret
    exact ⟨fE,bH⟩
end Go.Proofs.Ytjpfhldklbgdcaa.Ld
