import Derived.Test.YtjpfhldklbgdcaaLdx0
import Derived.Test.YtjpfhldklbgdcaaLdx15
set_option maxHeartbeats 8000000
set_option maxRecDepth 100000
namespace Go.Proofs.Ytjpfhldklbgdcaa.Ld
open Go.RowKit Go.Proofs.Ytjpfhldklbgdcaa.Sq Go.Proofs.YtjpfhldklbgdcaaW.PrintWords Go.Proofs.YtjpfhldklbgdcaaW.PrintLast Go.Proofs.YtjpfhldklbgdcaaW.PrintMore
attribute [local go_sem] max2_int min2_int max_two min_two max_three min_three max_four min_four   -- for this text's walks alone
set_option linter.unusedVariables false
set_option linter.unusedSimpArgs false
def impl_LessGray.j0:Nat→Bool→Int→Int→Int→Int→Bool→List (S95)→List Int→Int→Int→Int→Int→List Int→List (S83)→Option (Int×Int×Int×Int×Bool×(List (S95))×List Int×Int×Int×Int×Int×List Int×(List (S83))×Bool)
 | 0,_,_,_,_,_,_,_,_,_,_,_,_,_,_=>none
 | k+1,x12,z00,z01,z02,z03,z04,z05,z06,z07,z08,z09,z10,z11,z12=>if x12=true then (some (0,0,0,0,false,([]:List (S95)),([]:List Int),0,0,0,0,([]:List Int),([]:List (S83)),false)) else (if z02=8 then ((impl_shallower.f k z00 z01 z02 z03 z04 z05 z06 z07 z08 z09 z10 z11 z12 4 17).bind fun bt520=>(some (bt520.1,bt520.2.1,bt520.2.2.1,bt520.2.2.2.1,bt520.2.2.2.2.1,bt520.2.2.2.2.2.1,bt520.2.2.2.2.2.2.1,bt520.2.2.2.2.2.2.2.1,bt520.2.2.2.2.2.2.2.2.1,bt520.2.2.2.2.2.2.2.2.2.1,bt520.2.2.2.2.2.2.2.2.2.2.1,bt520.2.2.2.2.2.2.2.2.2.2.2.1,bt520.2.2.2.2.2.2.2.2.2.2.2.2.1,bt520.2.2.2.2.2.2.2.2.2.2.2.2.2))) else (if z02=4 then ((impl_shallower.f k z00 z01 z02 z03 z04 z05 z06 z07 z08 z09 z10 z11 z12 2 5).bind fun bt542=>(some (bt542.1,bt542.2.1,bt542.2.2.1,bt542.2.2.2.1,bt542.2.2.2.2.1,bt542.2.2.2.2.2.1,bt542.2.2.2.2.2.2.1,bt542.2.2.2.2.2.2.2.1,bt542.2.2.2.2.2.2.2.2.1,bt542.2.2.2.2.2.2.2.2.2.1,bt542.2.2.2.2.2.2.2.2.2.2.1,bt542.2.2.2.2.2.2.2.2.2.2.2.1,bt542.2.2.2.2.2.2.2.2.2.2.2.2.1,bt542.2.2.2.2.2.2.2.2.2.2.2.2.2))) else (if z02=2 then ((impl_shallower.f k z00 z01 z02 z03 z04 z05 z06 z07 z08 z09 z10 z11 z12 1 3).bind fun bt564=>(some (bt564.1,bt564.2.1,bt564.2.2.1,bt564.2.2.2.1,bt564.2.2.2.2.1,bt564.2.2.2.2.2.1,bt564.2.2.2.2.2.2.1,bt564.2.2.2.2.2.2.2.1,bt564.2.2.2.2.2.2.2.2.1,bt564.2.2.2.2.2.2.2.2.2.1,bt564.2.2.2.2.2.2.2.2.2.2.1,bt564.2.2.2.2.2.2.2.2.2.2.2.1,bt564.2.2.2.2.2.2.2.2.2.2.2.2.1,bt564.2.2.2.2.2.2.2.2.2.2.2.2.2))) else (some (0,0,0,0,false,([]:List (S95)),([]:List Int),0,0,0,0,([]:List Int),([]:List (S83)),false)))))
def impl_LessGray.f (k:Nat) (a0_0:Int) (a0_1:Int) (a0_2:Int) (a0_3:Int) (a0_4:Bool) (l0_5:List (S95)) (l0_6:List Int) (a0_7:Int) (a0_8:Int) (a0_9:Int) (a0_10:Int) (l0_11:List Int) (l0_12:List (S83)):Option (Int×Int×Int×Int×Bool×(List (S95))×List Int×Int×Int×Int×Int×List Int×(List (S83))×Bool):=(impl_mayTurn.f k a0_0 a0_1 a0_2 a0_3 a0_4 l0_5 l0_6 a0_7 a0_8 a0_9 a0_10 l0_11 l0_12).bind fun t519=>(if t519=true then (impl_LessGray.j0 k (a0_3 != 0) a0_0 a0_1 a0_2 a0_3 a0_4 l0_5 l0_6 a0_7 a0_8 a0_9 a0_10 l0_11 l0_12) else (impl_LessGray.j0 k true a0_0 a0_1 a0_2 a0_3 a0_4 l0_5 l0_6 a0_7 a0_8 a0_9 a0_10 l0_11 l0_12))
theorem impl_LessGray.mono_l:∀ k,(∀ y0 y1 y2 y3 y4 y5 y6 y7 y8 y9 y10 y11 y12 y13,LeO (impl_LessGray.j0 k y0 y1 y2 y3 y4 y5 y6 y7 y8 y9 y10 y11 y12 y13) (impl_LessGray.j0 (k+1) y0 y1 y2 y3 y4 y5 y6 y7 y8 y9 y10 y11 y12 y13))
 | 0=>fun _ _ _ _ _ _ _ _ _ _ _ _ _ _ r h=>by simp [impl_LessGray.j0] at h
 | k+1=>by
  have ih0:=impl_LessGray.mono_l k
  ·intro y0 y1 y2 y3 y4 y5 y6 y7 y8 y9 y10 y11 y12 y13
   unfold impl_LessGray.j0
   repeat' first
   | (with_reducible exact ih0 _ _ _ _ _ _ _ _ _ _ _ _ _ _)
   | (with_reducible exact impl_mayTurn.mono _ _ _ _ _ _ _ _ _ _ _ _ _ _)
   | (with_reducible exact impl_shallower.mono _ _ _ _ _ _ _ _ _ _ _ _ _ _ _ _)
   | (with_reducible exact LeO.refl _)
   | (with_reducible exact LeO.none _)
   | (with_reducible refine LeO.ite ?_ ?_)
   | (with_reducible refine LeO.bind ?_ (fun _=>?_))
   | exact ih0 _ _ _ _ _ _ _ _ _ _ _ _ _ _
   | exact impl_mayTurn.mono _ _ _ _ _ _ _ _ _ _ _ _ _ _
   | exact impl_shallower.mono _ _ _ _ _ _ _ _ _ _ _ _ _ _ _ _
   | exact LeO.none _
   | refine LeO.ite ?_ ?_
   | refine LeO.bind ?_ (fun _=>?_)
theorem impl_LessGray.mono:∀ a0 a1 a2 a3 a4 a5 a6 a7 a8 a9 a10 a11 a12 k,LeO (impl_LessGray.f k a0 a1 a2 a3 a4 a5 a6 a7 a8 a9 a10 a11 a12) (impl_LessGray.f (k+1) a0 a1 a2 a3 a4 a5 a6 a7 a8 a9 a10 a11 a12):=by
 intro a0 a1 a2 a3 a4 a5 a6 a7 a8 a9 a10 a11 a12 k
 have ih0:=impl_LessGray.mono_l k
 unfold impl_LessGray.f
 repeat' first
   | (with_reducible exact ih0 _ _ _ _ _ _ _ _ _ _ _ _ _ _)
   | (with_reducible exact impl_mayTurn.mono _ _ _ _ _ _ _ _ _ _ _ _ _ _)
   | (with_reducible exact impl_shallower.mono _ _ _ _ _ _ _ _ _ _ _ _ _ _ _ _)
   | (with_reducible exact LeO.refl _)
   | (with_reducible exact LeO.none _)
   | (with_reducible refine LeO.ite ?_ ?_)
   | (with_reducible refine LeO.bind ?_ (fun _=>?_))
   | exact ih0 _ _ _ _ _ _ _ _ _ _ _ _ _ _
   | exact impl_mayTurn.mono _ _ _ _ _ _ _ _ _ _ _ _ _ _
   | exact impl_shallower.mono _ _ _ _ _ _ _ _ _ _ _ _ _ _ _ _
   | exact LeO.none _
   | refine LeO.ite ?_ ?_
   | refine LeO.bind ?_ (fun _=>?_)
theorem impl_LessGray.calls (k:Nat) (a0_0:Int) (a0_1:Int) (a0_2:Int) (a0_3:Int) (a0_4:Bool) (A0_5:Option Addr) (c0_5:Nat) (l0_5:List (S95)) (A0_6:Option Addr) (c0_6:Nat) (l0_6:List Int) (a0_7:Int) (a0_8:Int) (a0_9:Int) (a0_10:Int) (A0_11:Option Addr) (c0_11:Nat) (l0_11:List Int) (A0_12:Option Addr) (c0_12:Nat) (l0_12:List (S83)) (r1:Int) (r2:Int) (r3:Int) (r4:Int) (r5:Bool) (r6:List (S95)) (r7:List Int) (r8:Int) (r9:Int) (r10:Int) (r11:Int) (r12:List Int) (r13:List (S83)) (r14:Bool) (w:World) (hr0_5:Kd.C k95 w A0_5 l0_5.length l0_5) (hc0_5:l0_5.length≤c0_5) (hr0_6:Kd.C (Kd.int .i64) w A0_6 l0_6.length l0_6) (hc0_6:l0_6.length≤c0_6) (hr0_11:Kd.C (Kd.int .i64) w A0_11 l0_11.length l0_11) (hc0_11:l0_11.length≤c0_11) (hr0_12:Kd.C k83 w A0_12 l0_12.length l0_12) (hc0_12:l0_12.length≤c0_12) (h:impl_LessGray.f k a0_0 a0_1 a0_2 a0_3 a0_4 l0_5 l0_6 a0_7 a0_8 a0_9 a0_10 l0_11 l0_12=some (r1,r2,r3,r4,r5,r6,r7,r8,r9,r10,r11,r12,r13,r14)):
  Calls Try.prog 17 #[.agg #[.int .i64 a0_0,.int .i64 a0_1,.int .i64 a0_2,.int .i64 a0_3,.bool a0_4,.slice A0_5 l0_5.length c0_5,.slice A0_6 l0_6.length c0_6,.int .i64 a0_7,.int .i64 a0_8,.int .i64 a0_9,.int .i64 a0_10,.slice A0_11 l0_11.length c0_11,.slice A0_12 l0_12.length c0_12]] w fun e w'=>∃ v5_ v6_ v11_ v12_:Value,e=.returned (.tuple #[.agg #[.int .i64 r1,.int .i64 r2,.int .i64 r3,.int .i64 r4,.bool r5,v5_,v6_,.int .i64 r8,.int .i64 r9,.int .i64 r10,.int .i64 r11,v11_,v12_],.bool r14])∧Kd.R k95 95 w' w.heap.size (fun _=>True) v5_ r6∧Kd.R (Kd.int .i64) 3 w' w.heap.size (fun k_=>some k_≠(v11_:Value).ownBlock) v6_ r7∧Kd.R (Kd.int .i64) 3 w' w.heap.size (fun k_=>some k_≠(v6_:Value).ownBlock) v11_ r12∧Kd.R k83 83 w' w.heap.size (fun _=>True) v12_ r13∧Below w.heap.size w w':=by
 have hu37:=Try.underlying37
 have HR0_5:=Aside0.mk hr0_5
 have HC0_5:=Aside0.mk hc0_5
 clear hr0_5 hc0_5
 have HR0_6:=Aside0.mk hr0_6
 have HC0_6:=Aside0.mk hc0_6
 clear hr0_6 hc0_6
 have HR0_11:=Aside0.mk hr0_11
 have HC0_11:=Aside0.mk hc0_11
 clear hr0_11 hc0_11
 have HR0_12:=Aside0.mk hr0_12
 have HC0_12:=Aside0.mk hc0_12
 clear hr0_12 hc0_12
 have HB:=Aside0.mk (Below.refl w.heap.size w)
 have H:((impl_mayTurn.f k a0_0 a0_1 a0_2 a0_3 a0_4 l0_5 l0_6 a0_7 a0_8 a0_9 a0_10 l0_11 l0_12).bind fun t519=>(if t519=true then (impl_LessGray.j0 k (a0_3 != 0) a0_0 a0_1 a0_2 a0_3 a0_4 l0_5 l0_6 a0_7 a0_8 a0_9 a0_10 l0_11 l0_12) else (impl_LessGray.j0 k true a0_0 a0_1 a0_2 a0_3 a0_4 l0_5 l0_6 a0_7 a0_8 a0_9 a0_10 l0_11 l0_12)))=some (r1,r2,r3,r4,r5,r6,r7,r8,r9,r10,r11,r12,r13,r14):=h
 clear h
 have HC2:=Aside0.mk H
 clear H
 go_enter Try.func17,Try.ntmps17
 go_upto_region 1 with (first|((with_reducible refine gate_dst (N:=1) rfl ?_);refine boxE 1 (#[.int .i64 a0_0,.int .i64 a0_1,.int .i64 a0_2,.int .i64 a0_3,.bool a0_4,.slice A0_5 l0_5.length c0_5,.slice A0_6 l0_6.length c0_6,.int .i64 a0_7,.int .i64 a0_8,.int .i64 a0_9,.int .i64 a0_10,.slice A0_11 l0_11.length c0_11,.slice A0_12 l0_12.length c0_12]) 37 ?_;intro gb517 hg w3 hbox hb;have BK517:=Aside0.mk hbox;have GW517:=(gwH (w:=w) hg);have GE517:=(gwH (w:=w) hg);replace HB:=Aside0.mk (below_step bH hb);clear hb hbox hg)|((with_reducible refine gate_dst (N:=2) rfl ?_);refine boxE 2 (#[.int .i64 0,.int .i64 0,.int .i64 0,.int .i64 0,.bool false,.slice none 0 0,.slice none 0 0,.int .i64 0,.int .i64 0,.int .i64 0,.int .i64 0,.slice none 0 0,.slice none 0 0]) 37 ?_;intro gb518 hg w4 hbox hb;have n0_:=Aside0.mk (bkb BK517 hb);have n1_:=Aside0.mk (below_step bG hb);have n2_:=Aside0.mk hbox;have n3_:=(gwG (w:=w) hg);have n4_:=(gwG (w:=w) hg);have n5_:=(nbl BK517 hg);have n6_:=(nbg BK517 hg);clear BK517;clear HB;have BK517:=n0_;have HB:=n1_;have BK518:=n2_;have GW518:=n3_;have GE518:=n4_;have NB517_518:=n5_;have NB518_517:=n6_;clear n0_ n1_ n2_ n3_ n4_ n5_ n6_;clear hb hbox hg))
 (try simp only [Act.put,sA,sZ,sC])
 go_cut [12] (fun v12 wc=>∃ (kq:Nat) (x12_1:Bool),v12=.bool x12_1∧Aside0 (impl_LessGray.j0 kq x12_1 a0_0 a0_1 a0_2 a0_3 a0_4 l0_5 l0_6 a0_7 a0_8 a0_9 a0_10 l0_11 l0_12=some (r1,r2,r3,r4,r5,r6,r7,r8,r9,r10,r11,r12,r13,r14))∧Aside0 (kq≤k)∧Aside0 (wc.heap[gb517]?=some (.cells #[.int .i64 a0_0,.int .i64 a0_1,.int .i64 a0_2,.int .i64 a0_3,.bool a0_4,(.slice A0_5 l0_5.length c0_5),(.slice A0_6 l0_6.length c0_6),.int .i64 a0_7,.int .i64 a0_8,.int .i64 a0_9,.int .i64 a0_10,(.slice A0_11 l0_11.length c0_11),(.slice A0_12 l0_12.length c0_12)] 37 (0,0)))∧Aside0 (wc.heap[gb518]?=some (.cells #[.int .i64 0,.int .i64 0,.int .i64 0,.int .i64 0,.bool false,(.slice none 0 0),(.slice none 0 0),.int .i64 0,.int .i64 0,.int .i64 0,.int .i64 0,(.slice none 0 0),(.slice none 0 0)] 37 (0,0)))∧Aside0 (Below w.heap.size w wc))
 case first =>
  have H:=HC2.out
  clear HC2
  replace H:=Option.bind_eq_some_iff.mp H
  obtain ⟨t519,A50,H⟩:=H
  replace H:(if t519=true then (impl_LessGray.j0 k (a0_3 != 0) a0_0 a0_1 a0_2 a0_3 a0_4 l0_5 l0_6 a0_7 a0_8 a0_9 a0_10 l0_11 l0_12) else (impl_LessGray.j0 k true a0_0 a0_1 a0_2 a0_3 a0_4 l0_5 l0_6 a0_7 a0_8 a0_9 a0_10 l0_11 l0_12))=some (r1,r2,r3,r4,r5,r6,r7,r8,r9,r10,r11,r12,r13,r14):=H
  have A5:=Aside0.mk A50
  clear A50
  by_cases c6:t519=true
  ·subst c6
   have H1:(impl_LessGray.j0 k (a0_3 != 0) a0_0 a0_1 a0_2 a0_3 a0_4 l0_5 l0_6 a0_7 a0_8 a0_9 a0_10 l0_11 l0_12)=some (r1,r2,r3,r4,r5,r6,r7,r8,r9,r10,r11,r12,r13,r14):=by rw [if_pos rfl] at H;exact H
   clear H
   have H:=H1
   clear H1
   have H':=Aside0.mk H
   clear H
   have hnb7:=NB517_518.out
   have hnc7:=NB518_517.out
   obtain ⟨z8_0,z8_1,z8_2,z8_3,z8_4,z8_5,z8_6,z8_7,z8_8,z8_9,z8_10,z8_11,z8_12,y8_0,y8_1,y8_2,y8_3,y8_4,y8_5,y8_6,y8_7,y8_8,y8_9,y8_10,y8_11,y8_12⟩:=blk13f BK517
   go_wp2_with (first|((with_reducible refine gate_callee (f:=45) rfl ?_);refine gL (some 5) Try.func45 #[.agg #[.int .i64 a0_0,.int .i64 a0_1,.int .i64 a0_2,.int .i64 a0_3,.bool a0_4,.slice A0_5 l0_5.length c0_5,.slice A0_6 l0_6.length c0_6,.int .i64 a0_7,.int .i64 a0_8,.int .i64 a0_9,.int .i64 a0_10,.slice A0_11 l0_11.length c0_11,.slice A0_12 l0_12.length c0_12]] ?_;(with_reducible refine (impl_mayTurn.calls k a0_0 a0_1 a0_2 a0_3 a0_4 _ _ l0_5 _ _ l0_6 a0_7 a0_8 a0_9 a0_10 _ _ l0_11 _ _ l0_12 true _ (cB HR0_5) HC0_5.out (cB HR0_6) HC0_6.out (cB HR0_11) HC0_11.out (cB HR0_12) HC0_12.out A5.out).mono ?_);rintro e w9 ⟨rfl,hb⟩;refine ⟨_,rfl,?_⟩;replace BK517:=Aside0.mk (bkb BK517 hb);replace BK518:=Aside0.mk (bkb BK518 hb);replace HB:=Aside0.mk (below_step bG hb);(try clear hb);obtain ⟨z10_0,z10_1,z10_2,z10_3,z10_4,z10_5,z10_6,z10_7,z10_8,z10_9,z10_10,z10_11,z10_12,y10_0,y10_1,y10_2,y10_3,y10_4,y10_5,y10_6,y10_7,y10_8,y10_9,y10_10,y10_11,y10_12⟩:=blk13f BK517))
   go_meet
   case rel=>exact ⟨_,((a0_3 != 0)),fS,H',⟨by first|omega|exact Nat.le_refl _⟩,⟨by (with_reducible repeat (first|refine blk_drewN ?_ _|refine blk_drew ?_|refine blk_alloc ?_ _));exact BK517.out⟩,⟨by (with_reducible repeat (first|refine blk_drewN ?_ _|refine blk_drew ?_|refine blk_alloc ?_ _));exact BK518.out⟩,⟨bG⟩⟩
  ·obtain rfl:=bF c6
   have H1:(impl_LessGray.j0 k true a0_0 a0_1 a0_2 a0_3 a0_4 l0_5 l0_6 a0_7 a0_8 a0_9 a0_10 l0_11 l0_12)=some (r1,r2,r3,r4,r5,r6,r7,r8,r9,r10,r11,r12,r13,r14):=by rw [if_neg nF] at H;exact H
   clear H
   have H:=H1
   clear H1
   have H':=Aside0.mk H
   clear H
   have hnb11:=NB517_518.out
   have hnc11:=NB518_517.out
   obtain ⟨z12_0,z12_1,z12_2,z12_3,z12_4,z12_5,z12_6,z12_7,z12_8,z12_9,z12_10,z12_11,z12_12,y12_0,y12_1,y12_2,y12_3,y12_4,y12_5,y12_6,y12_7,y12_8,y12_9,y12_10,y12_11,y12_12⟩:=blk13f BK517
   go_wp2_with (first|((with_reducible refine gate_callee (f:=45) rfl ?_);refine gL (some 5) Try.func45 #[.agg #[.int .i64 a0_0,.int .i64 a0_1,.int .i64 a0_2,.int .i64 a0_3,.bool a0_4,.slice A0_5 l0_5.length c0_5,.slice A0_6 l0_6.length c0_6,.int .i64 a0_7,.int .i64 a0_8,.int .i64 a0_9,.int .i64 a0_10,.slice A0_11 l0_11.length c0_11,.slice A0_12 l0_12.length c0_12]] ?_;(with_reducible refine (impl_mayTurn.calls k a0_0 a0_1 a0_2 a0_3 a0_4 _ _ l0_5 _ _ l0_6 a0_7 a0_8 a0_9 a0_10 _ _ l0_11 _ _ l0_12 false _ (cB HR0_5) HC0_5.out (cB HR0_6) HC0_6.out (cB HR0_11) HC0_11.out (cB HR0_12) HC0_12.out A5.out).mono ?_);rintro e w13 ⟨rfl,hb⟩;refine ⟨_,rfl,?_⟩;replace BK517:=Aside0.mk (bkb BK517 hb);replace BK518:=Aside0.mk (bkb BK518 hb);replace HB:=Aside0.mk (below_step bG hb);(try clear hb)))
   go_meet
   case rel=>exact ⟨_,(true),fS,H',⟨by first|omega|exact Nat.le_refl _⟩,⟨by (with_reducible repeat (first|refine blk_drewN ?_ _|refine blk_drew ?_|refine blk_alloc ?_ _));exact BK517.out⟩,⟨by (with_reducible repeat (first|refine blk_drewN ?_ _|refine blk_drew ?_|refine blk_alloc ?_ _));exact BK518.out⟩,⟨bG⟩⟩
 case rest =>
  clear HC2
  obtain ⟨kq,x12_1,rfl,HA,HJ1,BK517,BK518,HB⟩:=hcut
  cases kq with
  | zero=>exact absurd HA.out (by simp [impl_LessGray.j0])
  | succ kj1 =>
   have H:=HA.out
   clear HA
   simp only [impl_LessGray.j0] at H
   by_cases c14:x12_1=true
   ·subst c14
    have H1:(some (0,0,0,0,false,([]:List (S95)),([]:List Int),0,0,0,0,([]:List Int),([]:List (S83)),false))=some (r1,r2,r3,r4,r5,r6,r7,r8,r9,r10,r11,r12,r13,r14):=by rw [if_pos rfl] at H;exact H
    clear H
    have H:=H1
    clear H1
    simp only [Option.some.injEq,Prod.mk.injEq] at H
    obtain ⟨rfl,rfl,rfl,rfl,rfl,rfl,rfl,rfl,rfl,rfl,rfl,rfl,rfl,rfl⟩:=H
    have hnb15:=NB518_517.out
    have hnc15:=NB517_518.out
    obtain ⟨z16_0,z16_1,z16_2,z16_3,z16_4,z16_5,z16_6,z16_7,z16_8,z16_9,z16_10,z16_11,z16_12,y16_0,y16_1,y16_2,y16_3,y16_4,y16_5,y16_6,y16_7,y16_8,y16_9,y16_10,y16_11,y16_12⟩:=blk13f BK518
    go_wp2
    refine bodyPost_ret (results_ct rfl _ _ gb518 37 #[.int .i64 0,.int .i64 0,.int .i64 0,.int .i64 0,.bool false,.slice none 0 0,.slice none 0 0,.int .i64 0,.int .i64 0,.int .i64 0,.int .i64 0,.slice none 0 0,.slice none 0 0] (0,0) _ rfl (by refine bP (cs:=?_) ?_ 12 ?_;rotate_left;refine bP (cs:=?_) ?_ 11 ?_;rotate_left;refine bP (cs:=?_) ?_ 10 ?_;rotate_left;refine bP (cs:=?_) ?_ 9 ?_;rotate_left;refine bP (cs:=?_) ?_ 8 ?_;rotate_left;refine bP (cs:=?_) ?_ 7 ?_;rotate_left;refine bP (cs:=?_) ?_ 6 ?_;rotate_left;refine bP (cs:=?_) ?_ 5 ?_;rotate_left;refine bP (cs:=?_) ?_ 4 ?_;rotate_left;refine bP (cs:=?_) ?_ 3 ?_;rotate_left;refine bP (cs:=?_) ?_ 2 ?_;rotate_left;refine bP (cs:=?_) ?_ 1 ?_;rotate_left;refine bP (cs:=?_) ?_ 0 ?_;rotate_left;exact BK518.out;all_goals ((try simp only [sA,sZ,sC]);first|done|rfl)) Try.underlying37 rfl (by kernel_rfl)) rfl ?_
    exact ⟨_,_,_,_,fE,by first|exact Kd.R_nil _ _ _ _ _|exact Kd.N_nil _ _ _ _ _|exact Kd.V_nil _ _ _ _ _|exact Kd.Q_nil _ _ _ _ _|exact Kd.S_nil _ _ _ _ _,by first|exact Kd.R_nil _ _ _ _ _|exact Kd.N_nil _ _ _ _ _|exact Kd.V_nil _ _ _ _ _|exact Kd.Q_nil _ _ _ _ _|exact Kd.S_nil _ _ _ _ _,by first|exact Kd.R_nil _ _ _ _ _|exact Kd.N_nil _ _ _ _ _|exact Kd.V_nil _ _ _ _ _|exact Kd.Q_nil _ _ _ _ _|exact Kd.S_nil _ _ _ _ _,by first|exact Kd.R_nil _ _ _ _ _|exact Kd.N_nil _ _ _ _ _|exact Kd.V_nil _ _ _ _ _|exact Kd.Q_nil _ _ _ _ _|exact Kd.S_nil _ _ _ _ _,bG⟩
   ·obtain rfl:=bF c14
    have H1:(if a0_2=8 then ((impl_shallower.f kj1 a0_0 a0_1 a0_2 a0_3 a0_4 l0_5 l0_6 a0_7 a0_8 a0_9 a0_10 l0_11 l0_12 4 17).bind fun bt520=>(some (bt520.1,bt520.2.1,bt520.2.2.1,bt520.2.2.2.1,bt520.2.2.2.2.1,bt520.2.2.2.2.2.1,bt520.2.2.2.2.2.2.1,bt520.2.2.2.2.2.2.2.1,bt520.2.2.2.2.2.2.2.2.1,bt520.2.2.2.2.2.2.2.2.2.1,bt520.2.2.2.2.2.2.2.2.2.2.1,bt520.2.2.2.2.2.2.2.2.2.2.2.1,bt520.2.2.2.2.2.2.2.2.2.2.2.2.1,bt520.2.2.2.2.2.2.2.2.2.2.2.2.2))) else (if a0_2=4 then ((impl_shallower.f kj1 a0_0 a0_1 a0_2 a0_3 a0_4 l0_5 l0_6 a0_7 a0_8 a0_9 a0_10 l0_11 l0_12 2 5).bind fun bt542=>(some (bt542.1,bt542.2.1,bt542.2.2.1,bt542.2.2.2.1,bt542.2.2.2.2.1,bt542.2.2.2.2.2.1,bt542.2.2.2.2.2.2.1,bt542.2.2.2.2.2.2.2.1,bt542.2.2.2.2.2.2.2.2.1,bt542.2.2.2.2.2.2.2.2.2.1,bt542.2.2.2.2.2.2.2.2.2.2.1,bt542.2.2.2.2.2.2.2.2.2.2.2.1,bt542.2.2.2.2.2.2.2.2.2.2.2.2.1,bt542.2.2.2.2.2.2.2.2.2.2.2.2.2))) else (if a0_2=2 then ((impl_shallower.f kj1 a0_0 a0_1 a0_2 a0_3 a0_4 l0_5 l0_6 a0_7 a0_8 a0_9 a0_10 l0_11 l0_12 1 3).bind fun bt564=>(some (bt564.1,bt564.2.1,bt564.2.2.1,bt564.2.2.2.1,bt564.2.2.2.2.1,bt564.2.2.2.2.2.1,bt564.2.2.2.2.2.2.1,bt564.2.2.2.2.2.2.2.1,bt564.2.2.2.2.2.2.2.2.1,bt564.2.2.2.2.2.2.2.2.2.1,bt564.2.2.2.2.2.2.2.2.2.2.1,bt564.2.2.2.2.2.2.2.2.2.2.2.1,bt564.2.2.2.2.2.2.2.2.2.2.2.2.1,bt564.2.2.2.2.2.2.2.2.2.2.2.2.2))) else (some (0,0,0,0,false,([]:List (S95)),([]:List Int),0,0,0,0,([]:List Int),([]:List (S83)),false)))))=some (r1,r2,r3,r4,r5,r6,r7,r8,r9,r10,r11,r12,r13,r14):=by rw [if_neg nF] at H;exact H
    clear H
    have H:=H1
    clear H1
    by_cases c17:a0_2=8
    ·rw [if_pos c17] at H
     have c17b0:(a0_2 == 8)=true:=beq_iff_eq.mpr c17
     have c17b1:(a0_2 != 8)=false:=bne_eq_false_iff_eq.mpr c17
     clear c17
     replace H:=Option.bind_eq_some_iff.mp H
     obtain ⟨⟨t520,t521,t522,t523,t524,t525,t528,t531,t532,t533,t534,t535,t538,t541⟩,A180,H⟩:=H
     replace H:(some (t520,t521,t522,t523,t524,t525,t528,t531,t532,t533,t534,t535,t538,t541))=some (r1,r2,r3,r4,r5,r6,r7,r8,r9,r10,r11,r12,r13,r14):=H
     have A18:=Aside0.mk A180
     clear A180
     simp only [Option.some.injEq,Prod.mk.injEq] at H
     obtain ⟨rfl,rfl,rfl,rfl,rfl,rfl,rfl,rfl,rfl,rfl,rfl,rfl,rfl,rfl⟩:=H
     have hnb19:=NB517_518.out
     have hnc19:=NB518_517.out
     obtain ⟨z20_0,z20_1,z20_2,z20_3,z20_4,z20_5,z20_6,z20_7,z20_8,z20_9,z20_10,z20_11,z20_12,y20_0,y20_1,y20_2,y20_3,y20_4,y20_5,y20_6,y20_7,y20_8,y20_9,y20_10,y20_11,y20_12⟩:=blk13f BK517
     go_wp2_with (first|((with_reducible refine gate_callee (f:=46) rfl ?_);refine gL (some 20) Try.func46 #[.agg #[.int .i64 a0_0,.int .i64 a0_1,.int .i64 a0_2,.int .i64 a0_3,.bool a0_4,.slice A0_5 l0_5.length c0_5,.slice A0_6 l0_6.length c0_6,.int .i64 a0_7,.int .i64 a0_8,.int .i64 a0_9,.int .i64 a0_10,.slice A0_11 l0_11.length c0_11,.slice A0_12 l0_12.length c0_12],.int .i64 4,.int .i64 17] ?_;(with_reducible refine (impl_shallower.calls kj1 a0_0 a0_1 a0_2 a0_3 a0_4 _ _ l0_5 _ _ l0_6 a0_7 a0_8 a0_9 a0_10 _ _ l0_11 _ _ l0_12 4 17 t520 t521 t522 t523 t524 t525 t528 t531 t532 t533 t534 t535 t538 t541 _ (cB HR0_5) HC0_5.out (cB HR0_6) HC0_6.out (cB HR0_11) HC0_11.out (cB HR0_12) HC0_12.out A18.out).mono ?_);rintro e w21 ⟨v526,v529,v536,v539,rfl,ho0,ho1,ho2,ho3,hb⟩;refine ⟨_,rfl,?_⟩;have HO527:=Aside0.mk (Kd.R_lower ho0 (below_size bG));have HO530:=Aside0.mk (Kd.R_lower ho1 (below_size bG));have HO537:=Aside0.mk (Kd.R_lower ho2 (below_size bG));have HO540:=Aside0.mk (Kd.R_lower ho3 (below_size bG));replace BK517:=Aside0.mk (bkb BK517 hb);replace BK518:=Aside0.mk (bkb BK518 hb);replace HB:=Aside0.mk (below_step bG hb);(try clear hb);(try clear ho0);(try clear ho1);(try clear ho2);(try clear ho3);obtain ⟨z22_0,z22_1,z22_2,z22_3,z22_4,z22_5,z22_6,z22_7,z22_8,z22_9,z22_10,z22_11,z22_12,y22_0,y22_1,y22_2,y22_3,y22_4,y22_5,y22_6,y22_7,y22_8,y22_9,y22_10,y22_11,y22_12⟩:=blk13f BK518;obtain ⟨Ao23,co23,eo23⟩:=Kd.R_slice HO527.out;subst eo23;obtain ⟨Ao24,co24,eo24⟩:=Kd.R_slice HO530.out;subst eo24;obtain ⟨Ao25,co25,eo25⟩:=Kd.R_slice HO537.out;subst eo25;obtain ⟨Ao26,co26,eo26⟩:=Kd.R_slice HO540.out;subst eo26))
     refine bodyPost_ret (results_ct rfl _ _ gb518 37 #[.int .i64 t520,.int .i64 t521,.int .i64 t522,.int .i64 t523,.bool t524,.slice Ao23 t525.length co23,.slice Ao24 t528.length co24,.int .i64 t531,.int .i64 t532,.int .i64 t533,.int .i64 t534,.slice Ao25 t535.length co25,.slice Ao26 t538.length co26] (0,0) _ rfl (by refine bP (cs:=?_) ?_ 12 ?_;rotate_left;refine bP (cs:=?_) ?_ 11 ?_;rotate_left;refine bP (cs:=?_) ?_ 10 ?_;rotate_left;refine bP (cs:=?_) ?_ 9 ?_;rotate_left;refine bP (cs:=?_) ?_ 8 ?_;rotate_left;refine bP (cs:=?_) ?_ 7 ?_;rotate_left;refine bP (cs:=?_) ?_ 6 ?_;rotate_left;refine bP (cs:=?_) ?_ 5 ?_;rotate_left;refine bP (cs:=?_) ?_ 4 ?_;rotate_left;refine bP (cs:=?_) ?_ 3 ?_;rotate_left;refine bP (cs:=?_) ?_ 2 ?_;rotate_left;refine bP (cs:=?_) ?_ 1 ?_;rotate_left;refine bP (cs:=?_) ?_ 0 ?_;rotate_left;exact BK518.out;all_goals ((try simp only [sA,sZ,sC]);first|done|rfl)) Try.underlying37 rfl (by kernel_rfl)) rfl ?_
     exact ⟨_,_,_,_,fE,by (with_reducible repeat (first|apply Kd.R_alloc|apply Kd.R_drewN|apply Kd.R_drew));exact Kd.R_mono (rf (rf (rf (rf (rf (rf (rf (rf (rf (rf (rf (rf (rf (Kd.R_types HO527.out BK518.out (by decide))))))))))))))) (fun _ hk=>trivial),by (with_reducible repeat (first|apply Kd.R_alloc|apply Kd.R_drewN|apply Kd.R_drew));exact Kd.R_mono (rf (rf (rf (rf (rf (rf (rf (rf (rf (rf (rf (rf (rf (Kd.R_types HO530.out BK518.out (by decide))))))))))))))) (fun _ hk=>hk.1),by (with_reducible repeat (first|apply Kd.R_alloc|apply Kd.R_drewN|apply Kd.R_drew));exact Kd.R_mono (rf (rf (rf (rf (rf (rf (rf (rf (rf (rf (rf (rf (rf (Kd.R_types HO537.out BK518.out (by decide))))))))))))))) (fun _ hk=>hk.1),by (with_reducible repeat (first|apply Kd.R_alloc|apply Kd.R_drewN|apply Kd.R_drew));exact Kd.R_mono (rf (rf (rf (rf (rf (rf (rf (rf (rf (rf (rf (rf (rf (Kd.R_types HO540.out BK518.out (by decide))))))))))))))) (fun _ hk=>trivial),bG⟩
    ·rw [if_neg c17] at H
     have c17b0:(a0_2 == 8)=false:=beq_eq_false_iff_ne.mpr c17
     have c17b1:(a0_2 != 8)=true:=bne_iff_ne.mpr c17
     by_cases c27:a0_2=4
     ·rw [if_pos c27] at H
      have c27b0:(a0_2 == 4)=true:=beq_iff_eq.mpr c27
      have c27b1:(a0_2 != 4)=false:=bne_eq_false_iff_eq.mpr c27
      clear c27
      replace H:=Option.bind_eq_some_iff.mp H
      obtain ⟨⟨t542,t543,t544,t545,t546,t547,t550,t553,t554,t555,t556,t557,t560,t563⟩,A280,H⟩:=H
      replace H:(some (t542,t543,t544,t545,t546,t547,t550,t553,t554,t555,t556,t557,t560,t563))=some (r1,r2,r3,r4,r5,r6,r7,r8,r9,r10,r11,r12,r13,r14):=H
      have A28:=Aside0.mk A280
      clear A280
      simp only [Option.some.injEq,Prod.mk.injEq] at H
      obtain ⟨rfl,rfl,rfl,rfl,rfl,rfl,rfl,rfl,rfl,rfl,rfl,rfl,rfl,rfl⟩:=H
      have hnb29:=NB517_518.out
      have hnc29:=NB518_517.out
      obtain ⟨z30_0,z30_1,z30_2,z30_3,z30_4,z30_5,z30_6,z30_7,z30_8,z30_9,z30_10,z30_11,z30_12,y30_0,y30_1,y30_2,y30_3,y30_4,y30_5,y30_6,y30_7,y30_8,y30_9,y30_10,y30_11,y30_12⟩:=blk13f BK517
      go_wp2_with (first|((with_reducible refine gate_callee (f:=46) rfl ?_);refine gL (some 26) Try.func46 #[.agg #[.int .i64 a0_0,.int .i64 a0_1,.int .i64 a0_2,.int .i64 a0_3,.bool a0_4,.slice A0_5 l0_5.length c0_5,.slice A0_6 l0_6.length c0_6,.int .i64 a0_7,.int .i64 a0_8,.int .i64 a0_9,.int .i64 a0_10,.slice A0_11 l0_11.length c0_11,.slice A0_12 l0_12.length c0_12],.int .i64 2,.int .i64 5] ?_;(with_reducible refine (impl_shallower.calls kj1 a0_0 a0_1 a0_2 a0_3 a0_4 _ _ l0_5 _ _ l0_6 a0_7 a0_8 a0_9 a0_10 _ _ l0_11 _ _ l0_12 2 5 t542 t543 t544 t545 t546 t547 t550 t553 t554 t555 t556 t557 t560 t563 _ (cB HR0_5) HC0_5.out (cB HR0_6) HC0_6.out (cB HR0_11) HC0_11.out (cB HR0_12) HC0_12.out A28.out).mono ?_);rintro e w31 ⟨v548,v551,v558,v561,rfl,ho0,ho1,ho2,ho3,hb⟩;refine ⟨_,rfl,?_⟩;have HO549:=Aside0.mk (Kd.R_lower ho0 (below_size bG));have HO552:=Aside0.mk (Kd.R_lower ho1 (below_size bG));have HO559:=Aside0.mk (Kd.R_lower ho2 (below_size bG));have HO562:=Aside0.mk (Kd.R_lower ho3 (below_size bG));replace BK517:=Aside0.mk (bkb BK517 hb);replace BK518:=Aside0.mk (bkb BK518 hb);replace HB:=Aside0.mk (below_step bG hb);(try clear hb);(try clear ho0);(try clear ho1);(try clear ho2);(try clear ho3);obtain ⟨z32_0,z32_1,z32_2,z32_3,z32_4,z32_5,z32_6,z32_7,z32_8,z32_9,z32_10,z32_11,z32_12,y32_0,y32_1,y32_2,y32_3,y32_4,y32_5,y32_6,y32_7,y32_8,y32_9,y32_10,y32_11,y32_12⟩:=blk13f BK518;obtain ⟨Ao33,co33,eo33⟩:=Kd.R_slice HO549.out;subst eo33;obtain ⟨Ao34,co34,eo34⟩:=Kd.R_slice HO552.out;subst eo34;obtain ⟨Ao35,co35,eo35⟩:=Kd.R_slice HO559.out;subst eo35;obtain ⟨Ao36,co36,eo36⟩:=Kd.R_slice HO562.out;subst eo36))
      refine bodyPost_ret (results_ct rfl _ _ gb518 37 #[.int .i64 t542,.int .i64 t543,.int .i64 t544,.int .i64 t545,.bool t546,.slice Ao33 t547.length co33,.slice Ao34 t550.length co34,.int .i64 t553,.int .i64 t554,.int .i64 t555,.int .i64 t556,.slice Ao35 t557.length co35,.slice Ao36 t560.length co36] (0,0) _ rfl (by refine bP (cs:=?_) ?_ 12 ?_;rotate_left;refine bP (cs:=?_) ?_ 11 ?_;rotate_left;refine bP (cs:=?_) ?_ 10 ?_;rotate_left;refine bP (cs:=?_) ?_ 9 ?_;rotate_left;refine bP (cs:=?_) ?_ 8 ?_;rotate_left;refine bP (cs:=?_) ?_ 7 ?_;rotate_left;refine bP (cs:=?_) ?_ 6 ?_;rotate_left;refine bP (cs:=?_) ?_ 5 ?_;rotate_left;refine bP (cs:=?_) ?_ 4 ?_;rotate_left;refine bP (cs:=?_) ?_ 3 ?_;rotate_left;refine bP (cs:=?_) ?_ 2 ?_;rotate_left;refine bP (cs:=?_) ?_ 1 ?_;rotate_left;refine bP (cs:=?_) ?_ 0 ?_;rotate_left;exact BK518.out;all_goals ((try simp only [sA,sZ,sC]);first|done|rfl)) Try.underlying37 rfl (by kernel_rfl)) rfl ?_
      exact ⟨_,_,_,_,fE,by (with_reducible repeat (first|apply Kd.R_alloc|apply Kd.R_drewN|apply Kd.R_drew));exact Kd.R_mono (rf (rf (rf (rf (rf (rf (rf (rf (rf (rf (rf (rf (rf (Kd.R_types HO549.out BK518.out (by decide))))))))))))))) (fun _ hk=>trivial),by (with_reducible repeat (first|apply Kd.R_alloc|apply Kd.R_drewN|apply Kd.R_drew));exact Kd.R_mono (rf (rf (rf (rf (rf (rf (rf (rf (rf (rf (rf (rf (rf (Kd.R_types HO552.out BK518.out (by decide))))))))))))))) (fun _ hk=>hk.1),by (with_reducible repeat (first|apply Kd.R_alloc|apply Kd.R_drewN|apply Kd.R_drew));exact Kd.R_mono (rf (rf (rf (rf (rf (rf (rf (rf (rf (rf (rf (rf (rf (Kd.R_types HO559.out BK518.out (by decide))))))))))))))) (fun _ hk=>hk.1),by (with_reducible repeat (first|apply Kd.R_alloc|apply Kd.R_drewN|apply Kd.R_drew));exact Kd.R_mono (rf (rf (rf (rf (rf (rf (rf (rf (rf (rf (rf (rf (rf (Kd.R_types HO562.out BK518.out (by decide))))))))))))))) (fun _ hk=>trivial),bG⟩
     ·rw [if_neg c27] at H
      have c27b0:(a0_2 == 4)=false:=beq_eq_false_iff_ne.mpr c27
      have c27b1:(a0_2 != 4)=true:=bne_iff_ne.mpr c27
      by_cases c37:a0_2=2
      ·rw [if_pos c37] at H
       have c37b0:(a0_2 == 2)=true:=beq_iff_eq.mpr c37
       have c37b1:(a0_2 != 2)=false:=bne_eq_false_iff_eq.mpr c37
       clear c37
       replace H:=Option.bind_eq_some_iff.mp H
       obtain ⟨⟨t564,t565,t566,t567,t568,t569,t572,t575,t576,t577,t578,t579,t582,t585⟩,A380,H⟩:=H
       replace H:(some (t564,t565,t566,t567,t568,t569,t572,t575,t576,t577,t578,t579,t582,t585))=some (r1,r2,r3,r4,r5,r6,r7,r8,r9,r10,r11,r12,r13,r14):=H
       have A38:=Aside0.mk A380
       clear A380
       simp only [Option.some.injEq,Prod.mk.injEq] at H
       obtain ⟨rfl,rfl,rfl,rfl,rfl,rfl,rfl,rfl,rfl,rfl,rfl,rfl,rfl,rfl⟩:=H
       have hnb39:=NB517_518.out
       have hnc39:=NB518_517.out
       obtain ⟨z40_0,z40_1,z40_2,z40_3,z40_4,z40_5,z40_6,z40_7,z40_8,z40_9,z40_10,z40_11,z40_12,y40_0,y40_1,y40_2,y40_3,y40_4,y40_5,y40_6,y40_7,y40_8,y40_9,y40_10,y40_11,y40_12⟩:=blk13f BK517
       go_wp2_with (first|((with_reducible refine gate_callee (f:=46) rfl ?_);refine gL (some 32) Try.func46 #[.agg #[.int .i64 a0_0,.int .i64 a0_1,.int .i64 a0_2,.int .i64 a0_3,.bool a0_4,.slice A0_5 l0_5.length c0_5,.slice A0_6 l0_6.length c0_6,.int .i64 a0_7,.int .i64 a0_8,.int .i64 a0_9,.int .i64 a0_10,.slice A0_11 l0_11.length c0_11,.slice A0_12 l0_12.length c0_12],.int .i64 1,.int .i64 3] ?_;(with_reducible refine (impl_shallower.calls kj1 a0_0 a0_1 a0_2 a0_3 a0_4 _ _ l0_5 _ _ l0_6 a0_7 a0_8 a0_9 a0_10 _ _ l0_11 _ _ l0_12 1 3 t564 t565 t566 t567 t568 t569 t572 t575 t576 t577 t578 t579 t582 t585 _ (cB HR0_5) HC0_5.out (cB HR0_6) HC0_6.out (cB HR0_11) HC0_11.out (cB HR0_12) HC0_12.out A38.out).mono ?_);rintro e w41 ⟨v570,v573,v580,v583,rfl,ho0,ho1,ho2,ho3,hb⟩;refine ⟨_,rfl,?_⟩;have HO571:=Aside0.mk (Kd.R_lower ho0 (below_size bG));have HO574:=Aside0.mk (Kd.R_lower ho1 (below_size bG));have HO581:=Aside0.mk (Kd.R_lower ho2 (below_size bG));have HO584:=Aside0.mk (Kd.R_lower ho3 (below_size bG));replace BK517:=Aside0.mk (bkb BK517 hb);replace BK518:=Aside0.mk (bkb BK518 hb);replace HB:=Aside0.mk (below_step bG hb);(try clear hb);(try clear ho0);(try clear ho1);(try clear ho2);(try clear ho3);obtain ⟨z42_0,z42_1,z42_2,z42_3,z42_4,z42_5,z42_6,z42_7,z42_8,z42_9,z42_10,z42_11,z42_12,y42_0,y42_1,y42_2,y42_3,y42_4,y42_5,y42_6,y42_7,y42_8,y42_9,y42_10,y42_11,y42_12⟩:=blk13f BK518;obtain ⟨Ao43,co43,eo43⟩:=Kd.R_slice HO571.out;subst eo43;obtain ⟨Ao44,co44,eo44⟩:=Kd.R_slice HO574.out;subst eo44;obtain ⟨Ao45,co45,eo45⟩:=Kd.R_slice HO581.out;subst eo45;obtain ⟨Ao46,co46,eo46⟩:=Kd.R_slice HO584.out;subst eo46))
       refine bodyPost_ret (results_ct rfl _ _ gb518 37 #[.int .i64 t564,.int .i64 t565,.int .i64 t566,.int .i64 t567,.bool t568,.slice Ao43 t569.length co43,.slice Ao44 t572.length co44,.int .i64 t575,.int .i64 t576,.int .i64 t577,.int .i64 t578,.slice Ao45 t579.length co45,.slice Ao46 t582.length co46] (0,0) _ rfl (by refine bP (cs:=?_) ?_ 12 ?_;rotate_left;refine bP (cs:=?_) ?_ 11 ?_;rotate_left;refine bP (cs:=?_) ?_ 10 ?_;rotate_left;refine bP (cs:=?_) ?_ 9 ?_;rotate_left;refine bP (cs:=?_) ?_ 8 ?_;rotate_left;refine bP (cs:=?_) ?_ 7 ?_;rotate_left;refine bP (cs:=?_) ?_ 6 ?_;rotate_left;refine bP (cs:=?_) ?_ 5 ?_;rotate_left;refine bP (cs:=?_) ?_ 4 ?_;rotate_left;refine bP (cs:=?_) ?_ 3 ?_;rotate_left;refine bP (cs:=?_) ?_ 2 ?_;rotate_left;refine bP (cs:=?_) ?_ 1 ?_;rotate_left;refine bP (cs:=?_) ?_ 0 ?_;rotate_left;exact BK518.out;all_goals ((try simp only [sA,sZ,sC]);first|done|rfl)) Try.underlying37 rfl (by kernel_rfl)) rfl ?_
       exact ⟨_,_,_,_,fE,by (with_reducible repeat (first|apply Kd.R_alloc|apply Kd.R_drewN|apply Kd.R_drew));exact Kd.R_mono (rf (rf (rf (rf (rf (rf (rf (rf (rf (rf (rf (rf (rf (Kd.R_types HO571.out BK518.out (by decide))))))))))))))) (fun _ hk=>trivial),by (with_reducible repeat (first|apply Kd.R_alloc|apply Kd.R_drewN|apply Kd.R_drew));exact Kd.R_mono (rf (rf (rf (rf (rf (rf (rf (rf (rf (rf (rf (rf (rf (Kd.R_types HO574.out BK518.out (by decide))))))))))))))) (fun _ hk=>hk.1),by (with_reducible repeat (first|apply Kd.R_alloc|apply Kd.R_drewN|apply Kd.R_drew));exact Kd.R_mono (rf (rf (rf (rf (rf (rf (rf (rf (rf (rf (rf (rf (rf (Kd.R_types HO581.out BK518.out (by decide))))))))))))))) (fun _ hk=>hk.1),by (with_reducible repeat (first|apply Kd.R_alloc|apply Kd.R_drewN|apply Kd.R_drew));exact Kd.R_mono (rf (rf (rf (rf (rf (rf (rf (rf (rf (rf (rf (rf (rf (Kd.R_types HO584.out BK518.out (by decide))))))))))))))) (fun _ hk=>trivial),bG⟩
      ·rw [if_neg c37] at H
       have c37b0:(a0_2 == 2)=false:=beq_eq_false_iff_ne.mpr c37
       have c37b1:(a0_2 != 2)=true:=bne_iff_ne.mpr c37
       simp only [Option.some.injEq,Prod.mk.injEq] at H
       obtain ⟨rfl,rfl,rfl,rfl,rfl,rfl,rfl,rfl,rfl,rfl,rfl,rfl,rfl,rfl⟩:=H
       have hnb47:=NB517_518.out
       have hnc47:=NB518_517.out
       obtain ⟨z48_0,z48_1,z48_2,z48_3,z48_4,z48_5,z48_6,z48_7,z48_8,z48_9,z48_10,z48_11,z48_12,y48_0,y48_1,y48_2,y48_3,y48_4,y48_5,y48_6,y48_7,y48_8,y48_9,y48_10,y48_11,y48_12⟩:=blk13f BK517
       obtain ⟨z49_0,z49_1,z49_2,z49_3,z49_4,z49_5,z49_6,z49_7,z49_8,z49_9,z49_10,z49_11,z49_12,y49_0,y49_1,y49_2,y49_3,y49_4,y49_5,y49_6,y49_7,y49_8,y49_9,y49_10,y49_11,y49_12⟩:=blk13f BK518
       go_wp2
       refine bodyPost_ret (results_ct rfl _ _ gb518 37 #[.int .i64 0,.int .i64 0,.int .i64 0,.int .i64 0,.bool false,.slice none 0 0,.slice none 0 0,.int .i64 0,.int .i64 0,.int .i64 0,.int .i64 0,.slice none 0 0,.slice none 0 0] (0,0) _ rfl (by refine bP (cs:=?_) ?_ 12 ?_;rotate_left;refine bP (cs:=?_) ?_ 11 ?_;rotate_left;refine bP (cs:=?_) ?_ 10 ?_;rotate_left;refine bP (cs:=?_) ?_ 9 ?_;rotate_left;refine bP (cs:=?_) ?_ 8 ?_;rotate_left;refine bP (cs:=?_) ?_ 7 ?_;rotate_left;refine bP (cs:=?_) ?_ 6 ?_;rotate_left;refine bP (cs:=?_) ?_ 5 ?_;rotate_left;refine bP (cs:=?_) ?_ 4 ?_;rotate_left;refine bP (cs:=?_) ?_ 3 ?_;rotate_left;refine bP (cs:=?_) ?_ 2 ?_;rotate_left;refine bP (cs:=?_) ?_ 1 ?_;rotate_left;refine bP (cs:=?_) ?_ 0 ?_;rotate_left;exact BK518.out;all_goals ((try simp only [sA,sZ,sC]);first|done|rfl)) Try.underlying37 rfl (by kernel_rfl)) rfl ?_
       exact ⟨_,_,_,_,fE,by first|exact Kd.R_nil _ _ _ _ _|exact Kd.N_nil _ _ _ _ _|exact Kd.V_nil _ _ _ _ _|exact Kd.Q_nil _ _ _ _ _|exact Kd.S_nil _ _ _ _ _,by first|exact Kd.R_nil _ _ _ _ _|exact Kd.N_nil _ _ _ _ _|exact Kd.V_nil _ _ _ _ _|exact Kd.Q_nil _ _ _ _ _|exact Kd.S_nil _ _ _ _ _,by first|exact Kd.R_nil _ _ _ _ _|exact Kd.N_nil _ _ _ _ _|exact Kd.V_nil _ _ _ _ _|exact Kd.Q_nil _ _ _ _ _|exact Kd.S_nil _ _ _ _ _,by first|exact Kd.R_nil _ _ _ _ _|exact Kd.N_nil _ _ _ _ _|exact Kd.V_nil _ _ _ _ _|exact Kd.Q_nil _ _ _ _ _|exact Kd.S_nil _ _ _ _ _,bG⟩
-- NOT PRINTED: function 4 (laws_FnExactLessGray)
end Go.Proofs.Ytjpfhldklbgdcaa.Ld
