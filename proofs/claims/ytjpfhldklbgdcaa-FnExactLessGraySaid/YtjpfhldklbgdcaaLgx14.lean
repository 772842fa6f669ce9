import Derived.Test.YtjpfhldklbgdcaaLdx0
import Derived.Test.YtjpfhldklbgdcaaLdx2
import Derived.Test.YtjpfhldklbgdcaaLdx7
import Derived.Test.YtjpfhldklbgdcaaLdx8
set_option maxHeartbeats 8000000
set_option maxRecDepth 100000
namespace Go.Proofs.Ytjpfhldklbgdcaa.Ld
open Go.RowKit Go.Proofs.Ytjpfhldklbgdcaa.Sq Go.Proofs.YtjpfhldklbgdcaaW.PrintWords Go.Proofs.YtjpfhldklbgdcaaW.PrintLast Go.Proofs.YtjpfhldklbgdcaaW.PrintMore
attribute [local go_sem] max2_int min2_int max_two min_two max_three min_three max_four min_four   -- for this text's walks alone
set_option linter.unusedVariables false
set_option linter.unusedSimpArgs false
def spec_l19May.f (k:Nat) (a0_0:Int) (a0_1:Int) (a0_2:Int) (a0_3:Int) (a0_4:Bool) (l0_5:List (S95)) (l0_6:List Int) (a0_7:Int) (a0_8:Int) (a0_9:Int) (a0_10:Int) (l0_11:List Int) (l0_12:List (S83)) (a1:Int) (a2:Int):Option (Bool):=(spec_PngOk.f k a0_0 a0_1 a0_2 a0_3 a0_4 l0_5 l0_6 a0_7 a0_8 a0_9 a0_10 l0_11 l0_12).bind fun t320=>(if t320=true then ((spec_Touchy.f k a0_0 a0_1 a0_2 a0_3 a0_4 l0_5 l0_6 a0_7 a0_8 a0_9 a0_10 l0_11 l0_12).bind fun t321=>(if t321=true then (some false) else (if a0_3=a1 then (some true) else (some (a0_3 == a2))))) else (some false))
theorem spec_l19May.mono:∀ a0 a1 a2 a3 a4 a5 a6 a7 a8 a9 a10 a11 a12 a13 a14 k,LeO (spec_l19May.f k a0 a1 a2 a3 a4 a5 a6 a7 a8 a9 a10 a11 a12 a13 a14) (spec_l19May.f (k+1) a0 a1 a2 a3 a4 a5 a6 a7 a8 a9 a10 a11 a12 a13 a14):=by
 intro a0 a1 a2 a3 a4 a5 a6 a7 a8 a9 a10 a11 a12 a13 a14 k
 unfold spec_l19May.f
 repeat' first
   | (with_reducible exact spec_PngOk.mono _ _ _ _ _ _ _ _ _ _ _ _ _ _)
   | (with_reducible exact spec_Touchy.mono _ _ _ _ _ _ _ _ _ _ _ _ _ _)
   | (with_reducible exact LeO.refl _)
   | (with_reducible exact LeO.none _)
   | (with_reducible refine LeO.ite ?_ ?_)
   | (with_reducible refine LeO.bind ?_ (fun _=>?_))
   | exact spec_PngOk.mono _ _ _ _ _ _ _ _ _ _ _ _ _ _
   | exact spec_Touchy.mono _ _ _ _ _ _ _ _ _ _ _ _ _ _
   | exact LeO.none _
   | refine LeO.ite ?_ ?_
   | refine LeO.bind ?_ (fun _=>?_)
theorem spec_l19May.calls (k:Nat) (a0_0:Int) (a0_1:Int) (a0_2:Int) (a0_3:Int) (a0_4:Bool) (A0_5:Option Addr) (c0_5:Nat) (l0_5:List (S95)) (A0_6:Option Addr) (c0_6:Nat) (l0_6:List Int) (a0_7:Int) (a0_8:Int) (a0_9:Int) (a0_10:Int) (A0_11:Option Addr) (c0_11:Nat) (l0_11:List Int) (A0_12:Option Addr) (c0_12:Nat) (l0_12:List (S83)) (a1:Int) (a2:Int) (r:Bool) (w:World) (hr0_5:Kd.C k95 w A0_5 l0_5.length l0_5) (hc0_5:l0_5.length≤c0_5) (hr0_6:Kd.C (Kd.int .i64) w A0_6 l0_6.length l0_6) (hc0_6:l0_6.length≤c0_6) (hr0_11:Kd.C (Kd.int .i64) w A0_11 l0_11.length l0_11) (hc0_11:l0_11.length≤c0_11) (hr0_12:Kd.C k83 w A0_12 l0_12.length l0_12) (hc0_12:l0_12.length≤c0_12) (h:spec_l19May.f k a0_0 a0_1 a0_2 a0_3 a0_4 l0_5 l0_6 a0_7 a0_8 a0_9 a0_10 l0_11 l0_12 a1 a2=some r):
  Calls Try.prog 60 #[.agg #[.int .i64 a0_0,.int .i64 a0_1,.int .i64 a0_2,.int .i64 a0_3,.bool a0_4,.slice A0_5 l0_5.length c0_5,.slice A0_6 l0_6.length c0_6,.int .i64 a0_7,.int .i64 a0_8,.int .i64 a0_9,.int .i64 a0_10,.slice A0_11 l0_11.length c0_11,.slice A0_12 l0_12.length c0_12],.int .i64 a1,.int .i64 a2] w fun e w'=>e=.returned (.bool r)∧Below w.heap.size w w':=by
 have hu37:=Try.underlying37
 have HR0_5:=Aside0.mk hr0_5
 have HC0_5:=Aside0.mk hc0_5
 clear hr0_5 hc0_5
 have HR0_6:=Aside0.mk hr0_6
 have HC0_6:=Aside0.mk hc0_6
 clear hr0_6 hc0_6
 have HR0_11:=Aside0.mk hr0_11
 have HC0_11:=Aside0.mk hc0_11
 clear hr0_11 hc0_11
 have HR0_12:=Aside0.mk hr0_12
 have HC0_12:=Aside0.mk hc0_12
 clear hr0_12 hc0_12
 have HB:=Aside0.mk (Below.refl w.heap.size w)
 have H:=h
 clear h
 unfold spec_l19May.f at H
 obtain ⟨t320,A4,H⟩:=bS H
 try dsimp only at H
 by_cases c5:t320=true
 ·subst c5
  rw [if_pos rfl] at H
  obtain ⟨t321,A6,H⟩:=bS H
  try dsimp only at H
  by_cases c7:t321=true
  ·subst c7
   rw [if_pos rfl] at H
   obtain rfl:=sI H
   go_enter Try.func60,Try.ntmps60
   go_wp2_with (first|((with_reducible refine gate_dst (N:=3) rfl ?_);refine boxE 3 (#[.int .i64 a0_0,.int .i64 a0_1,.int .i64 a0_2,.int .i64 a0_3,.bool a0_4,.slice A0_5 l0_5.length c0_5,.slice A0_6 l0_6.length c0_6,.int .i64 a0_7,.int .i64 a0_8,.int .i64 a0_9,.int .i64 a0_10,.slice A0_11 l0_11.length c0_11,.slice A0_12 l0_12.length c0_12]) 37 ?_;intro gb319 hg w8 hbox hb;have BK319:=Aside0.mk hbox;have GW319:=(gwH (w:=w) hg);have GE319:=(gwH (w:=w) hg);replace HB:=Aside0.mk (below_step bH hb);clear hb hbox hg;obtain ⟨z9_0,z9_1,z9_2,z9_3,z9_4,z9_5,z9_6,z9_7,z9_8,z9_9,z9_10,z9_11,z9_12,y9_0,y9_1,y9_2,y9_3,y9_4,y9_5,y9_6,y9_7,y9_8,y9_9,y9_10,y9_11,y9_12⟩:=blk13f BK319)|((with_reducible refine gate_callee (f:=37) rfl ?_);refine gL (some 8) Try.func37 #[.agg #[.int .i64 a0_0,.int .i64 a0_1,.int .i64 a0_2,.int .i64 a0_3,.bool a0_4,.slice A0_5 l0_5.length c0_5,.slice A0_6 l0_6.length c0_6,.int .i64 a0_7,.int .i64 a0_8,.int .i64 a0_9,.int .i64 a0_10,.slice A0_11 l0_11.length c0_11,.slice A0_12 l0_12.length c0_12]] ?_;(with_reducible refine (spec_PngOk.calls k a0_0 a0_1 a0_2 a0_3 a0_4 _ _ l0_5 _ _ l0_6 a0_7 a0_8 a0_9 a0_10 _ _ l0_11 _ _ l0_12 true _ (cB HR0_5) HC0_5.out (cB HR0_6) HC0_6.out (cB HR0_11) HC0_11.out (cB HR0_12) HC0_12.out A4.out).mono ?_);rintro e w10 ⟨rfl,hb⟩;refine ⟨_,rfl,?_⟩;replace BK319:=Aside0.mk (bkb BK319 hb);replace HB:=Aside0.mk (below_step bG hb);(try clear hb);obtain ⟨z11_0,z11_1,z11_2,z11_3,z11_4,z11_5,z11_6,z11_7,z11_8,z11_9,z11_10,z11_11,z11_12,y11_0,y11_1,y11_2,y11_3,y11_4,y11_5,y11_6,y11_7,y11_8,y11_9,y11_10,y11_11,y11_12⟩:=blk13f BK319)|(go_at_call 28;(with_reducible refine (spec_Touchy.calls k a0_0 a0_1 a0_2 a0_3 a0_4 _ _ l0_5 _ _ l0_6 a0_7 a0_8 a0_9 a0_10 _ _ l0_11 _ _ l0_12 true _ (cB HR0_5) HC0_5.out (cB HR0_6) HC0_6.out (cB HR0_11) HC0_11.out (cB HR0_12) HC0_12.out A6.out).mono ?_);rintro e w12 ⟨rfl,hb⟩;replace BK319:=Aside0.mk (bkb BK319 hb);replace HB:=Aside0.mk (below_step bG hb);(try clear hb)))
   go_ret
   exact ⟨fE,bG⟩
  ·obtain rfl:=bF c7
   rw [if_neg nF] at H
   by_cases c13:a0_3=a1
   ·rw [if_pos c13] at H
    have c13b0:(a0_3 == a1)=true:=beq_iff_eq.mpr c13
    have c13b1:(a0_3 != a1)=false:=bne_eq_false_iff_eq.mpr c13
    clear c13
    obtain rfl:=sI H
    go_enter Try.func60,Try.ntmps60
    go_wp2_with (first|((with_reducible refine gate_dst (N:=3) rfl ?_);refine boxE 3 (#[.int .i64 a0_0,.int .i64 a0_1,.int .i64 a0_2,.int .i64 a0_3,.bool a0_4,.slice A0_5 l0_5.length c0_5,.slice A0_6 l0_6.length c0_6,.int .i64 a0_7,.int .i64 a0_8,.int .i64 a0_9,.int .i64 a0_10,.slice A0_11 l0_11.length c0_11,.slice A0_12 l0_12.length c0_12]) 37 ?_;intro gb319 hg w14 hbox hb;have BK319:=Aside0.mk hbox;have GW319:=(gwH (w:=w) hg);have GE319:=(gwH (w:=w) hg);replace HB:=Aside0.mk (below_step bH hb);clear hb hbox hg;obtain ⟨z15_0,z15_1,z15_2,z15_3,z15_4,z15_5,z15_6,z15_7,z15_8,z15_9,z15_10,z15_11,z15_12,y15_0,y15_1,y15_2,y15_3,y15_4,y15_5,y15_6,y15_7,y15_8,y15_9,y15_10,y15_11,y15_12⟩:=blk13f BK319)|((with_reducible refine gate_callee (f:=37) rfl ?_);refine gL (some 8) Try.func37 #[.agg #[.int .i64 a0_0,.int .i64 a0_1,.int .i64 a0_2,.int .i64 a0_3,.bool a0_4,.slice A0_5 l0_5.length c0_5,.slice A0_6 l0_6.length c0_6,.int .i64 a0_7,.int .i64 a0_8,.int .i64 a0_9,.int .i64 a0_10,.slice A0_11 l0_11.length c0_11,.slice A0_12 l0_12.length c0_12]] ?_;(with_reducible refine (spec_PngOk.calls k a0_0 a0_1 a0_2 a0_3 a0_4 _ _ l0_5 _ _ l0_6 a0_7 a0_8 a0_9 a0_10 _ _ l0_11 _ _ l0_12 true _ (cB HR0_5) HC0_5.out (cB HR0_6) HC0_6.out (cB HR0_11) HC0_11.out (cB HR0_12) HC0_12.out A4.out).mono ?_);rintro e w16 ⟨rfl,hb⟩;refine ⟨_,rfl,?_⟩;replace BK319:=Aside0.mk (bkb BK319 hb);replace HB:=Aside0.mk (below_step bG hb);(try clear hb);obtain ⟨z17_0,z17_1,z17_2,z17_3,z17_4,z17_5,z17_6,z17_7,z17_8,z17_9,z17_10,z17_11,z17_12,y17_0,y17_1,y17_2,y17_3,y17_4,y17_5,y17_6,y17_7,y17_8,y17_9,y17_10,y17_11,y17_12⟩:=blk13f BK319)|(go_at_call 28;(with_reducible refine (spec_Touchy.calls k a0_0 a0_1 a0_2 a0_3 a0_4 _ _ l0_5 _ _ l0_6 a0_7 a0_8 a0_9 a0_10 _ _ l0_11 _ _ l0_12 false _ (cB HR0_5) HC0_5.out (cB HR0_6) HC0_6.out (cB HR0_11) HC0_11.out (cB HR0_12) HC0_12.out A6.out).mono ?_);rintro e w18 ⟨rfl,hb⟩;replace BK319:=Aside0.mk (bkb BK319 hb);replace HB:=Aside0.mk (below_step bG hb);(try clear hb);obtain ⟨z19_0,z19_1,z19_2,z19_3,z19_4,z19_5,z19_6,z19_7,z19_8,z19_9,z19_10,z19_11,z19_12,y19_0,y19_1,y19_2,y19_3,y19_4,y19_5,y19_6,y19_7,y19_8,y19_9,y19_10,y19_11,y19_12⟩:=blk13f BK319))
    go_ret
    exact ⟨fE,bG⟩
   ·rw [if_neg c13] at H
    have c13b0:(a0_3 == a1)=false:=beq_eq_false_iff_ne.mpr c13
    have c13b1:(a0_3 != a1)=true:=bne_iff_ne.mpr c13
    obtain rfl:=sI H
    go_enter Try.func60,Try.ntmps60
    go_wp2_with (first|((with_reducible refine gate_dst (N:=3) rfl ?_);refine boxE 3 (#[.int .i64 a0_0,.int .i64 a0_1,.int .i64 a0_2,.int .i64 a0_3,.bool a0_4,.slice A0_5 l0_5.length c0_5,.slice A0_6 l0_6.length c0_6,.int .i64 a0_7,.int .i64 a0_8,.int .i64 a0_9,.int .i64 a0_10,.slice A0_11 l0_11.length c0_11,.slice A0_12 l0_12.length c0_12]) 37 ?_;intro gb319 hg w20 hbox hb;have BK319:=Aside0.mk hbox;have GW319:=(gwH (w:=w) hg);have GE319:=(gwH (w:=w) hg);replace HB:=Aside0.mk (below_step bH hb);clear hb hbox hg;obtain ⟨z21_0,z21_1,z21_2,z21_3,z21_4,z21_5,z21_6,z21_7,z21_8,z21_9,z21_10,z21_11,z21_12,y21_0,y21_1,y21_2,y21_3,y21_4,y21_5,y21_6,y21_7,y21_8,y21_9,y21_10,y21_11,y21_12⟩:=blk13f BK319)|((with_reducible refine gate_callee (f:=37) rfl ?_);refine gL (some 8) Try.func37 #[.agg #[.int .i64 a0_0,.int .i64 a0_1,.int .i64 a0_2,.int .i64 a0_3,.bool a0_4,.slice A0_5 l0_5.length c0_5,.slice A0_6 l0_6.length c0_6,.int .i64 a0_7,.int .i64 a0_8,.int .i64 a0_9,.int .i64 a0_10,.slice A0_11 l0_11.length c0_11,.slice A0_12 l0_12.length c0_12]] ?_;(with_reducible refine (spec_PngOk.calls k a0_0 a0_1 a0_2 a0_3 a0_4 _ _ l0_5 _ _ l0_6 a0_7 a0_8 a0_9 a0_10 _ _ l0_11 _ _ l0_12 true _ (cB HR0_5) HC0_5.out (cB HR0_6) HC0_6.out (cB HR0_11) HC0_11.out (cB HR0_12) HC0_12.out A4.out).mono ?_);rintro e w22 ⟨rfl,hb⟩;refine ⟨_,rfl,?_⟩;replace BK319:=Aside0.mk (bkb BK319 hb);replace HB:=Aside0.mk (below_step bG hb);(try clear hb);obtain ⟨z23_0,z23_1,z23_2,z23_3,z23_4,z23_5,z23_6,z23_7,z23_8,z23_9,z23_10,z23_11,z23_12,y23_0,y23_1,y23_2,y23_3,y23_4,y23_5,y23_6,y23_7,y23_8,y23_9,y23_10,y23_11,y23_12⟩:=blk13f BK319)|(go_at_call 28;(with_reducible refine (spec_Touchy.calls k a0_0 a0_1 a0_2 a0_3 a0_4 _ _ l0_5 _ _ l0_6 a0_7 a0_8 a0_9 a0_10 _ _ l0_11 _ _ l0_12 false _ (cB HR0_5) HC0_5.out (cB HR0_6) HC0_6.out (cB HR0_11) HC0_11.out (cB HR0_12) HC0_12.out A6.out).mono ?_);rintro e w24 ⟨rfl,hb⟩;replace BK319:=Aside0.mk (bkb BK319 hb);replace HB:=Aside0.mk (below_step bG hb);(try clear hb);obtain ⟨z25_0,z25_1,z25_2,z25_3,z25_4,z25_5,z25_6,z25_7,z25_8,z25_9,z25_10,z25_11,z25_12,y25_0,y25_1,y25_2,y25_3,y25_4,y25_5,y25_6,y25_7,y25_8,y25_9,y25_10,y25_11,y25_12⟩:=blk13f BK319))
    go_ret
    exact ⟨fE,bG⟩
 ·obtain rfl:=bF c5
  rw [if_neg nF] at H
  obtain rfl:=sI H
  go_enter Try.func60,Try.ntmps60
  go_wp2_with (first|((with_reducible refine gate_dst (N:=3) rfl ?_);refine boxE 3 (#[.int .i64 a0_0,.int .i64 a0_1,.int .i64 a0_2,.int .i64 a0_3,.bool a0_4,.slice A0_5 l0_5.length c0_5,.slice A0_6 l0_6.length c0_6,.int .i64 a0_7,.int .i64 a0_8,.int .i64 a0_9,.int .i64 a0_10,.slice A0_11 l0_11.length c0_11,.slice A0_12 l0_12.length c0_12]) 37 ?_;intro gb319 hg w26 hbox hb;have BK319:=Aside0.mk hbox;have GW319:=(gwH (w:=w) hg);have GE319:=(gwH (w:=w) hg);replace HB:=Aside0.mk (below_step bH hb);clear hb hbox hg;obtain ⟨z27_0,z27_1,z27_2,z27_3,z27_4,z27_5,z27_6,z27_7,z27_8,z27_9,z27_10,z27_11,z27_12,y27_0,y27_1,y27_2,y27_3,y27_4,y27_5,y27_6,y27_7,y27_8,y27_9,y27_10,y27_11,y27_12⟩:=blk13f BK319)|((with_reducible refine gate_callee (f:=37) rfl ?_);refine gL (some 8) Try.func37 #[.agg #[.int .i64 a0_0,.int .i64 a0_1,.int .i64 a0_2,.int .i64 a0_3,.bool a0_4,.slice A0_5 l0_5.length c0_5,.slice A0_6 l0_6.length c0_6,.int .i64 a0_7,.int .i64 a0_8,.int .i64 a0_9,.int .i64 a0_10,.slice A0_11 l0_11.length c0_11,.slice A0_12 l0_12.length c0_12]] ?_;(with_reducible refine (spec_PngOk.calls k a0_0 a0_1 a0_2 a0_3 a0_4 _ _ l0_5 _ _ l0_6 a0_7 a0_8 a0_9 a0_10 _ _ l0_11 _ _ l0_12 false _ (cB HR0_5) HC0_5.out (cB HR0_6) HC0_6.out (cB HR0_11) HC0_11.out (cB HR0_12) HC0_12.out A4.out).mono ?_);rintro e w28 ⟨rfl,hb⟩;refine ⟨_,rfl,?_⟩;replace BK319:=Aside0.mk (bkb BK319 hb);replace HB:=Aside0.mk (below_step bG hb);(try clear hb)))
  go_ret
  exact ⟨fE,bG⟩
mutual
def spec_LessGray.j0:Nat→Bool→Int→Int→Int→Int→Bool→List (S95)→List Int→Int→Int→Int→Int→List Int→List (S83)→Option (Int×Int×Int×Int×Bool×(List (S95))×List Int×Int×Int×Int×Int×List Int×(List (S83))×Bool)
 | 0,_,_,_,_,_,_,_,_,_,_,_,_,_,_=>none
 | k+1,x23,z00,z01,z02,z03,z04,z05,z06,z07,z08,z09,z10,z11,z12=>if x23=true then (some (0,0,0,0,false,([]:List (S95)),([]:List Int),0,0,0,0,([]:List Int),([]:List (S83)),false)) else (if z02=4 then (spec_LessGray.j1 k 5 z00 z01 z02 z03 z04 z05 z06 z07 z08 z09 z10 z11 z12) else (spec_LessGray.j1 k 17 z00 z01 z02 z03 z04 z05 z06 z07 z08 z09 z10 z11 z12))
def spec_LessGray.j1:Nat→Int→Int→Int→Int→Int→Bool→List (S95)→List Int→Int→Int→Int→Int→List Int→List (S83)→Option (Int×Int×Int×Int×Bool×(List (S95))×List Int×Int×Int×Int×Int×List Int×(List (S83))×Bool)
 | 0,_,_,_,_,_,_,_,_,_,_,_,_,_,_=>none
 | k+1,x4,z00,z01,z02,z03,z04,z05,z06,z07,z08,z09,z10,z11,z12=>if z02=2 then (spec_LessGray.j2 k 3 z00 z01 z02 z03 z04 z05 z06 z07 z08 z09 z10 z11 z12) else (spec_LessGray.j2 k x4 z00 z01 z02 z03 z04 z05 z06 z07 z08 z09 z10 z11 z12)
def spec_LessGray.j2:Nat→Int→Int→Int→Int→Int→Bool→List (S95)→List Int→Int→Int→Int→Int→List Int→List (S83)→Option (Int×Int×Int×Int×Bool×(List (S95))×List Int×Int×Int×Int×Int×List Int×(List (S83))×Bool)
 | 0,_,_,_,_,_,_,_,_,_,_,_,_,_,_=>none
 | k+1,x4,z00,z01,z02,z03,z04,z05,z06,z07,z08,z09,z10,z11,z12=>(spec_l19Divided.f k z11 x4).bind fun bt325=>((spec_l19Divided.f k z06 x4).bind fun bt329=>(if bt325.2=true then (if bt329.2=true then ((spec_l19With.f z00 z01 z02 z03 z04 z05 z06 z07 z08 z09 z10 z11 z12 0 (wrap64 (Int.tdiv z02 2)) bt325.1 bt329.1).bind fun bt333=>(some (bt333.1,bt333.2.1,bt333.2.2.1,bt333.2.2.2.1,bt333.2.2.2.2.1,bt333.2.2.2.2.2.1,bt333.2.2.2.2.2.2.1,bt333.2.2.2.2.2.2.2.1,bt333.2.2.2.2.2.2.2.2.1,bt333.2.2.2.2.2.2.2.2.2.1,bt333.2.2.2.2.2.2.2.2.2.2.1,bt333.2.2.2.2.2.2.2.2.2.2.2.1,bt333.2.2.2.2.2.2.2.2.2.2.2.2,true))) else (some (0,0,0,0,false,([]:List (S95)),([]:List Int),0,0,0,0,([]:List Int),([]:List (S83)),false))) else (some (0,0,0,0,false,([]:List (S95)),([]:List Int),0,0,0,0,([]:List Int),([]:List (S83)),false))))
end
def spec_LessGray.f (k:Nat) (a0_0:Int) (a0_1:Int) (a0_2:Int) (a0_3:Int) (a0_4:Bool) (l0_5:List (S95)) (l0_6:List Int) (a0_7:Int) (a0_8:Int) (a0_9:Int) (a0_10:Int) (l0_11:List Int) (l0_12:List (S83)):Option (Int×Int×Int×Int×Bool×(List (S95))×List Int×Int×Int×Int×Int×List Int×(List (S83))×Bool):=(spec_l19May.f k a0_0 a0_1 a0_2 a0_3 a0_4 l0_5 l0_6 a0_7 a0_8 a0_9 a0_10 l0_11 l0_12 0 0).bind fun t324=>(if t324=true then (if a0_2=16 then (spec_LessGray.j0 k true a0_0 a0_1 a0_2 a0_3 a0_4 l0_5 l0_6 a0_7 a0_8 a0_9 a0_10 l0_11 l0_12) else (spec_LessGray.j0 k (a0_2 == 1) a0_0 a0_1 a0_2 a0_3 a0_4 l0_5 l0_6 a0_7 a0_8 a0_9 a0_10 l0_11 l0_12)) else (spec_LessGray.j0 k true a0_0 a0_1 a0_2 a0_3 a0_4 l0_5 l0_6 a0_7 a0_8 a0_9 a0_10 l0_11 l0_12))
theorem spec_LessGray.mono_l:∀ k,(∀ y0 y1 y2 y3 y4 y5 y6 y7 y8 y9 y10 y11 y12 y13,LeO (spec_LessGray.j0 k y0 y1 y2 y3 y4 y5 y6 y7 y8 y9 y10 y11 y12 y13) (spec_LessGray.j0 (k+1) y0 y1 y2 y3 y4 y5 y6 y7 y8 y9 y10 y11 y12 y13))∧(∀ y0 y1 y2 y3 y4 y5 y6 y7 y8 y9 y10 y11 y12 y13,LeO (spec_LessGray.j1 k y0 y1 y2 y3 y4 y5 y6 y7 y8 y9 y10 y11 y12 y13) (spec_LessGray.j1 (k+1) y0 y1 y2 y3 y4 y5 y6 y7 y8 y9 y10 y11 y12 y13))∧(∀ y0 y1 y2 y3 y4 y5 y6 y7 y8 y9 y10 y11 y12 y13,LeO (spec_LessGray.j2 k y0 y1 y2 y3 y4 y5 y6 y7 y8 y9 y10 y11 y12 y13) (spec_LessGray.j2 (k+1) y0 y1 y2 y3 y4 y5 y6 y7 y8 y9 y10 y11 y12 y13))
 | 0=>⟨fun _ _ _ _ _ _ _ _ _ _ _ _ _ _ r h=>by simp [spec_LessGray.j0] at h,fun _ _ _ _ _ _ _ _ _ _ _ _ _ _ r h=>by simp [spec_LessGray.j1] at h,fun _ _ _ _ _ _ _ _ _ _ _ _ _ _ r h=>by simp [spec_LessGray.j2] at h⟩
 | k+1=>by
  obtain ⟨ih0,ih1,ih2⟩:=spec_LessGray.mono_l k
  refine ⟨?_,?_,?_⟩
  ·intro y0 y1 y2 y3 y4 y5 y6 y7 y8 y9 y10 y11 y12 y13
   unfold spec_LessGray.j0
   repeat' first
   | (with_reducible exact ih0 _ _ _ _ _ _ _ _ _ _ _ _ _ _)
   | (with_reducible exact ih1 _ _ _ _ _ _ _ _ _ _ _ _ _ _)
   | (with_reducible exact ih2 _ _ _ _ _ _ _ _ _ _ _ _ _ _)
   | (with_reducible exact spec_l19Divided.mono _ _ _)
   | (with_reducible exact spec_l19May.mono _ _ _ _ _ _ _ _ _ _ _ _ _ _ _ _)
   | (with_reducible exact LeO.refl _)
   | (with_reducible exact LeO.none _)
   | (with_reducible refine LeO.ite ?_ ?_)
   | (with_reducible refine LeO.bind ?_ (fun _=>?_))
   | exact ih0 _ _ _ _ _ _ _ _ _ _ _ _ _ _
   | exact ih1 _ _ _ _ _ _ _ _ _ _ _ _ _ _
   | exact ih2 _ _ _ _ _ _ _ _ _ _ _ _ _ _
   | exact spec_l19Divided.mono _ _ _
   | exact spec_l19May.mono _ _ _ _ _ _ _ _ _ _ _ _ _ _ _ _
   | exact LeO.none _
   | refine LeO.ite ?_ ?_
   | refine LeO.bind ?_ (fun _=>?_)
  ·intro y0 y1 y2 y3 y4 y5 y6 y7 y8 y9 y10 y11 y12 y13
   unfold spec_LessGray.j1
   repeat' first
   | (with_reducible exact ih0 _ _ _ _ _ _ _ _ _ _ _ _ _ _)
   | (with_reducible exact ih1 _ _ _ _ _ _ _ _ _ _ _ _ _ _)
   | (with_reducible exact ih2 _ _ _ _ _ _ _ _ _ _ _ _ _ _)
   | (with_reducible exact spec_l19Divided.mono _ _ _)
   | (with_reducible exact spec_l19May.mono _ _ _ _ _ _ _ _ _ _ _ _ _ _ _ _)
   | (with_reducible exact LeO.refl _)
   | (with_reducible exact LeO.none _)
   | (with_reducible refine LeO.ite ?_ ?_)
   | (with_reducible refine LeO.bind ?_ (fun _=>?_))
   | exact ih0 _ _ _ _ _ _ _ _ _ _ _ _ _ _
   | exact ih1 _ _ _ _ _ _ _ _ _ _ _ _ _ _
   | exact ih2 _ _ _ _ _ _ _ _ _ _ _ _ _ _
   | exact spec_l19Divided.mono _ _ _
   | exact spec_l19May.mono _ _ _ _ _ _ _ _ _ _ _ _ _ _ _ _
   | exact LeO.none _
   | refine LeO.ite ?_ ?_
   | refine LeO.bind ?_ (fun _=>?_)
  ·intro y0 y1 y2 y3 y4 y5 y6 y7 y8 y9 y10 y11 y12 y13
   unfold spec_LessGray.j2
   repeat' first
   | (with_reducible exact ih0 _ _ _ _ _ _ _ _ _ _ _ _ _ _)
   | (with_reducible exact ih1 _ _ _ _ _ _ _ _ _ _ _ _ _ _)
   | (with_reducible exact ih2 _ _ _ _ _ _ _ _ _ _ _ _ _ _)
   | (with_reducible exact spec_l19Divided.mono _ _ _)
   | (with_reducible exact spec_l19May.mono _ _ _ _ _ _ _ _ _ _ _ _ _ _ _ _)
   | (with_reducible exact LeO.refl _)
   | (with_reducible exact LeO.none _)
   | (with_reducible refine LeO.ite ?_ ?_)
   | (with_reducible refine LeO.bind ?_ (fun _=>?_))
   | exact ih0 _ _ _ _ _ _ _ _ _ _ _ _ _ _
   | exact ih1 _ _ _ _ _ _ _ _ _ _ _ _ _ _
   | exact ih2 _ _ _ _ _ _ _ _ _ _ _ _ _ _
   | exact spec_l19Divided.mono _ _ _
   | exact spec_l19May.mono _ _ _ _ _ _ _ _ _ _ _ _ _ _ _ _
   | exact LeO.none _
   | refine LeO.ite ?_ ?_
   | refine LeO.bind ?_ (fun _=>?_)
theorem spec_LessGray.mono:∀ a0 a1 a2 a3 a4 a5 a6 a7 a8 a9 a10 a11 a12 k,LeO (spec_LessGray.f k a0 a1 a2 a3 a4 a5 a6 a7 a8 a9 a10 a11 a12) (spec_LessGray.f (k+1) a0 a1 a2 a3 a4 a5 a6 a7 a8 a9 a10 a11 a12):=by
 intro a0 a1 a2 a3 a4 a5 a6 a7 a8 a9 a10 a11 a12 k
 obtain ⟨ih0,ih1,ih2⟩:=spec_LessGray.mono_l k
 unfold spec_LessGray.f
 repeat' first
   | (with_reducible exact ih0 _ _ _ _ _ _ _ _ _ _ _ _ _ _)
   | (with_reducible exact ih1 _ _ _ _ _ _ _ _ _ _ _ _ _ _)
   | (with_reducible exact ih2 _ _ _ _ _ _ _ _ _ _ _ _ _ _)
   | (with_reducible exact spec_l19Divided.mono _ _ _)
   | (with_reducible exact spec_l19May.mono _ _ _ _ _ _ _ _ _ _ _ _ _ _ _ _)
   | (with_reducible exact LeO.refl _)
   | (with_reducible exact LeO.none _)
   | (with_reducible refine LeO.ite ?_ ?_)
   | (with_reducible refine LeO.bind ?_ (fun _=>?_))
   | exact ih0 _ _ _ _ _ _ _ _ _ _ _ _ _ _
   | exact ih1 _ _ _ _ _ _ _ _ _ _ _ _ _ _
   | exact ih2 _ _ _ _ _ _ _ _ _ _ _ _ _ _
   | exact spec_l19Divided.mono _ _ _
   | exact spec_l19May.mono _ _ _ _ _ _ _ _ _ _ _ _ _ _ _ _
   | exact LeO.none _
   | refine LeO.ite ?_ ?_
   | refine LeO.bind ?_ (fun _=>?_)
theorem spec_LessGray.calls (k:Nat) (a0_0:Int) (a0_1:Int) (a0_2:Int) (a0_3:Int) (a0_4:Bool) (A0_5:Option Addr) (c0_5:Nat) (l0_5:List (S95)) (A0_6:Option Addr) (c0_6:Nat) (l0_6:List Int) (a0_7:Int) (a0_8:Int) (a0_9:Int) (a0_10:Int) (A0_11:Option Addr) (c0_11:Nat) (l0_11:List Int) (A0_12:Option Addr) (c0_12:Nat) (l0_12:List (S83)) (r1:Int) (r2:Int) (r3:Int) (r4:Int) (r5:Bool) (r6:List (S95)) (r7:List Int) (r8:Int) (r9:Int) (r10:Int) (r11:Int) (r12:List Int) (r13:List (S83)) (r14:Bool) (w:World) (hr0_5:Kd.C k95 w A0_5 l0_5.length l0_5) (hc0_5:l0_5.length≤c0_5) (hr0_6:Kd.C (Kd.int .i64) w A0_6 l0_6.length l0_6) (hc0_6:l0_6.length≤c0_6) (hr0_11:Kd.C (Kd.int .i64) w A0_11 l0_11.length l0_11) (hc0_11:l0_11.length≤c0_11) (hr0_12:Kd.C k83 w A0_12 l0_12.length l0_12) (hc0_12:l0_12.length≤c0_12) (h:spec_LessGray.f k a0_0 a0_1 a0_2 a0_3 a0_4 l0_5 l0_6 a0_7 a0_8 a0_9 a0_10 l0_11 l0_12=some (r1,r2,r3,r4,r5,r6,r7,r8,r9,r10,r11,r12,r13,r14)):
  Calls Try.prog 16 #[.agg #[.int .i64 a0_0,.int .i64 a0_1,.int .i64 a0_2,.int .i64 a0_3,.bool a0_4,.slice A0_5 l0_5.length c0_5,.slice A0_6 l0_6.length c0_6,.int .i64 a0_7,.int .i64 a0_8,.int .i64 a0_9,.int .i64 a0_10,.slice A0_11 l0_11.length c0_11,.slice A0_12 l0_12.length c0_12]] w fun e w'=>∃ v5_ v6_ v11_ v12_:Value,e=.returned (.tuple #[.agg #[.int .i64 r1,.int .i64 r2,.int .i64 r3,.int .i64 r4,.bool r5,v5_,v6_,.int .i64 r8,.int .i64 r9,.int .i64 r10,.int .i64 r11,v11_,v12_],.bool r14])∧Kd.R k95 95 w' w.heap.size (fun _=>True) v5_ r6∧Kd.R (Kd.int .i64) 3 w' w.heap.size (fun k_=>some k_≠(v11_:Value).ownBlock) v6_ r7∧Kd.R (Kd.int .i64) 3 w' w.heap.size (fun k_=>some k_≠(v6_:Value).ownBlock) v11_ r12∧Kd.R k83 83 w' w.heap.size (fun _=>True) v12_ r13∧Below w.heap.size w w':=by
 have hu37:=Try.underlying37
 have HR0_5:=Aside0.mk hr0_5
 have HC0_5:=Aside0.mk hc0_5
 clear hr0_5 hc0_5
 have HR0_6:=Aside0.mk hr0_6
 have HC0_6:=Aside0.mk hc0_6
 clear hr0_6 hc0_6
 have HR0_11:=Aside0.mk hr0_11
 have HC0_11:=Aside0.mk hc0_11
 clear hr0_11 hc0_11
 have HR0_12:=Aside0.mk hr0_12
 have HC0_12:=Aside0.mk hc0_12
 clear hr0_12 hc0_12
 have HB:=Aside0.mk (Below.refl w.heap.size w)
 have H:((spec_l19May.f k a0_0 a0_1 a0_2 a0_3 a0_4 l0_5 l0_6 a0_7 a0_8 a0_9 a0_10 l0_11 l0_12 0 0).bind fun t324=>(if t324=true then (if a0_2=16 then (spec_LessGray.j0 k true a0_0 a0_1 a0_2 a0_3 a0_4 l0_5 l0_6 a0_7 a0_8 a0_9 a0_10 l0_11 l0_12) else (spec_LessGray.j0 k (a0_2 == 1) a0_0 a0_1 a0_2 a0_3 a0_4 l0_5 l0_6 a0_7 a0_8 a0_9 a0_10 l0_11 l0_12)) else (spec_LessGray.j0 k true a0_0 a0_1 a0_2 a0_3 a0_4 l0_5 l0_6 a0_7 a0_8 a0_9 a0_10 l0_11 l0_12)))=some (r1,r2,r3,r4,r5,r6,r7,r8,r9,r10,r11,r12,r13,r14):=h
 clear h
 have HC2:=Aside0.mk H
 clear H
 go_enter Try.func16,Try.ntmps16
 go_upto_region 1 with (first|((with_reducible refine gate_dst (N:=1) rfl ?_);refine boxE 1 (#[.int .i64 a0_0,.int .i64 a0_1,.int .i64 a0_2,.int .i64 a0_3,.bool a0_4,.slice A0_5 l0_5.length c0_5,.slice A0_6 l0_6.length c0_6,.int .i64 a0_7,.int .i64 a0_8,.int .i64 a0_9,.int .i64 a0_10,.slice A0_11 l0_11.length c0_11,.slice A0_12 l0_12.length c0_12]) 37 ?_;intro gb322 hg w3 hbox hb;have BK322:=Aside0.mk hbox;have GW322:=(gwH (w:=w) hg);have GE322:=(gwH (w:=w) hg);replace HB:=Aside0.mk (below_step bH hb);clear hb hbox hg)|((with_reducible refine gate_dst (N:=2) rfl ?_);refine boxE 2 (#[.int .i64 0,.int .i64 0,.int .i64 0,.int .i64 0,.bool false,.slice none 0 0,.slice none 0 0,.int .i64 0,.int .i64 0,.int .i64 0,.int .i64 0,.slice none 0 0,.slice none 0 0]) 37 ?_;intro gb323 hg w4 hbox hb;have n0_:=Aside0.mk (bkb BK322 hb);have n1_:=Aside0.mk (below_step bG hb);have n2_:=Aside0.mk hbox;have n3_:=(gwG (w:=w) hg);have n4_:=(gwG (w:=w) hg);have n5_:=(nbl BK322 hg);have n6_:=(nbg BK322 hg);clear BK322;clear HB;have BK322:=n0_;have HB:=n1_;have BK323:=n2_;have GW323:=n3_;have GE323:=n4_;have NB322_323:=n5_;have NB323_322:=n6_;clear n0_ n1_ n2_ n3_ n4_ n5_ n6_;clear hb hbox hg))
 (try simp only [Act.put,sA,sZ,sC])
 go_cut [23] (fun v23 wc=>∃ (kq:Nat) (x23_1:Bool),v23=.bool x23_1∧Aside0 (spec_LessGray.j0 kq x23_1 a0_0 a0_1 a0_2 a0_3 a0_4 l0_5 l0_6 a0_7 a0_8 a0_9 a0_10 l0_11 l0_12=some (r1,r2,r3,r4,r5,r6,r7,r8,r9,r10,r11,r12,r13,r14))∧Aside0 (kq≤k)∧Aside0 (wc.heap[gb322]?=some (.cells #[.int .i64 a0_0,.int .i64 a0_1,.int .i64 a0_2,.int .i64 a0_3,.bool a0_4,(.slice A0_5 l0_5.length c0_5),(.slice A0_6 l0_6.length c0_6),.int .i64 a0_7,.int .i64 a0_8,.int .i64 a0_9,.int .i64 a0_10,(.slice A0_11 l0_11.length c0_11),(.slice A0_12 l0_12.length c0_12)] 37 (0,0)))∧Aside0 (wc.heap[gb323]?=some (.cells #[.int .i64 0,.int .i64 0,.int .i64 0,.int .i64 0,.bool false,(.slice none 0 0),(.slice none 0 0),.int .i64 0,.int .i64 0,.int .i64 0,.int .i64 0,(.slice none 0 0),(.slice none 0 0)] 37 (0,0)))∧Aside0 (Below w.heap.size w wc))
 case first =>
  have H:=HC2.out
  clear HC2
  replace H:=Option.bind_eq_some_iff.mp H
  obtain ⟨t324,A50,H⟩:=H
  replace H:(if t324=true then (if a0_2=16 then (spec_LessGray.j0 k true a0_0 a0_1 a0_2 a0_3 a0_4 l0_5 l0_6 a0_7 a0_8 a0_9 a0_10 l0_11 l0_12) else (spec_LessGray.j0 k (a0_2 == 1) a0_0 a0_1 a0_2 a0_3 a0_4 l0_5 l0_6 a0_7 a0_8 a0_9 a0_10 l0_11 l0_12)) else (spec_LessGray.j0 k true a0_0 a0_1 a0_2 a0_3 a0_4 l0_5 l0_6 a0_7 a0_8 a0_9 a0_10 l0_11 l0_12))=some (r1,r2,r3,r4,r5,r6,r7,r8,r9,r10,r11,r12,r13,r14):=H
  have A5:=Aside0.mk A50
  clear A50
  by_cases c6:t324=true
  ·subst c6
   have H1:(if a0_2=16 then (spec_LessGray.j0 k true a0_0 a0_1 a0_2 a0_3 a0_4 l0_5 l0_6 a0_7 a0_8 a0_9 a0_10 l0_11 l0_12) else (spec_LessGray.j0 k (a0_2 == 1) a0_0 a0_1 a0_2 a0_3 a0_4 l0_5 l0_6 a0_7 a0_8 a0_9 a0_10 l0_11 l0_12))=some (r1,r2,r3,r4,r5,r6,r7,r8,r9,r10,r11,r12,r13,r14):=by rw [if_pos rfl] at H;exact H
   clear H
   have H:=H1
   clear H1
   by_cases c7:a0_2=16
   ·rw [if_pos c7] at H
    have c7b0:(a0_2 == 16)=true:=beq_iff_eq.mpr c7
    have c7b1:(a0_2 != 16)=false:=bne_eq_false_iff_eq.mpr c7
    clear c7
    (first|rw [c7b0]|(simp only [i64_w,i32_w];rw [c7b0])|skip)
    have H':=Aside0.mk H
    clear H
    have hnb8:=NB322_323.out
    have hnc8:=NB323_322.out
    obtain ⟨z9_0,z9_1,z9_2,z9_3,z9_4,z9_5,z9_6,z9_7,z9_8,z9_9,z9_10,z9_11,z9_12,y9_0,y9_1,y9_2,y9_3,y9_4,y9_5,y9_6,y9_7,y9_8,y9_9,y9_10,y9_11,y9_12⟩:=blk13f BK322
    go_wp2_with (first|((with_reducible refine gate_callee (f:=60) rfl ?_);refine gL (some 10) Try.func60 #[.agg #[.int .i64 a0_0,.int .i64 a0_1,.int .i64 a0_2,.int .i64 a0_3,.bool a0_4,.slice A0_5 l0_5.length c0_5,.slice A0_6 l0_6.length c0_6,.int .i64 a0_7,.int .i64 a0_8,.int .i64 a0_9,.int .i64 a0_10,.slice A0_11 l0_11.length c0_11,.slice A0_12 l0_12.length c0_12],.int .i64 0,.int .i64 0] ?_;(with_reducible refine (spec_l19May.calls k a0_0 a0_1 a0_2 a0_3 a0_4 _ _ l0_5 _ _ l0_6 a0_7 a0_8 a0_9 a0_10 _ _ l0_11 _ _ l0_12 0 0 true _ (cB HR0_5) HC0_5.out (cB HR0_6) HC0_6.out (cB HR0_11) HC0_11.out (cB HR0_12) HC0_12.out A5.out).mono ?_);rintro e w10 ⟨rfl,hb⟩;refine ⟨_,rfl,?_⟩;replace BK322:=Aside0.mk (bkb BK322 hb);replace BK323:=Aside0.mk (bkb BK323 hb);replace HB:=Aside0.mk (below_step bG hb);(try clear hb);obtain ⟨z11_0,z11_1,z11_2,z11_3,z11_4,z11_5,z11_6,z11_7,z11_8,z11_9,z11_10,z11_11,z11_12,y11_0,y11_1,y11_2,y11_3,y11_4,y11_5,y11_6,y11_7,y11_8,y11_9,y11_10,y11_11,y11_12⟩:=blk13f BK322))
    go_meet
    case rel=>exact ⟨_,(true),fS,H',⟨by first|omega|exact Nat.le_refl _⟩,⟨by (with_reducible repeat (first|refine blk_drewN ?_ _|refine blk_drew ?_|refine blk_alloc ?_ _));exact BK322.out⟩,⟨by (with_reducible repeat (first|refine blk_drewN ?_ _|refine blk_drew ?_|refine blk_alloc ?_ _));exact BK323.out⟩,⟨bG⟩⟩
   ·rw [if_neg c7] at H
    have c7b0:(a0_2 == 16)=false:=beq_eq_false_iff_ne.mpr c7
    have c7b1:(a0_2 != 16)=true:=bne_iff_ne.mpr c7
    (first|rw [c7b0]|(simp only [i64_w,i32_w];rw [c7b0])|skip)
    have H':=Aside0.mk H
    clear H
    have hnb12:=NB322_323.out
    have hnc12:=NB323_322.out
    obtain ⟨z13_0,z13_1,z13_2,z13_3,z13_4,z13_5,z13_6,z13_7,z13_8,z13_9,z13_10,z13_11,z13_12,y13_0,y13_1,y13_2,y13_3,y13_4,y13_5,y13_6,y13_7,y13_8,y13_9,y13_10,y13_11,y13_12⟩:=blk13f BK322
    go_wp2_with (first|((with_reducible refine gate_callee (f:=60) rfl ?_);refine gL (some 10) Try.func60 #[.agg #[.int .i64 a0_0,.int .i64 a0_1,.int .i64 a0_2,.int .i64 a0_3,.bool a0_4,.slice A0_5 l0_5.length c0_5,.slice A0_6 l0_6.length c0_6,.int .i64 a0_7,.int .i64 a0_8,.int .i64 a0_9,.int .i64 a0_10,.slice A0_11 l0_11.length c0_11,.slice A0_12 l0_12.length c0_12],.int .i64 0,.int .i64 0] ?_;(with_reducible refine (spec_l19May.calls k a0_0 a0_1 a0_2 a0_3 a0_4 _ _ l0_5 _ _ l0_6 a0_7 a0_8 a0_9 a0_10 _ _ l0_11 _ _ l0_12 0 0 true _ (cB HR0_5) HC0_5.out (cB HR0_6) HC0_6.out (cB HR0_11) HC0_11.out (cB HR0_12) HC0_12.out A5.out).mono ?_);rintro e w14 ⟨rfl,hb⟩;refine ⟨_,rfl,?_⟩;replace BK322:=Aside0.mk (bkb BK322 hb);replace BK323:=Aside0.mk (bkb BK323 hb);replace HB:=Aside0.mk (below_step bG hb);(try clear hb);obtain ⟨z15_0,z15_1,z15_2,z15_3,z15_4,z15_5,z15_6,z15_7,z15_8,z15_9,z15_10,z15_11,z15_12,y15_0,y15_1,y15_2,y15_3,y15_4,y15_5,y15_6,y15_7,y15_8,y15_9,y15_10,y15_11,y15_12⟩:=blk13f BK322))
    go_meet
    case rel=>exact ⟨_,((a0_2 == 1)),fS,H',⟨by first|omega|exact Nat.le_refl _⟩,⟨by (with_reducible repeat (first|refine blk_drewN ?_ _|refine blk_drew ?_|refine blk_alloc ?_ _));exact BK322.out⟩,⟨by (with_reducible repeat (first|refine blk_drewN ?_ _|refine blk_drew ?_|refine blk_alloc ?_ _));exact BK323.out⟩,⟨bG⟩⟩
  ·obtain rfl:=bF c6
   have H1:(spec_LessGray.j0 k true a0_0 a0_1 a0_2 a0_3 a0_4 l0_5 l0_6 a0_7 a0_8 a0_9 a0_10 l0_11 l0_12)=some (r1,r2,r3,r4,r5,r6,r7,r8,r9,r10,r11,r12,r13,r14):=by rw [if_neg nF] at H;exact H
   clear H
   have H:=H1
   clear H1
   have H':=Aside0.mk H
   clear H
   have hnb16:=NB322_323.out
   have hnc16:=NB323_322.out
   obtain ⟨z17_0,z17_1,z17_2,z17_3,z17_4,z17_5,z17_6,z17_7,z17_8,z17_9,z17_10,z17_11,z17_12,y17_0,y17_1,y17_2,y17_3,y17_4,y17_5,y17_6,y17_7,y17_8,y17_9,y17_10,y17_11,y17_12⟩:=blk13f BK322
   go_wp2_with (first|((with_reducible refine gate_callee (f:=60) rfl ?_);refine gL (some 10) Try.func60 #[.agg #[.int .i64 a0_0,.int .i64 a0_1,.int .i64 a0_2,.int .i64 a0_3,.bool a0_4,.slice A0_5 l0_5.length c0_5,.slice A0_6 l0_6.length c0_6,.int .i64 a0_7,.int .i64 a0_8,.int .i64 a0_9,.int .i64 a0_10,.slice A0_11 l0_11.length c0_11,.slice A0_12 l0_12.length c0_12],.int .i64 0,.int .i64 0] ?_;(with_reducible refine (spec_l19May.calls k a0_0 a0_1 a0_2 a0_3 a0_4 _ _ l0_5 _ _ l0_6 a0_7 a0_8 a0_9 a0_10 _ _ l0_11 _ _ l0_12 0 0 false _ (cB HR0_5) HC0_5.out (cB HR0_6) HC0_6.out (cB HR0_11) HC0_11.out (cB HR0_12) HC0_12.out A5.out).mono ?_);rintro e w18 ⟨rfl,hb⟩;refine ⟨_,rfl,?_⟩;replace BK322:=Aside0.mk (bkb BK322 hb);replace BK323:=Aside0.mk (bkb BK323 hb);replace HB:=Aside0.mk (below_step bG hb);(try clear hb)))
   go_meet
   case rel=>exact ⟨_,(true),fS,H',⟨by first|omega|exact Nat.le_refl _⟩,⟨by (with_reducible repeat (first|refine blk_drewN ?_ _|refine blk_drew ?_|refine blk_alloc ?_ _));exact BK322.out⟩,⟨by (with_reducible repeat (first|refine blk_drewN ?_ _|refine blk_drew ?_|refine blk_alloc ?_ _));exact BK323.out⟩,⟨bG⟩⟩
 case rest =>
  clear HC2
  obtain ⟨kq,x23_1,rfl,HA,HJ1,BK322,BK323,HB⟩:=hcut
  cases kq with
  | zero=>exact absurd HA.out (by simp [spec_LessGray.j0])
  | succ kj1 =>
   have H:=HA.out
   clear HA
   simp only [spec_LessGray.j0] at H
   by_cases c19:x23_1=true
   ·subst c19
    have H1:(some (0,0,0,0,false,([]:List (S95)),([]:List Int),0,0,0,0,([]:List Int),([]:List (S83)),false))=some (r1,r2,r3,r4,r5,r6,r7,r8,r9,r10,r11,r12,r13,r14):=by rw [if_pos rfl] at H;exact H
    clear H
    have H:=H1
    clear H1
    simp only [Option.some.injEq,Prod.mk.injEq] at H
    obtain ⟨rfl,rfl,rfl,rfl,rfl,rfl,rfl,rfl,rfl,rfl,rfl,rfl,rfl,rfl⟩:=H
    have hnb20:=NB323_322.out
    have hnc20:=NB322_323.out
    obtain ⟨z21_0,z21_1,z21_2,z21_3,z21_4,z21_5,z21_6,z21_7,z21_8,z21_9,z21_10,z21_11,z21_12,y21_0,y21_1,y21_2,y21_3,y21_4,y21_5,y21_6,y21_7,y21_8,y21_9,y21_10,y21_11,y21_12⟩:=blk13f BK323
    go_wp2
    refine bodyPost_ret (results_ct rfl _ _ gb323 37 #[.int .i64 0,.int .i64 0,.int .i64 0,.int .i64 0,.bool false,.slice none 0 0,.slice none 0 0,.int .i64 0,.int .i64 0,.int .i64 0,.int .i64 0,.slice none 0 0,.slice none 0 0] (0,0) _ rfl (by refine bP (cs:=?_) ?_ 12 ?_;rotate_left;refine bP (cs:=?_) ?_ 11 ?_;rotate_left;refine bP (cs:=?_) ?_ 10 ?_;rotate_left;refine bP (cs:=?_) ?_ 9 ?_;rotate_left;refine bP (cs:=?_) ?_ 8 ?_;rotate_left;refine bP (cs:=?_) ?_ 7 ?_;rotate_left;refine bP (cs:=?_) ?_ 6 ?_;rotate_left;refine bP (cs:=?_) ?_ 5 ?_;rotate_left;refine bP (cs:=?_) ?_ 4 ?_;rotate_left;refine bP (cs:=?_) ?_ 3 ?_;rotate_left;refine bP (cs:=?_) ?_ 2 ?_;rotate_left;refine bP (cs:=?_) ?_ 1 ?_;rotate_left;refine bP (cs:=?_) ?_ 0 ?_;rotate_left;exact BK323.out;all_goals ((try simp only [sA,sZ,sC]);first|done|rfl)) Try.underlying37 rfl (by kernel_rfl)) rfl ?_
    exact ⟨_,_,_,_,fE,by first|exact Kd.R_nil _ _ _ _ _|exact Kd.N_nil _ _ _ _ _|exact Kd.V_nil _ _ _ _ _|exact Kd.Q_nil _ _ _ _ _|exact Kd.S_nil _ _ _ _ _,by first|exact Kd.R_nil _ _ _ _ _|exact Kd.N_nil _ _ _ _ _|exact Kd.V_nil _ _ _ _ _|exact Kd.Q_nil _ _ _ _ _|exact Kd.S_nil _ _ _ _ _,by first|exact Kd.R_nil _ _ _ _ _|exact Kd.N_nil _ _ _ _ _|exact Kd.V_nil _ _ _ _ _|exact Kd.Q_nil _ _ _ _ _|exact Kd.S_nil _ _ _ _ _,by first|exact Kd.R_nil _ _ _ _ _|exact Kd.N_nil _ _ _ _ _|exact Kd.V_nil _ _ _ _ _|exact Kd.Q_nil _ _ _ _ _|exact Kd.S_nil _ _ _ _ _,bG⟩
   ·obtain rfl:=bF c19
    have H1:(if a0_2=4 then (spec_LessGray.j1 kj1 5 a0_0 a0_1 a0_2 a0_3 a0_4 l0_5 l0_6 a0_7 a0_8 a0_9 a0_10 l0_11 l0_12) else (spec_LessGray.j1 kj1 17 a0_0 a0_1 a0_2 a0_3 a0_4 l0_5 l0_6 a0_7 a0_8 a0_9 a0_10 l0_11 l0_12))=some (r1,r2,r3,r4,r5,r6,r7,r8,r9,r10,r11,r12,r13,r14):=by rw [if_neg nF] at H;exact H
    clear H
    have H:=H1
    clear H1
    have HC22:=Aside0.mk H
    clear H
    have hnb23:=NB322_323.out
    have hnc23:=NB323_322.out
    obtain ⟨z24_0,z24_1,z24_2,z24_3,z24_4,z24_5,z24_6,z24_7,z24_8,z24_9,z24_10,z24_11,z24_12,y24_0,y24_1,y24_2,y24_3,y24_4,y24_5,y24_6,y24_7,y24_8,y24_9,y24_10,y24_11,y24_12⟩:=blk13f BK322
    go_upto_if 28 with (fail)
    go_cut [4] (fun v4 wc=>∃ (kq:Nat) (x4_21:Int),v4=.int .i64 x4_21∧Aside0 (spec_LessGray.j1 kq x4_21 a0_0 a0_1 a0_2 a0_3 a0_4 l0_5 l0_6 a0_7 a0_8 a0_9 a0_10 l0_11 l0_12=some (r1,r2,r3,r4,r5,r6,r7,r8,r9,r10,r11,r12,r13,r14))∧Aside0 (kq≤kj1)∧Aside0 (wc.heap[gb322]?=some (.cells #[.int .i64 a0_0,.int .i64 a0_1,.int .i64 a0_2,.int .i64 a0_3,.bool a0_4,(.slice A0_5 l0_5.length c0_5),(.slice A0_6 l0_6.length c0_6),.int .i64 a0_7,.int .i64 a0_8,.int .i64 a0_9,.int .i64 a0_10,(.slice A0_11 l0_11.length c0_11),(.slice A0_12 l0_12.length c0_12)] 37 (0,0)))∧Aside0 (wc.heap[gb323]?=some (.cells #[.int .i64 0,.int .i64 0,.int .i64 0,.int .i64 0,.bool false,(.slice none 0 0),(.slice none 0 0),.int .i64 0,.int .i64 0,.int .i64 0,.int .i64 0,(.slice none 0 0),(.slice none 0 0)] 37 (0,0)))∧Aside0 (Below w.heap.size w wc))
    case first =>
     have H:=HC22.out
     clear HC22
     by_cases c25:a0_2=4
     ·rw [if_pos c25] at H
      have c25b0:(a0_2 == 4)=true:=beq_iff_eq.mpr c25
      have c25b1:(a0_2 != 4)=false:=bne_eq_false_iff_eq.mpr c25
      clear c25
      (first|rw [c25b0]|(simp only [i64_w,i32_w];rw [c25b0])|skip)
      have H':=Aside0.mk H
      clear H
      go_wp2
      go_meet
      case rel=>exact ⟨_,(5),fS,H',⟨by have:=HJ1.out;first|omega|exact Nat.le_refl _⟩,⟨by (with_reducible repeat (first|refine blk_drewN ?_ _|refine blk_drew ?_|refine blk_alloc ?_ _));exact BK322.out⟩,⟨by (with_reducible repeat (first|refine blk_drewN ?_ _|refine blk_drew ?_|refine blk_alloc ?_ _));exact BK323.out⟩,⟨bG⟩⟩
     ·rw [if_neg c25] at H
      have c25b0:(a0_2 == 4)=false:=beq_eq_false_iff_ne.mpr c25
      have c25b1:(a0_2 != 4)=true:=bne_iff_ne.mpr c25
      (first|rw [c25b0]|(simp only [i64_w,i32_w];rw [c25b0])|skip)
      have H':=Aside0.mk H
      clear H
      go_wp2
      go_meet
      case rel=>exact ⟨_,(17),fS,H',⟨by have:=HJ1.out;first|omega|exact Nat.le_refl _⟩,⟨by (with_reducible repeat (first|refine blk_drewN ?_ _|refine blk_drew ?_|refine blk_alloc ?_ _));exact BK322.out⟩,⟨by (with_reducible repeat (first|refine blk_drewN ?_ _|refine blk_drew ?_|refine blk_alloc ?_ _));exact BK323.out⟩,⟨bG⟩⟩
    case rest =>
     clear HC22
     clear z24_0 z24_1 z24_10 z24_11 z24_12 z24_2 z24_3 z24_4 z24_5 z24_6 z24_7 z24_8 z24_9 y24_0 y24_1 y24_10 y24_11 y24_12 y24_2 y24_3 y24_4 y24_5 y24_6 y24_7 y24_8 y24_9
     obtain ⟨kq,x4_21,rfl,HA,HJ21,BK322,BK323,HB⟩:=hcut
     cases kq with
     | zero=>exact absurd HA.out (by simp [spec_LessGray.j1])
     | succ kj21 =>
      have H:=HA.out
      clear HA
      simp only [spec_LessGray.j1] at H
      have HC26:=Aside0.mk H
      clear H
      have hnb27:=NB322_323.out
      have hnc27:=NB323_322.out
      obtain ⟨z28_0,z28_1,z28_2,z28_3,z28_4,z28_5,z28_6,z28_7,z28_8,z28_9,z28_10,z28_11,z28_12,y28_0,y28_1,y28_2,y28_3,y28_4,y28_5,y28_6,y28_7,y28_8,y28_9,y28_10,y28_11,y28_12⟩:=blk13f BK322
      go_upto_if 32 with (fail)
      go_cut [4] (fun v4 wc=>∃ (kq:Nat) (x4_25:Int),v4=.int .i64 x4_25∧Aside0 (spec_LessGray.j2 kq x4_25 a0_0 a0_1 a0_2 a0_3 a0_4 l0_5 l0_6 a0_7 a0_8 a0_9 a0_10 l0_11 l0_12=some (r1,r2,r3,r4,r5,r6,r7,r8,r9,r10,r11,r12,r13,r14))∧Aside0 (kq≤kj21)∧Aside0 (wc.heap[gb322]?=some (.cells #[.int .i64 a0_0,.int .i64 a0_1,.int .i64 a0_2,.int .i64 a0_3,.bool a0_4,(.slice A0_5 l0_5.length c0_5),(.slice A0_6 l0_6.length c0_6),.int .i64 a0_7,.int .i64 a0_8,.int .i64 a0_9,.int .i64 a0_10,(.slice A0_11 l0_11.length c0_11),(.slice A0_12 l0_12.length c0_12)] 37 (0,0)))∧Aside0 (wc.heap[gb323]?=some (.cells #[.int .i64 0,.int .i64 0,.int .i64 0,.int .i64 0,.bool false,(.slice none 0 0),(.slice none 0 0),.int .i64 0,.int .i64 0,.int .i64 0,.int .i64 0,(.slice none 0 0),(.slice none 0 0)] 37 (0,0)))∧Aside0 (Below w.heap.size w wc))
      case first =>
       have H:=HC26.out
       clear HC26
       by_cases c29:a0_2=2
       ·rw [if_pos c29] at H
        have c29b0:(a0_2 == 2)=true:=beq_iff_eq.mpr c29
        have c29b1:(a0_2 != 2)=false:=bne_eq_false_iff_eq.mpr c29
        clear c29
        (first|rw [c29b0]|(simp only [i64_w,i32_w];rw [c29b0])|skip)
        have H':=Aside0.mk H
        clear H
        go_wp2
        go_meet
        case rel=>exact ⟨_,(3),fS,H',⟨by have:=HJ1.out;have:=HJ21.out;first|omega|exact Nat.le_refl _⟩,⟨by (with_reducible repeat (first|refine blk_drewN ?_ _|refine blk_drew ?_|refine blk_alloc ?_ _));exact BK322.out⟩,⟨by (with_reducible repeat (first|refine blk_drewN ?_ _|refine blk_drew ?_|refine blk_alloc ?_ _));exact BK323.out⟩,⟨bG⟩⟩
       ·rw [if_neg c29] at H
        have c29b0:(a0_2 == 2)=false:=beq_eq_false_iff_ne.mpr c29
        have c29b1:(a0_2 != 2)=true:=bne_iff_ne.mpr c29
        (first|rw [c29b0]|(simp only [i64_w,i32_w];rw [c29b0])|skip)
        have H':=Aside0.mk H
        clear H
        go_wp2
        go_meet
        case rel=>exact ⟨_,(x4_21),fS,H',⟨by have:=HJ1.out;have:=HJ21.out;first|omega|exact Nat.le_refl _⟩,⟨by (with_reducible repeat (first|refine blk_drewN ?_ _|refine blk_drew ?_|refine blk_alloc ?_ _));exact BK322.out⟩,⟨by (with_reducible repeat (first|refine blk_drewN ?_ _|refine blk_drew ?_|refine blk_alloc ?_ _));exact BK323.out⟩,⟨bG⟩⟩
      case rest =>
       clear HC26
       clear z28_0 z28_1 z28_10 z28_11 z28_12 z28_2 z28_3 z28_4 z28_5 z28_6 z28_7 z28_8 z28_9 y28_0 y28_1 y28_10 y28_11 y28_12 y28_2 y28_3 y28_4 y28_5 y28_6 y28_7 y28_8 y28_9
       obtain ⟨kq,x4_25,rfl,HA,HJ25,BK322,BK323,HB⟩:=hcut
       cases kq with
       | zero=>exact absurd HA.out (by simp [spec_LessGray.j2])
       | succ kj25 =>
        have H:=HA.out
        clear HA
        simp only [spec_LessGray.j2] at H
        replace H:=Option.bind_eq_some_iff.mp H
        obtain ⟨⟨t325,t326⟩,A300,H⟩:=H
        replace H:((spec_l19Divided.f kj25 l0_6 x4_25).bind fun bt329=>(if t326=true then (if bt329.2=true then ((spec_l19With.f a0_0 a0_1 a0_2 a0_3 a0_4 l0_5 l0_6 a0_7 a0_8 a0_9 a0_10 l0_11 l0_12 0 (wrap64 (Int.tdiv a0_2 2)) t325 bt329.1).bind fun bt333=>(some (bt333.1,bt333.2.1,bt333.2.2.1,bt333.2.2.2.1,bt333.2.2.2.2.1,bt333.2.2.2.2.2.1,bt333.2.2.2.2.2.2.1,bt333.2.2.2.2.2.2.2.1,bt333.2.2.2.2.2.2.2.2.1,bt333.2.2.2.2.2.2.2.2.2.1,bt333.2.2.2.2.2.2.2.2.2.2.1,bt333.2.2.2.2.2.2.2.2.2.2.2.1,bt333.2.2.2.2.2.2.2.2.2.2.2.2,true))) else (some (0,0,0,0,false,([]:List (S95)),([]:List Int),0,0,0,0,([]:List Int),([]:List (S83)),false))) else (some (0,0,0,0,false,([]:List (S95)),([]:List Int),0,0,0,0,([]:List Int),([]:List (S83)),false))))=some (r1,r2,r3,r4,r5,r6,r7,r8,r9,r10,r11,r12,r13,r14):=H
        have A30:=Aside0.mk A300
        clear A300
        replace H:=Option.bind_eq_some_iff.mp H
        obtain ⟨⟨t329,t330⟩,A310,H⟩:=H
        replace H:(if t326=true then (if t330=true then ((spec_l19With.f a0_0 a0_1 a0_2 a0_3 a0_4 l0_5 l0_6 a0_7 a0_8 a0_9 a0_10 l0_11 l0_12 0 (wrap64 (Int.tdiv a0_2 2)) t325 t329).bind fun bt333=>(some (bt333.1,bt333.2.1,bt333.2.2.1,bt333.2.2.2.1,bt333.2.2.2.2.1,bt333.2.2.2.2.2.1,bt333.2.2.2.2.2.2.1,bt333.2.2.2.2.2.2.2.1,bt333.2.2.2.2.2.2.2.2.1,bt333.2.2.2.2.2.2.2.2.2.1,bt333.2.2.2.2.2.2.2.2.2.2.1,bt333.2.2.2.2.2.2.2.2.2.2.2.1,bt333.2.2.2.2.2.2.2.2.2.2.2.2,true))) else (some (0,0,0,0,false,([]:List (S95)),([]:List Int),0,0,0,0,([]:List Int),([]:List (S83)),false))) else (some (0,0,0,0,false,([]:List (S95)),([]:List Int),0,0,0,0,([]:List Int),([]:List (S83)),false)))=some (r1,r2,r3,r4,r5,r6,r7,r8,r9,r10,r11,r12,r13,r14):=H
        have A31:=Aside0.mk A310
        clear A310
        by_cases c32:t326=true
        ·subst c32
         have H1:(if t330=true then ((spec_l19With.f a0_0 a0_1 a0_2 a0_3 a0_4 l0_5 l0_6 a0_7 a0_8 a0_9 a0_10 l0_11 l0_12 0 (wrap64 (Int.tdiv a0_2 2)) t325 t329).bind fun bt333=>(some (bt333.1,bt333.2.1,bt333.2.2.1,bt333.2.2.2.1,bt333.2.2.2.2.1,bt333.2.2.2.2.2.1,bt333.2.2.2.2.2.2.1,bt333.2.2.2.2.2.2.2.1,bt333.2.2.2.2.2.2.2.2.1,bt333.2.2.2.2.2.2.2.2.2.1,bt333.2.2.2.2.2.2.2.2.2.2.1,bt333.2.2.2.2.2.2.2.2.2.2.2.1,bt333.2.2.2.2.2.2.2.2.2.2.2.2,true))) else (some (0,0,0,0,false,([]:List (S95)),([]:List Int),0,0,0,0,([]:List Int),([]:List (S83)),false)))=some (r1,r2,r3,r4,r5,r6,r7,r8,r9,r10,r11,r12,r13,r14):=by rw [if_pos rfl] at H;exact H
         clear H
         have H:=H1
         clear H1
         by_cases c33:t330=true
         ·subst c33
          have H1:((spec_l19With.f a0_0 a0_1 a0_2 a0_3 a0_4 l0_5 l0_6 a0_7 a0_8 a0_9 a0_10 l0_11 l0_12 0 (wrap64 (Int.tdiv a0_2 2)) t325 t329).bind fun bt333=>(some (bt333.1,bt333.2.1,bt333.2.2.1,bt333.2.2.2.1,bt333.2.2.2.2.1,bt333.2.2.2.2.2.1,bt333.2.2.2.2.2.2.1,bt333.2.2.2.2.2.2.2.1,bt333.2.2.2.2.2.2.2.2.1,bt333.2.2.2.2.2.2.2.2.2.1,bt333.2.2.2.2.2.2.2.2.2.2.1,bt333.2.2.2.2.2.2.2.2.2.2.2.1,bt333.2.2.2.2.2.2.2.2.2.2.2.2,true)))=some (r1,r2,r3,r4,r5,r6,r7,r8,r9,r10,r11,r12,r13,r14):=by rw [if_pos rfl] at H;exact H
          clear H
          have H:=H1
          clear H1
          replace H:=Option.bind_eq_some_iff.mp H
          obtain ⟨⟨t333,t334,t335,t336,t337,t338,t341,t344,t345,t346,t347,t348,t351⟩,A340,H⟩:=H
          replace H:(some (t333,t334,t335,t336,t337,t338,t341,t344,t345,t346,t347,t348,t351,true))=some (r1,r2,r3,r4,r5,r6,r7,r8,r9,r10,r11,r12,r13,r14):=H
          have A34:=Aside0.mk A340
          clear A340
          simp only [Option.some.injEq,Prod.mk.injEq] at H
          obtain ⟨rfl,rfl,rfl,rfl,rfl,rfl,rfl,rfl,rfl,rfl,rfl,rfl,rfl,rfl⟩:=H
          have hnb35:=NB322_323.out
          have hnc35:=NB323_322.out
          obtain ⟨z36_0,z36_1,z36_2,z36_3,z36_4,z36_5,z36_6,z36_7,z36_8,z36_9,z36_10,z36_11,z36_12,y36_0,y36_1,y36_2,y36_3,y36_4,y36_5,y36_6,y36_7,y36_8,y36_9,y36_10,y36_11,y36_12⟩:=blk13f BK322
          go_wp2_with (first|((with_reducible refine gate_callee (f:=38) rfl ?_);refine gL (some 38) Try.func38 #[.slice A0_11 l0_11.length c0_11,.int .i64 x4_25] ?_;(with_reducible refine (spec_l19Divided.calls kj25 _ _ l0_11 x4_25 t325 true _ (cB HR0_11) HC0_11.out A30.out).mono ?_);rintro e w37 ⟨v327,rfl,ho0,hb⟩;refine ⟨_,rfl,?_⟩;have HO328:=Aside0.mk (Kd.R_lower ho0 (below_size bG));replace BK322:=Aside0.mk (bkb BK322 hb);replace BK323:=Aside0.mk (bkb BK323 hb);replace HB:=Aside0.mk (below_step bG hb);(try clear hb);(try clear ho0);obtain ⟨z38_0,z38_1,z38_2,z38_3,z38_4,z38_5,z38_6,z38_7,z38_8,z38_9,z38_10,z38_11,z38_12,y38_0,y38_1,y38_2,y38_3,y38_4,y38_5,y38_6,y38_7,y38_8,y38_9,y38_10,y38_11,y38_12⟩:=blk13f BK322)|((with_reducible refine gate_callee (f:=38) rfl ?_);refine gL (some 45) Try.func38 #[.slice A0_6 l0_6.length c0_6,.int .i64 x4_25] ?_;(with_reducible refine (spec_l19Divided.calls kj25 _ _ l0_6 x4_25 t329 true _ (cB HR0_6) HC0_6.out A31.out).mono ?_);rintro e w39 ⟨v331,rfl,ho0,hb⟩;refine ⟨_,rfl,?_⟩;have n0_:=Aside0.mk (Kd.R_elder' (rS HO328) (Kd.R_base ho0) hb);have n1_:=Aside0.mk (Kd.R_lower (Kd.R_new' ho0 (Kd.R_lt (rS HO328))) (below_size bG));have n2_:=Aside0.mk (bkb BK322 hb);have n3_:=Aside0.mk (bkb BK323 hb);have n4_:=Aside0.mk (below_step bG hb);clear HO328;clear BK322;clear BK323;clear HB;have HO328:=n0_;have HO332:=n1_;have BK322:=n2_;have BK323:=n3_;have HB:=n4_;clear n0_ n1_ n2_ n3_ n4_;(try clear hb);(try clear ho0);obtain ⟨z40_0,z40_1,z40_2,z40_3,z40_4,z40_5,z40_6,z40_7,z40_8,z40_9,z40_10,z40_11,z40_12,y40_0,y40_1,y40_2,y40_3,y40_4,y40_5,y40_6,y40_7,y40_8,y40_9,y40_10,y40_11,y40_12⟩:=blk13f BK322;obtain ⟨Ao41,co41,eo41⟩:=Kd.R_slice HO328.out;subst eo41;obtain ⟨Ao42,co42,eo42⟩:=Kd.R_slice HO332.out;subst eo42)|((with_reducible refine gate_callee (f:=39) rfl ?_);refine gL (some 62) Try.func39 #[.agg #[.int .i64 a0_0,.int .i64 a0_1,.int .i64 a0_2,.int .i64 a0_3,.bool a0_4,.slice A0_5 l0_5.length c0_5,.slice A0_6 l0_6.length c0_6,.int .i64 a0_7,.int .i64 a0_8,.int .i64 a0_9,.int .i64 a0_10,.slice A0_11 l0_11.length c0_11,.slice A0_12 l0_12.length c0_12],.int .i64 0,.int .i64 (wrap64 (Int.tdiv a0_2 2)),.slice Ao41 t325.length co41,.slice Ao42 t329.length co42] ?_;(with_reducible refine (spec_l19With.calls a0_0 a0_1 a0_2 a0_3 a0_4 _ _ l0_5 _ _ l0_6 a0_7 a0_8 a0_9 a0_10 _ _ l0_11 _ _ l0_12 0 (wrap64 (Int.tdiv a0_2 2)) (fun k_=>some k_=(.slice Ao41 t325.length co41:Value).ownBlock) (.slice Ao41 t325.length co41) t325 (fun k_=>some k_=(.slice Ao42 t329.length co42:Value).ownBlock) (.slice Ao42 t329.length co42) t329 t333 t334 t335 t336 t337 t338 t341 t344 t345 t346 t347 t348 t351 w _ ?side1 ?side2 HC0_5.out ?side4 HC0_6.out ?side6 HC0_11.out ?side8 HC0_12.out ?side10 ?side11 ?side12 ?side13 A34.out).mono ?_);(case side1=>repeat (first|(with_reducible first|exact HB.out|apply below_alloc|apply pw_below_drewN|apply below_drew1|refine below_set ?_ GE322.out|refine below_set ?_ GE323.out)|exact HB.out));(case side2=>exact Kd.C_kept_came k95_heap HR0_5.out bG (fun k_ hs_=>Or.elim hs_ (fun e_=>(fun e_=>Kd.R_base HO328.out k_ e_.symm) e_) (fun e_=>(fun e_=>Kd.R_base HO332.out k_ e_.symm) e_)));(case side4=>exact Kd.C_kept_came (Kd.heap_int .i64) HR0_6.out bG (fun k_ hs_=>Or.elim hs_ (fun e_=>(fun e_=>Kd.R_base HO328.out k_ e_.symm) e_) (fun e_=>(fun e_=>Kd.R_base HO332.out k_ e_.symm) e_)));(case side6=>exact Kd.C_kept_came (Kd.heap_int .i64) HR0_11.out bG (fun k_ hs_=>Or.elim hs_ (fun e_=>(fun e_=>Kd.R_base HO328.out k_ e_.symm) e_) (fun e_=>(fun e_=>Kd.R_base HO332.out k_ e_.symm) e_)));(case side8=>exact Kd.C_kept_came k83_heap HR0_12.out bG (fun k_ hs_=>Or.elim hs_ (fun e_=>(fun e_=>Kd.R_base HO328.out k_ e_.symm) e_) (fun e_=>(fun e_=>Kd.R_base HO332.out k_ e_.symm) e_)));(case side10=>exact Kd.R_tight rfl HO328.out);(case side11=>exact fun k_ e_=>(HO328.out.1 k_ e_.symm).2);(case side12=>exact Kd.R_tight rfl HO332.out);(case side13=>exact fun k_ e_=>(HO332.out.1 k_ e_.symm).2);rintro e w43 ⟨v339,v342,v349,v352,rfl,ho0,ho1,ho2,ho3,hb,hkp⟩;refine ⟨_,rfl,?_⟩;replace BK322:=Aside0.mk (blk_kept (bk BK322) hkp (fun hs_=>Or.elim hs_ (fun e_=>(fun e_=>(Kd.R_ne HO328.out BK322.out (by decide)) e_) e_) (fun e_=>(fun e_=>(Kd.R_ne HO332.out BK322.out (by decide)) e_) e_)));replace BK323:=Aside0.mk (blk_kept (bk BK323) hkp (fun hs_=>Or.elim hs_ (fun e_=>(fun e_=>(Kd.R_ne HO328.out BK323.out (by decide)) e_) e_) (fun e_=>(fun e_=>(Kd.R_ne HO332.out BK323.out (by decide)) e_) e_)));have HO340:=Aside0.mk (Kd.R_mono (ok':=fun k_=>True) ho0 (fun k_ hk_=>trivial));have HO343:=Aside0.mk (Kd.R_mono (ok':=fun k_=>some k_≠(v349:Value).ownBlock) ho1 (fun k_ hk_=>hk_.2));have HO350:=Aside0.mk (Kd.R_mono (ok':=fun k_=>some k_≠(v342:Value).ownBlock) ho2 (fun k_ hk_=>hk_.2));have HO353:=Aside0.mk (Kd.R_mono (ok':=fun k_=>True) ho3 (fun k_ hk_=>trivial));replace HB:=Aside0.mk hb;clear HO328 HO332;(try clear hb);(try clear hkp);(try clear ho0);(try clear ho1);(try clear ho2);(try clear ho3);obtain ⟨z44_0,z44_1,z44_2,z44_3,z44_4,z44_5,z44_6,z44_7,z44_8,z44_9,z44_10,z44_11,z44_12,y44_0,y44_1,y44_2,y44_3,y44_4,y44_5,y44_6,y44_7,y44_8,y44_9,y44_10,y44_11,y44_12⟩:=blk13f BK323;obtain ⟨Ao45,co45,eo45⟩:=Kd.R_slice HO340.out;subst eo45;obtain ⟨Ao46,co46,eo46⟩:=Kd.R_slice HO343.out;subst eo46;obtain ⟨Ao47,co47,eo47⟩:=Kd.R_slice HO350.out;subst eo47;obtain ⟨Ao48,co48,eo48⟩:=Kd.R_slice HO353.out;subst eo48))
          refine bodyPost_ret (results_ct rfl _ _ gb323 37 #[.int .i64 t333,.int .i64 t334,.int .i64 t335,.int .i64 t336,.bool t337,.slice Ao45 t338.length co45,.slice Ao46 t341.length co46,.int .i64 t344,.int .i64 t345,.int .i64 t346,.int .i64 t347,.slice Ao47 t348.length co47,.slice Ao48 t351.length co48] (0,0) _ rfl (by refine bP (cs:=?_) ?_ 12 ?_;rotate_left;refine bP (cs:=?_) ?_ 11 ?_;rotate_left;refine bP (cs:=?_) ?_ 10 ?_;rotate_left;refine bP (cs:=?_) ?_ 9 ?_;rotate_left;refine bP (cs:=?_) ?_ 8 ?_;rotate_left;refine bP (cs:=?_) ?_ 7 ?_;rotate_left;refine bP (cs:=?_) ?_ 6 ?_;rotate_left;refine bP (cs:=?_) ?_ 5 ?_;rotate_left;refine bP (cs:=?_) ?_ 4 ?_;rotate_left;refine bP (cs:=?_) ?_ 3 ?_;rotate_left;refine bP (cs:=?_) ?_ 2 ?_;rotate_left;refine bP (cs:=?_) ?_ 1 ?_;rotate_left;refine bP (cs:=?_) ?_ 0 ?_;rotate_left;exact BK323.out;all_goals ((try simp only [sA,sZ,sC]);first|done|rfl)) Try.underlying37 rfl (by kernel_rfl)) rfl ?_
          exact ⟨_,_,_,_,fE,by (with_reducible repeat (first|apply Kd.R_alloc|apply Kd.R_drewN|apply Kd.R_drew));exact Kd.R_mono (rf (rf (rf (rf (rf (rf (rf (rf (rf (rf (rf (rf (rf (Kd.R_types HO340.out BK323.out (by decide))))))))))))))) (fun _ hk=>trivial),by (with_reducible repeat (first|apply Kd.R_alloc|apply Kd.R_drewN|apply Kd.R_drew));exact Kd.R_mono (rf (rf (rf (rf (rf (rf (rf (rf (rf (rf (rf (rf (rf (Kd.R_types HO343.out BK323.out (by decide))))))))))))))) (fun _ hk=>hk.1),by (with_reducible repeat (first|apply Kd.R_alloc|apply Kd.R_drewN|apply Kd.R_drew));exact Kd.R_mono (rf (rf (rf (rf (rf (rf (rf (rf (rf (rf (rf (rf (rf (Kd.R_types HO350.out BK323.out (by decide))))))))))))))) (fun _ hk=>hk.1),by (with_reducible repeat (first|apply Kd.R_alloc|apply Kd.R_drewN|apply Kd.R_drew));exact Kd.R_mono (rf (rf (rf (rf (rf (rf (rf (rf (rf (rf (rf (rf (rf (Kd.R_types HO353.out BK323.out (by decide))))))))))))))) (fun _ hk=>trivial),bG⟩
         ·obtain rfl:=bF c33
          have H1:(some (0,0,0,0,false,([]:List (S95)),([]:List Int),0,0,0,0,([]:List Int),([]:List (S83)),false))=some (r1,r2,r3,r4,r5,r6,r7,r8,r9,r10,r11,r12,r13,r14):=by rw [if_neg nF] at H;exact H
          clear H
          have H:=H1
          clear H1
          simp only [Option.some.injEq,Prod.mk.injEq] at H
          obtain ⟨rfl,rfl,rfl,rfl,rfl,rfl,rfl,rfl,rfl,rfl,rfl,rfl,rfl,rfl⟩:=H
          have hnb49:=NB322_323.out
          have hnc49:=NB323_322.out
          obtain ⟨z50_0,z50_1,z50_2,z50_3,z50_4,z50_5,z50_6,z50_7,z50_8,z50_9,z50_10,z50_11,z50_12,y50_0,y50_1,y50_2,y50_3,y50_4,y50_5,y50_6,y50_7,y50_8,y50_9,y50_10,y50_11,y50_12⟩:=blk13f BK322
          go_wp2_with (first|((with_reducible refine gate_callee (f:=38) rfl ?_);refine gL (some 38) Try.func38 #[.slice A0_11 l0_11.length c0_11,.int .i64 x4_25] ?_;(with_reducible refine (spec_l19Divided.calls kj25 _ _ l0_11 x4_25 t325 true _ (cB HR0_11) HC0_11.out A30.out).mono ?_);rintro e w51 ⟨v327,rfl,ho0,hb⟩;refine ⟨_,rfl,?_⟩;have HO328:=Aside0.mk (Kd.R_lower ho0 (below_size bG));replace BK322:=Aside0.mk (bkb BK322 hb);replace BK323:=Aside0.mk (bkb BK323 hb);replace HB:=Aside0.mk (below_step bG hb);(try clear hb);(try clear ho0);obtain ⟨z52_0,z52_1,z52_2,z52_3,z52_4,z52_5,z52_6,z52_7,z52_8,z52_9,z52_10,z52_11,z52_12,y52_0,y52_1,y52_2,y52_3,y52_4,y52_5,y52_6,y52_7,y52_8,y52_9,y52_10,y52_11,y52_12⟩:=blk13f BK322)|((with_reducible refine gate_callee (f:=38) rfl ?_);refine gL (some 45) Try.func38 #[.slice A0_6 l0_6.length c0_6,.int .i64 x4_25] ?_;(with_reducible refine (spec_l19Divided.calls kj25 _ _ l0_6 x4_25 t329 false _ (cB HR0_6) HC0_6.out A31.out).mono ?_);rintro e w53 ⟨v331,rfl,ho0,hb⟩;refine ⟨_,rfl,?_⟩;have n0_:=Aside0.mk (Kd.R_elder' (rS HO328) (Kd.R_base ho0) hb);have n1_:=Aside0.mk (Kd.R_lower (Kd.R_new' ho0 (Kd.R_lt (rS HO328))) (below_size bG));have n2_:=Aside0.mk (bkb BK322 hb);have n3_:=Aside0.mk (bkb BK323 hb);have n4_:=Aside0.mk (below_step bG hb);clear HO328;clear BK322;clear BK323;clear HB;have HO328:=n0_;have HO332:=n1_;have BK322:=n2_;have BK323:=n3_;have HB:=n4_;clear n0_ n1_ n2_ n3_ n4_;(try clear hb);(try clear ho0);obtain ⟨z54_0,z54_1,z54_2,z54_3,z54_4,z54_5,z54_6,z54_7,z54_8,z54_9,z54_10,z54_11,z54_12,y54_0,y54_1,y54_2,y54_3,y54_4,y54_5,y54_6,y54_7,y54_8,y54_9,y54_10,y54_11,y54_12⟩:=blk13f BK323))
          refine bodyPost_ret (results_ct rfl _ _ gb323 37 #[.int .i64 0,.int .i64 0,.int .i64 0,.int .i64 0,.bool false,.slice none 0 0,.slice none 0 0,.int .i64 0,.int .i64 0,.int .i64 0,.int .i64 0,.slice none 0 0,.slice none 0 0] (0,0) _ rfl (by refine bP (cs:=?_) ?_ 12 ?_;rotate_left;refine bP (cs:=?_) ?_ 11 ?_;rotate_left;refine bP (cs:=?_) ?_ 10 ?_;rotate_left;refine bP (cs:=?_) ?_ 9 ?_;rotate_left;refine bP (cs:=?_) ?_ 8 ?_;rotate_left;refine bP (cs:=?_) ?_ 7 ?_;rotate_left;refine bP (cs:=?_) ?_ 6 ?_;rotate_left;refine bP (cs:=?_) ?_ 5 ?_;rotate_left;refine bP (cs:=?_) ?_ 4 ?_;rotate_left;refine bP (cs:=?_) ?_ 3 ?_;rotate_left;refine bP (cs:=?_) ?_ 2 ?_;rotate_left;refine bP (cs:=?_) ?_ 1 ?_;rotate_left;refine bP (cs:=?_) ?_ 0 ?_;rotate_left;exact BK323.out;all_goals ((try simp only [sA,sZ,sC]);first|done|rfl)) Try.underlying37 rfl (by kernel_rfl)) rfl ?_
          exact ⟨_,_,_,_,fE,by first|exact Kd.R_nil _ _ _ _ _|exact Kd.N_nil _ _ _ _ _|exact Kd.V_nil _ _ _ _ _|exact Kd.Q_nil _ _ _ _ _|exact Kd.S_nil _ _ _ _ _,by first|exact Kd.R_nil _ _ _ _ _|exact Kd.N_nil _ _ _ _ _|exact Kd.V_nil _ _ _ _ _|exact Kd.Q_nil _ _ _ _ _|exact Kd.S_nil _ _ _ _ _,by first|exact Kd.R_nil _ _ _ _ _|exact Kd.N_nil _ _ _ _ _|exact Kd.V_nil _ _ _ _ _|exact Kd.Q_nil _ _ _ _ _|exact Kd.S_nil _ _ _ _ _,by first|exact Kd.R_nil _ _ _ _ _|exact Kd.N_nil _ _ _ _ _|exact Kd.V_nil _ _ _ _ _|exact Kd.Q_nil _ _ _ _ _|exact Kd.S_nil _ _ _ _ _,bG⟩
        ·obtain rfl:=bF c32
         have H1:(some (0,0,0,0,false,([]:List (S95)),([]:List Int),0,0,0,0,([]:List Int),([]:List (S83)),false))=some (r1,r2,r3,r4,r5,r6,r7,r8,r9,r10,r11,r12,r13,r14):=by rw [if_neg nF] at H;exact H
         clear H
         have H:=H1
         clear H1
         simp only [Option.some.injEq,Prod.mk.injEq] at H
         obtain ⟨rfl,rfl,rfl,rfl,rfl,rfl,rfl,rfl,rfl,rfl,rfl,rfl,rfl,rfl⟩:=H
         have hnb55:=NB322_323.out
         have hnc55:=NB323_322.out
         obtain ⟨z56_0,z56_1,z56_2,z56_3,z56_4,z56_5,z56_6,z56_7,z56_8,z56_9,z56_10,z56_11,z56_12,y56_0,y56_1,y56_2,y56_3,y56_4,y56_5,y56_6,y56_7,y56_8,y56_9,y56_10,y56_11,y56_12⟩:=blk13f BK322
         go_wp2_with (first|((with_reducible refine gate_callee (f:=38) rfl ?_);refine gL (some 38) Try.func38 #[.slice A0_11 l0_11.length c0_11,.int .i64 x4_25] ?_;(with_reducible refine (spec_l19Divided.calls kj25 _ _ l0_11 x4_25 t325 false _ (cB HR0_11) HC0_11.out A30.out).mono ?_);rintro e w57 ⟨v327,rfl,ho0,hb⟩;refine ⟨_,rfl,?_⟩;have HO328:=Aside0.mk (Kd.R_lower ho0 (below_size bG));replace BK322:=Aside0.mk (bkb BK322 hb);replace BK323:=Aside0.mk (bkb BK323 hb);replace HB:=Aside0.mk (below_step bG hb);(try clear hb);(try clear ho0);obtain ⟨z58_0,z58_1,z58_2,z58_3,z58_4,z58_5,z58_6,z58_7,z58_8,z58_9,z58_10,z58_11,z58_12,y58_0,y58_1,y58_2,y58_3,y58_4,y58_5,y58_6,y58_7,y58_8,y58_9,y58_10,y58_11,y58_12⟩:=blk13f BK322)|((with_reducible refine gate_callee (f:=38) rfl ?_);refine gL (some 45) Try.func38 #[.slice A0_6 l0_6.length c0_6,.int .i64 x4_25] ?_;(with_reducible refine (spec_l19Divided.calls kj25 _ _ l0_6 x4_25 t329 t330 _ (cB HR0_6) HC0_6.out A31.out).mono ?_);rintro e w59 ⟨v331,rfl,ho0,hb⟩;refine ⟨_,rfl,?_⟩;have n0_:=Aside0.mk (Kd.R_elder' (rS HO328) (Kd.R_base ho0) hb);have n1_:=Aside0.mk (Kd.R_lower (Kd.R_new' ho0 (Kd.R_lt (rS HO328))) (below_size bG));have n2_:=Aside0.mk (bkb BK322 hb);have n3_:=Aside0.mk (bkb BK323 hb);have n4_:=Aside0.mk (below_step bG hb);clear HO328;clear BK322;clear BK323;clear HB;have HO328:=n0_;have HO332:=n1_;have BK322:=n2_;have BK323:=n3_;have HB:=n4_;clear n0_ n1_ n2_ n3_ n4_;(try clear hb);(try clear ho0);obtain ⟨z60_0,z60_1,z60_2,z60_3,z60_4,z60_5,z60_6,z60_7,z60_8,z60_9,z60_10,z60_11,z60_12,y60_0,y60_1,y60_2,y60_3,y60_4,y60_5,y60_6,y60_7,y60_8,y60_9,y60_10,y60_11,y60_12⟩:=blk13f BK323))
         refine bodyPost_ret (results_ct rfl _ _ gb323 37 #[.int .i64 0,.int .i64 0,.int .i64 0,.int .i64 0,.bool false,.slice none 0 0,.slice none 0 0,.int .i64 0,.int .i64 0,.int .i64 0,.int .i64 0,.slice none 0 0,.slice none 0 0] (0,0) _ rfl (by refine bP (cs:=?_) ?_ 12 ?_;rotate_left;refine bP (cs:=?_) ?_ 11 ?_;rotate_left;refine bP (cs:=?_) ?_ 10 ?_;rotate_left;refine bP (cs:=?_) ?_ 9 ?_;rotate_left;refine bP (cs:=?_) ?_ 8 ?_;rotate_left;refine bP (cs:=?_) ?_ 7 ?_;rotate_left;refine bP (cs:=?_) ?_ 6 ?_;rotate_left;refine bP (cs:=?_) ?_ 5 ?_;rotate_left;refine bP (cs:=?_) ?_ 4 ?_;rotate_left;refine bP (cs:=?_) ?_ 3 ?_;rotate_left;refine bP (cs:=?_) ?_ 2 ?_;rotate_left;refine bP (cs:=?_) ?_ 1 ?_;rotate_left;refine bP (cs:=?_) ?_ 0 ?_;rotate_left;exact BK323.out;all_goals ((try simp only [sA,sZ,sC]);first|done|rfl)) Try.underlying37 rfl (by kernel_rfl)) rfl ?_
         exact ⟨_,_,_,_,fE,by first|exact Kd.R_nil _ _ _ _ _|exact Kd.N_nil _ _ _ _ _|exact Kd.V_nil _ _ _ _ _|exact Kd.Q_nil _ _ _ _ _|exact Kd.S_nil _ _ _ _ _,by first|exact Kd.R_nil _ _ _ _ _|exact Kd.N_nil _ _ _ _ _|exact Kd.V_nil _ _ _ _ _|exact Kd.Q_nil _ _ _ _ _|exact Kd.S_nil _ _ _ _ _,by first|exact Kd.R_nil _ _ _ _ _|exact Kd.N_nil _ _ _ _ _|exact Kd.V_nil _ _ _ _ _|exact Kd.Q_nil _ _ _ _ _|exact Kd.S_nil _ _ _ _ _,by first|exact Kd.R_nil _ _ _ _ _|exact Kd.N_nil _ _ _ _ _|exact Kd.V_nil _ _ _ _ _|exact Kd.Q_nil _ _ _ _ _|exact Kd.S_nil _ _ _ _ _,bG⟩
end Go.Proofs.Ytjpfhldklbgdcaa.Ld
