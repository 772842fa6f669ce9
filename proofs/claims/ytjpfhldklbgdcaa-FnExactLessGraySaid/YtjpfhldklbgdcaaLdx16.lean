import Derived.Test.YtjpfhldklbgdcaaLdx0
import Derived.Test.YtjpfhldklbgdcaaLdx15
set_option maxHeartbeats 8000000
set_option maxRecDepth 100000
namespace Go.Proofs.Ytjpfhldklbgdcaa.Ld
open Go.RowKit Go.Proofs.Ytjpfhldklbgdcaa.Sq Go.Proofs.YtjpfhldklbgdcaaW.PrintWords Go.Proofs.YtjpfhldklbgdcaaW.PrintLast Go.Proofs.YtjpfhldklbgdcaaW.PrintMore
attribute [local go_sem] max2_int min2_int max_two min_two max_three min_three max_four min_four   -- for this text's walks alone
set_option linter.unusedVariables false
set_option linter.unusedSimpArgs false
def laws_eqHead.f (a0_0:Int) (a0_1:Int) (a0_2:Int) (a0_3:Int) (a0_4:Bool) (a1_0:Int) (a1_1:Int) (a1_2:Int) (a1_3:Int) (a1_4:Bool):Option (Bool):=if a0_0=a1_0 then (if a0_1=a1_1 then (if a0_2=a1_2 then (if a0_3=a1_3 then (if (a0_4 != a1_4)=true then (some false) else (some true)) else (some false)) else (some false)) else (some false)) else (some false)
theorem laws_eqHead.calls (a0_0:Int) (a0_1:Int) (a0_2:Int) (a0_3:Int) (a0_4:Bool) (a1_0:Int) (a1_1:Int) (a1_2:Int) (a1_3:Int) (a1_4:Bool) (r:Bool) (w:World) (h:laws_eqHead.f a0_0 a0_1 a0_2 a0_3 a0_4 a1_0 a1_1 a1_2 a1_3 a1_4=some r):
  Calls Try.prog 47 #[.agg #[.int .i64 a0_0,.int .i64 a0_1,.int .i64 a0_2,.int .i64 a0_3,.bool a0_4],.agg #[.int .i64 a1_0,.int .i64 a1_1,.int .i64 a1_2,.int .i64 a1_3,.bool a1_4]] w fun e w'=>e=.returned (.bool r)∧Below w.heap.size w w':=by
 have hu32:=Try.underlying32
 have HB:=Aside0.mk (Below.refl w.heap.size w)
 have H:=h
 clear h
 unfold laws_eqHead.f at H
 by_cases c3:a0_0=a1_0
 ·rw [if_pos c3] at H
  have c3b0:(a0_0 == a1_0)=true:=beq_iff_eq.mpr c3
  have c3b1:(a0_0 != a1_0)=false:=bne_eq_false_iff_eq.mpr c3
  clear c3
  by_cases c4:a0_1=a1_1
  ·rw [if_pos c4] at H
   have c4b0:(a0_1 == a1_1)=true:=beq_iff_eq.mpr c4
   have c4b1:(a0_1 != a1_1)=false:=bne_eq_false_iff_eq.mpr c4
   clear c4
   by_cases c5:a0_2=a1_2
   ·rw [if_pos c5] at H
    have c5b0:(a0_2 == a1_2)=true:=beq_iff_eq.mpr c5
    have c5b1:(a0_2 != a1_2)=false:=bne_eq_false_iff_eq.mpr c5
    clear c5
    by_cases c6:a0_3=a1_3
    ·rw [if_pos c6] at H
     have c6b0:(a0_3 == a1_3)=true:=beq_iff_eq.mpr c6
     have c6b1:(a0_3 != a1_3)=false:=bne_eq_false_iff_eq.mpr c6
     clear c6
     by_cases c7:(a0_4 != a1_4)=true
     ·rw [if_pos c7] at H
      have c7b0:(a0_4 != a1_4)=true:=c7
      (try (have c7b1:decide (a0_4=a1_4)=false:=by simpa using c7))
      (try (have c7b2:(a0_4 == a1_4)=false:=by simpa using c7))
      (try (have c7b3:¬ (a0_4=a1_4):=by simpa using c7))
      clear c7
      obtain rfl:=sI H
      go_enter Try.func47,Try.ntmps47
      go_wp2_with (first|((with_reducible refine gate_dst (N:=2) rfl ?_);refine boxE 2 (#[.int .i64 a0_0,.int .i64 a0_1,.int .i64 a0_2,.int .i64 a0_3,.bool a0_4]) 32 ?_;intro gb478 hg w8 hbox hb;have BK478:=Aside0.mk hbox;have GW478:=(gwH (w:=w) hg);have GE478:=(gwH (w:=w) hg);replace HB:=Aside0.mk (below_step bH hb);clear hb hbox hg)|((with_reducible refine gate_dst (N:=3) rfl ?_);refine boxE 3 (#[.int .i64 a1_0,.int .i64 a1_1,.int .i64 a1_2,.int .i64 a1_3,.bool a1_4]) 32 ?_;intro gb479 hg w9 hbox hb;have n0_:=Aside0.mk (bkb BK478 hb);have n1_:=Aside0.mk (below_step bG hb);have n2_:=Aside0.mk hbox;have n3_:=(gwG (w:=w) hg);have n4_:=(gwG (w:=w) hg);have n5_:=(nbl BK478 hg);have n6_:=(nbg BK478 hg);clear BK478;clear HB;have BK478:=n0_;have HB:=n1_;have BK479:=n2_;have GW479:=n3_;have GE479:=n4_;have NB478_479:=n5_;have NB479_478:=n6_;clear n0_ n1_ n2_ n3_ n4_ n5_ n6_;clear hb hbox hg;have hnb10:=NB478_479.out;have hnc10:=NB479_478.out;obtain ⟨z11_0,z11_1,z11_2,z11_3,z11_4,y11_0,y11_1,y11_2,y11_3,y11_4⟩:=blk5f BK478;obtain ⟨z12_0,z12_1,z12_2,z12_3,z12_4,y12_0,y12_1,y12_2,y12_3,y12_4⟩:=blk5f BK479))
      go_ret
      exact ⟨fE,bG⟩
     ·rw [if_neg c7] at H
      have c7b0:(a0_4 != a1_4)=false:=by simpa using c7
      (try (have c7b1:decide (a0_4=a1_4)=true:=by simpa using c7))
      (try (have c7b2:(a0_4 == a1_4)=true:=by simpa using c7))
      clear c7
      obtain rfl:=sI H
      go_enter Try.func47,Try.ntmps47
      go_wp2_with (first|((with_reducible refine gate_dst (N:=2) rfl ?_);refine boxE 2 (#[.int .i64 a0_0,.int .i64 a0_1,.int .i64 a0_2,.int .i64 a0_3,.bool a0_4]) 32 ?_;intro gb478 hg w13 hbox hb;have BK478:=Aside0.mk hbox;have GW478:=(gwH (w:=w) hg);have GE478:=(gwH (w:=w) hg);replace HB:=Aside0.mk (below_step bH hb);clear hb hbox hg)|((with_reducible refine gate_dst (N:=3) rfl ?_);refine boxE 3 (#[.int .i64 a1_0,.int .i64 a1_1,.int .i64 a1_2,.int .i64 a1_3,.bool a1_4]) 32 ?_;intro gb479 hg w14 hbox hb;have n0_:=Aside0.mk (bkb BK478 hb);have n1_:=Aside0.mk (below_step bG hb);have n2_:=Aside0.mk hbox;have n3_:=(gwG (w:=w) hg);have n4_:=(gwG (w:=w) hg);have n5_:=(nbl BK478 hg);have n6_:=(nbg BK478 hg);clear BK478;clear HB;have BK478:=n0_;have HB:=n1_;have BK479:=n2_;have GW479:=n3_;have GE479:=n4_;have NB478_479:=n5_;have NB479_478:=n6_;clear n0_ n1_ n2_ n3_ n4_ n5_ n6_;clear hb hbox hg;have hnb15:=NB478_479.out;have hnc15:=NB479_478.out;obtain ⟨z16_0,z16_1,z16_2,z16_3,z16_4,y16_0,y16_1,y16_2,y16_3,y16_4⟩:=blk5f BK478;obtain ⟨z17_0,z17_1,z17_2,z17_3,z17_4,y17_0,y17_1,y17_2,y17_3,y17_4⟩:=blk5f BK479))
      go_ret
      exact ⟨fE,bG⟩
    ·rw [if_neg c6] at H
     have c6b0:(a0_3 == a1_3)=false:=beq_eq_false_iff_ne.mpr c6
     have c6b1:(a0_3 != a1_3)=true:=bne_iff_ne.mpr c6
     obtain rfl:=sI H
     go_enter Try.func47,Try.ntmps47
     go_wp2_with (first|((with_reducible refine gate_dst (N:=2) rfl ?_);refine boxE 2 (#[.int .i64 a0_0,.int .i64 a0_1,.int .i64 a0_2,.int .i64 a0_3,.bool a0_4]) 32 ?_;intro gb478 hg w18 hbox hb;have BK478:=Aside0.mk hbox;have GW478:=(gwH (w:=w) hg);have GE478:=(gwH (w:=w) hg);replace HB:=Aside0.mk (below_step bH hb);clear hb hbox hg)|((with_reducible refine gate_dst (N:=3) rfl ?_);refine boxE 3 (#[.int .i64 a1_0,.int .i64 a1_1,.int .i64 a1_2,.int .i64 a1_3,.bool a1_4]) 32 ?_;intro gb479 hg w19 hbox hb;have n0_:=Aside0.mk (bkb BK478 hb);have n1_:=Aside0.mk (below_step bG hb);have n2_:=Aside0.mk hbox;have n3_:=(gwG (w:=w) hg);have n4_:=(gwG (w:=w) hg);have n5_:=(nbl BK478 hg);have n6_:=(nbg BK478 hg);clear BK478;clear HB;have BK478:=n0_;have HB:=n1_;have BK479:=n2_;have GW479:=n3_;have GE479:=n4_;have NB478_479:=n5_;have NB479_478:=n6_;clear n0_ n1_ n2_ n3_ n4_ n5_ n6_;clear hb hbox hg;have hnb20:=NB478_479.out;have hnc20:=NB479_478.out;obtain ⟨z21_0,z21_1,z21_2,z21_3,z21_4,y21_0,y21_1,y21_2,y21_3,y21_4⟩:=blk5f BK478;obtain ⟨z22_0,z22_1,z22_2,z22_3,z22_4,y22_0,y22_1,y22_2,y22_3,y22_4⟩:=blk5f BK479))
     go_ret
     exact ⟨fE,bG⟩
   ·rw [if_neg c5] at H
    have c5b0:(a0_2 == a1_2)=false:=beq_eq_false_iff_ne.mpr c5
    have c5b1:(a0_2 != a1_2)=true:=bne_iff_ne.mpr c5
    obtain rfl:=sI H
    go_enter Try.func47,Try.ntmps47
    go_wp2_with (first|((with_reducible refine gate_dst (N:=2) rfl ?_);refine boxE 2 (#[.int .i64 a0_0,.int .i64 a0_1,.int .i64 a0_2,.int .i64 a0_3,.bool a0_4]) 32 ?_;intro gb478 hg w23 hbox hb;have BK478:=Aside0.mk hbox;have GW478:=(gwH (w:=w) hg);have GE478:=(gwH (w:=w) hg);replace HB:=Aside0.mk (below_step bH hb);clear hb hbox hg)|((with_reducible refine gate_dst (N:=3) rfl ?_);refine boxE 3 (#[.int .i64 a1_0,.int .i64 a1_1,.int .i64 a1_2,.int .i64 a1_3,.bool a1_4]) 32 ?_;intro gb479 hg w24 hbox hb;have n0_:=Aside0.mk (bkb BK478 hb);have n1_:=Aside0.mk (below_step bG hb);have n2_:=Aside0.mk hbox;have n3_:=(gwG (w:=w) hg);have n4_:=(gwG (w:=w) hg);have n5_:=(nbl BK478 hg);have n6_:=(nbg BK478 hg);clear BK478;clear HB;have BK478:=n0_;have HB:=n1_;have BK479:=n2_;have GW479:=n3_;have GE479:=n4_;have NB478_479:=n5_;have NB479_478:=n6_;clear n0_ n1_ n2_ n3_ n4_ n5_ n6_;clear hb hbox hg;have hnb25:=NB478_479.out;have hnc25:=NB479_478.out;obtain ⟨z26_0,z26_1,z26_2,z26_3,z26_4,y26_0,y26_1,y26_2,y26_3,y26_4⟩:=blk5f BK478;obtain ⟨z27_0,z27_1,z27_2,z27_3,z27_4,y27_0,y27_1,y27_2,y27_3,y27_4⟩:=blk5f BK479))
    go_ret
    exact ⟨fE,bG⟩
  ·rw [if_neg c4] at H
   have c4b0:(a0_1 == a1_1)=false:=beq_eq_false_iff_ne.mpr c4
   have c4b1:(a0_1 != a1_1)=true:=bne_iff_ne.mpr c4
   obtain rfl:=sI H
   go_enter Try.func47,Try.ntmps47
   go_wp2_with (first|((with_reducible refine gate_dst (N:=2) rfl ?_);refine boxE 2 (#[.int .i64 a0_0,.int .i64 a0_1,.int .i64 a0_2,.int .i64 a0_3,.bool a0_4]) 32 ?_;intro gb478 hg w28 hbox hb;have BK478:=Aside0.mk hbox;have GW478:=(gwH (w:=w) hg);have GE478:=(gwH (w:=w) hg);replace HB:=Aside0.mk (below_step bH hb);clear hb hbox hg)|((with_reducible refine gate_dst (N:=3) rfl ?_);refine boxE 3 (#[.int .i64 a1_0,.int .i64 a1_1,.int .i64 a1_2,.int .i64 a1_3,.bool a1_4]) 32 ?_;intro gb479 hg w29 hbox hb;have n0_:=Aside0.mk (bkb BK478 hb);have n1_:=Aside0.mk (below_step bG hb);have n2_:=Aside0.mk hbox;have n3_:=(gwG (w:=w) hg);have n4_:=(gwG (w:=w) hg);have n5_:=(nbl BK478 hg);have n6_:=(nbg BK478 hg);clear BK478;clear HB;have BK478:=n0_;have HB:=n1_;have BK479:=n2_;have GW479:=n3_;have GE479:=n4_;have NB478_479:=n5_;have NB479_478:=n6_;clear n0_ n1_ n2_ n3_ n4_ n5_ n6_;clear hb hbox hg;have hnb30:=NB478_479.out;have hnc30:=NB479_478.out;obtain ⟨z31_0,z31_1,z31_2,z31_3,z31_4,y31_0,y31_1,y31_2,y31_3,y31_4⟩:=blk5f BK478;obtain ⟨z32_0,z32_1,z32_2,z32_3,z32_4,y32_0,y32_1,y32_2,y32_3,y32_4⟩:=blk5f BK479))
   go_ret
   exact ⟨fE,bG⟩
 ·rw [if_neg c3] at H
  have c3b0:(a0_0 == a1_0)=false:=beq_eq_false_iff_ne.mpr c3
  have c3b1:(a0_0 != a1_0)=true:=bne_iff_ne.mpr c3
  obtain rfl:=sI H
  go_enter Try.func47,Try.ntmps47
  go_wp2_with (first|((with_reducible refine gate_dst (N:=2) rfl ?_);refine boxE 2 (#[.int .i64 a0_0,.int .i64 a0_1,.int .i64 a0_2,.int .i64 a0_3,.bool a0_4]) 32 ?_;intro gb478 hg w33 hbox hb;have BK478:=Aside0.mk hbox;have GW478:=(gwH (w:=w) hg);have GE478:=(gwH (w:=w) hg);replace HB:=Aside0.mk (below_step bH hb);clear hb hbox hg)|((with_reducible refine gate_dst (N:=3) rfl ?_);refine boxE 3 (#[.int .i64 a1_0,.int .i64 a1_1,.int .i64 a1_2,.int .i64 a1_3,.bool a1_4]) 32 ?_;intro gb479 hg w34 hbox hb;have n0_:=Aside0.mk (bkb BK478 hb);have n1_:=Aside0.mk (below_step bG hb);have n2_:=Aside0.mk hbox;have n3_:=(gwG (w:=w) hg);have n4_:=(gwG (w:=w) hg);have n5_:=(nbl BK478 hg);have n6_:=(nbg BK478 hg);clear BK478;clear HB;have BK478:=n0_;have HB:=n1_;have BK479:=n2_;have GW479:=n3_;have GE479:=n4_;have NB478_479:=n5_;have NB479_478:=n6_;clear n0_ n1_ n2_ n3_ n4_ n5_ n6_;clear hb hbox hg;have hnb35:=NB478_479.out;have hnc35:=NB479_478.out;obtain ⟨z36_0,z36_1,z36_2,z36_3,z36_4,y36_0,y36_1,y36_2,y36_3,y36_4⟩:=blk5f BK478;obtain ⟨z37_0,z37_1,z37_2,z37_3,z37_4,y37_0,y37_1,y37_2,y37_3,y37_4⟩:=blk5f BK479))
  go_ret
  exact ⟨fE,bG⟩
def laws_eqRgb.f (a0_0:Int) (a0_1:Int) (a0_2:Int) (a1_0:Int) (a1_1:Int) (a1_2:Int):Option (Bool):=if a0_0=a1_0 then (if a0_1=a1_1 then (if a0_2=a1_2 then (some true) else (some false)) else (some false)) else (some false)
theorem laws_eqRgb.calls (a0_0:Int) (a0_1:Int) (a0_2:Int) (a1_0:Int) (a1_1:Int) (a1_2:Int) (r:Bool) (w:World) (h:laws_eqRgb.f a0_0 a0_1 a0_2 a1_0 a1_1 a1_2=some r):
  Calls Try.prog 92 #[.agg #[.int .i64 a0_0,.int .i64 a0_1,.int .i64 a0_2],.agg #[.int .i64 a1_0,.int .i64 a1_1,.int .i64 a1_2]] w fun e w'=>e=.returned (.bool r)∧Below w.heap.size w w':=by
 have hu95:=Try.underlying95
 have HB:=Aside0.mk (Below.refl w.heap.size w)
 have H:=h
 clear h
 unfold laws_eqRgb.f at H
 by_cases c3:a0_0=a1_0
 ·rw [if_pos c3] at H
  have c3b0:(a0_0 == a1_0)=true:=beq_iff_eq.mpr c3
  have c3b1:(a0_0 != a1_0)=false:=bne_eq_false_iff_eq.mpr c3
  clear c3
  by_cases c4:a0_1=a1_1
  ·rw [if_pos c4] at H
   have c4b0:(a0_1 == a1_1)=true:=beq_iff_eq.mpr c4
   have c4b1:(a0_1 != a1_1)=false:=bne_eq_false_iff_eq.mpr c4
   clear c4
   by_cases c5:a0_2=a1_2
   ·rw [if_pos c5] at H
    have c5b0:(a0_2 == a1_2)=true:=beq_iff_eq.mpr c5
    have c5b1:(a0_2 != a1_2)=false:=bne_eq_false_iff_eq.mpr c5
    clear c5
    obtain rfl:=sI H
    go_enter Try.func92,Try.ntmps92
    go_wp2_with (first|((with_reducible refine gate_dst (N:=2) rfl ?_);refine boxE 2 (#[.int .i64 a0_0,.int .i64 a0_1,.int .i64 a0_2]) 95 ?_;intro gb480 hg w6 hbox hb;have BK480:=Aside0.mk hbox;have GW480:=(gwH (w:=w) hg);have GE480:=(gwH (w:=w) hg);replace HB:=Aside0.mk (below_step bH hb);clear hb hbox hg)|((with_reducible refine gate_dst (N:=3) rfl ?_);refine boxE 3 (#[.int .i64 a1_0,.int .i64 a1_1,.int .i64 a1_2]) 95 ?_;intro gb481 hg w7 hbox hb;have n0_:=Aside0.mk (bkb BK480 hb);have n1_:=Aside0.mk (below_step bG hb);have n2_:=Aside0.mk hbox;have n3_:=(gwG (w:=w) hg);have n4_:=(gwG (w:=w) hg);have n5_:=(nbl BK480 hg);have n6_:=(nbg BK480 hg);clear BK480;clear HB;have BK480:=n0_;have HB:=n1_;have BK481:=n2_;have GW481:=n3_;have GE481:=n4_;have NB480_481:=n5_;have NB481_480:=n6_;clear n0_ n1_ n2_ n3_ n4_ n5_ n6_;clear hb hbox hg;have hnb8:=NB480_481.out;have hnc8:=NB481_480.out;obtain ⟨z9_0,z9_1,z9_2,y9_0,y9_1,y9_2⟩:=blk3f BK480;obtain ⟨z10_0,z10_1,z10_2,y10_0,y10_1,y10_2⟩:=blk3f BK481))
    go_ret
    exact ⟨fE,bG⟩
   ·rw [if_neg c5] at H
    have c5b0:(a0_2 == a1_2)=false:=beq_eq_false_iff_ne.mpr c5
    have c5b1:(a0_2 != a1_2)=true:=bne_iff_ne.mpr c5
    obtain rfl:=sI H
    go_enter Try.func92,Try.ntmps92
    go_wp2_with (first|((with_reducible refine gate_dst (N:=2) rfl ?_);refine boxE 2 (#[.int .i64 a0_0,.int .i64 a0_1,.int .i64 a0_2]) 95 ?_;intro gb480 hg w11 hbox hb;have BK480:=Aside0.mk hbox;have GW480:=(gwH (w:=w) hg);have GE480:=(gwH (w:=w) hg);replace HB:=Aside0.mk (below_step bH hb);clear hb hbox hg)|((with_reducible refine gate_dst (N:=3) rfl ?_);refine boxE 3 (#[.int .i64 a1_0,.int .i64 a1_1,.int .i64 a1_2]) 95 ?_;intro gb481 hg w12 hbox hb;have n0_:=Aside0.mk (bkb BK480 hb);have n1_:=Aside0.mk (below_step bG hb);have n2_:=Aside0.mk hbox;have n3_:=(gwG (w:=w) hg);have n4_:=(gwG (w:=w) hg);have n5_:=(nbl BK480 hg);have n6_:=(nbg BK480 hg);clear BK480;clear HB;have BK480:=n0_;have HB:=n1_;have BK481:=n2_;have GW481:=n3_;have GE481:=n4_;have NB480_481:=n5_;have NB481_480:=n6_;clear n0_ n1_ n2_ n3_ n4_ n5_ n6_;clear hb hbox hg;have hnb13:=NB480_481.out;have hnc13:=NB481_480.out;obtain ⟨z14_0,z14_1,z14_2,y14_0,y14_1,y14_2⟩:=blk3f BK480;obtain ⟨z15_0,z15_1,z15_2,y15_0,y15_1,y15_2⟩:=blk3f BK481))
    go_ret
    exact ⟨fE,bG⟩
  ·rw [if_neg c4] at H
   have c4b0:(a0_1 == a1_1)=false:=beq_eq_false_iff_ne.mpr c4
   have c4b1:(a0_1 != a1_1)=true:=bne_iff_ne.mpr c4
   obtain rfl:=sI H
   go_enter Try.func92,Try.ntmps92
   go_wp2_with (first|((with_reducible refine gate_dst (N:=2) rfl ?_);refine boxE 2 (#[.int .i64 a0_0,.int .i64 a0_1,.int .i64 a0_2]) 95 ?_;intro gb480 hg w16 hbox hb;have BK480:=Aside0.mk hbox;have GW480:=(gwH (w:=w) hg);have GE480:=(gwH (w:=w) hg);replace HB:=Aside0.mk (below_step bH hb);clear hb hbox hg)|((with_reducible refine gate_dst (N:=3) rfl ?_);refine boxE 3 (#[.int .i64 a1_0,.int .i64 a1_1,.int .i64 a1_2]) 95 ?_;intro gb481 hg w17 hbox hb;have n0_:=Aside0.mk (bkb BK480 hb);have n1_:=Aside0.mk (below_step bG hb);have n2_:=Aside0.mk hbox;have n3_:=(gwG (w:=w) hg);have n4_:=(gwG (w:=w) hg);have n5_:=(nbl BK480 hg);have n6_:=(nbg BK480 hg);clear BK480;clear HB;have BK480:=n0_;have HB:=n1_;have BK481:=n2_;have GW481:=n3_;have GE481:=n4_;have NB480_481:=n5_;have NB481_480:=n6_;clear n0_ n1_ n2_ n3_ n4_ n5_ n6_;clear hb hbox hg;have hnb18:=NB480_481.out;have hnc18:=NB481_480.out;obtain ⟨z19_0,z19_1,z19_2,y19_0,y19_1,y19_2⟩:=blk3f BK480;obtain ⟨z20_0,z20_1,z20_2,y20_0,y20_1,y20_2⟩:=blk3f BK481))
   go_ret
   exact ⟨fE,bG⟩
 ·rw [if_neg c3] at H
  have c3b0:(a0_0 == a1_0)=false:=beq_eq_false_iff_ne.mpr c3
  have c3b1:(a0_0 != a1_0)=true:=bne_iff_ne.mpr c3
  obtain rfl:=sI H
  go_enter Try.func92,Try.ntmps92
  go_wp2_with (first|((with_reducible refine gate_dst (N:=2) rfl ?_);refine boxE 2 (#[.int .i64 a0_0,.int .i64 a0_1,.int .i64 a0_2]) 95 ?_;intro gb480 hg w21 hbox hb;have BK480:=Aside0.mk hbox;have GW480:=(gwH (w:=w) hg);have GE480:=(gwH (w:=w) hg);replace HB:=Aside0.mk (below_step bH hb);clear hb hbox hg)|((with_reducible refine gate_dst (N:=3) rfl ?_);refine boxE 3 (#[.int .i64 a1_0,.int .i64 a1_1,.int .i64 a1_2]) 95 ?_;intro gb481 hg w22 hbox hb;have n0_:=Aside0.mk (bkb BK480 hb);have n1_:=Aside0.mk (below_step bG hb);have n2_:=Aside0.mk hbox;have n3_:=(gwG (w:=w) hg);have n4_:=(gwG (w:=w) hg);have n5_:=(nbl BK480 hg);have n6_:=(nbg BK480 hg);clear BK480;clear HB;have BK480:=n0_;have HB:=n1_;have BK481:=n2_;have GW481:=n3_;have GE481:=n4_;have NB480_481:=n5_;have NB481_480:=n6_;clear n0_ n1_ n2_ n3_ n4_ n5_ n6_;clear hb hbox hg;have hnb23:=NB480_481.out;have hnc23:=NB481_480.out;obtain ⟨z24_0,z24_1,z24_2,y24_0,y24_1,y24_2⟩:=blk3f BK480;obtain ⟨z25_0,z25_1,z25_2,y25_0,y25_1,y25_2⟩:=blk3f BK481))
  go_ret
  exact ⟨fE,bG⟩
def laws_eqRgbS.l0:Nat→List (S95)→List (S95)→Int→Option (Bool)
 | 0,_,_,_=>none
 | k+1,x0,x1,x5=>if x5 < (x0.length:Int) then (if 0≤x5 then (if x5 < (x1.length:Int) then ((laws_eqRgb.f ((rd_T95 x0 x5).f0) ((rd_T95 x0 x5).f1) ((rd_T95 x0 x5).f2) ((rd_T95 x1 x5).f0) ((rd_T95 x1 x5).f1) ((rd_T95 x1 x5).f2)).bind fun t484=>(if t484=true then (laws_eqRgbS.l0 k x0 x1 (wrap64 (x5+1))) else (some false))) else (none)) else (none)) else (some true)
def laws_eqRgbS.f (k:Nat) (l0:List (S95)) (l1:List (S95)):Option (Bool):=if (l0.length:Int)=(l1.length:Int) then (laws_eqRgbS.l0 k l0 l1 0) else (some false)
theorem laws_eqRgbS.mono_l:∀ k,(∀ y0 y1 y2,LeO (laws_eqRgbS.l0 k y0 y1 y2) (laws_eqRgbS.l0 (k+1) y0 y1 y2))
 | 0=>fun _ _ _ r h=>by simp [laws_eqRgbS.l0] at h
 | k+1=>by
  have ih0:=laws_eqRgbS.mono_l k
  ·intro y0 y1 y2
   unfold laws_eqRgbS.l0
   repeat' first
   | (with_reducible exact ih0 _ _ _)
   | (with_reducible exact LeO.refl _)
   | (with_reducible exact LeO.none _)
   | (with_reducible refine LeO.ite ?_ ?_)
   | (with_reducible refine LeO.bind ?_ (fun _=>?_))
   | exact ih0 _ _ _
   | exact LeO.none _
   | refine LeO.ite ?_ ?_
   | refine LeO.bind ?_ (fun _=>?_)
theorem laws_eqRgbS.mono:∀ a0 a1 k,LeO (laws_eqRgbS.f k a0 a1) (laws_eqRgbS.f (k+1) a0 a1):=by
 intro a0 a1 k
 have ih0:=laws_eqRgbS.mono_l k
 unfold laws_eqRgbS.f
 repeat' first
   | (with_reducible exact ih0 _ _ _)
   | (with_reducible exact LeO.refl _)
   | (with_reducible exact LeO.none _)
   | (with_reducible refine LeO.ite ?_ ?_)
   | (with_reducible refine LeO.bind ?_ (fun _=>?_))
   | exact ih0 _ _ _
   | exact LeO.none _
   | refine LeO.ite ?_ ?_
   | refine LeO.bind ?_ (fun _=>?_)
def laws_eqRgbS.T6:Bool×List (List Nat×List Nat):=(true,[([],[]),([],[]),([0,1],[0,1]),([2],[2]),([],[]),([],[]),([4,5],[4,5]),([6],[6]),([3,7],[3,7]),([8],[8])])
def laws_eqRgbS.B6:List Nat:=[0,0,3,7,0,0,48,112,255,511]
theorem laws_eqRgbS.tab6:rtab .any (opsOf Try.f48 6)=laws_eqRgbS.T6:=by kernel_rfl
theorem laws_eqRgbS.bits6:waitsOk laws_eqRgbS.T6.2 laws_eqRgbS.B6=true:=by kernel_rfl
theorem laws_eqRgbS.calls (k:Nat) (A0:Option Addr) (c0:Nat) (l0:List (S95)) (A1:Option Addr) (c1:Nat) (l1:List (S95)) (r:Bool) (w:World) (hr0:Kd.C k95 w A0 l0.length l0) (hc0:l0.length≤c0) (hr1:Kd.C k95 w A1 l1.length l1) (hc1:l1.length≤c1) (h:laws_eqRgbS.f k l0 l1=some r):
  Calls Try.prog 48 #[.slice A0 l0.length c0,.slice A1 l1.length c1] w fun e w'=>e=.returned (.bool r)∧Below w.heap.size w w':=by
 have hu95:=Try.underlying95
 have HR0:=Aside0.mk hr0
 have HC0:=Aside0.mk hc0
 clear hr0 hc0
 have HR1:=Aside0.mk hr1
 have HC1:=Aside0.mk hc1
 clear hr1 hc1
 have HB:=Aside0.mk (Below.refl w.heap.size w)
 have H:=h
 clear h
 unfold laws_eqRgbS.f at H
 by_cases c3:(l0.length:Int)=(l1.length:Int)
 ·rw [if_pos c3] at H
  have c3b0:((l0.length:Int) == (l1.length:Int))=true:=beq_iff_eq.mpr c3
  have c3b1:((l0.length:Int) != (l1.length:Int))=false:=bne_eq_false_iff_eq.mpr c3
  have c3b2:(l0.length == l1.length)=true:=by first|simpa using c3|(simp at c3 ⊢;omega)
  clear c3
  have H':=Aside0.mk H
  clear H
  go_enter Try.func48,Try.ntmps48
  go_wp2
  go_loopg [5] k (fun kq v5 w'=>∃ (x5_1:Int),v5=.int .i64 x5_1∧Aside0 (laws_eqRgbS.l0 kq l0 l1 x5_1=some r)∧Aside0 (kq≤k)∧Aside0 (Below w.heap.size w w'))
  case atStart=>exact ⟨(0),fS,H',⟨Nat.le_refl _⟩,⟨bH⟩⟩
  case round =>
   clear H'
   try clear c1
   try clear p2
   try clear c3
   try clear c3b0
   try clear c3b1
   try clear c3b2
   obtain ⟨x5_1,rfl,HA,HK1,HB⟩:=hrel
   cases gk with
   | zero=>exact absurd HA.out (by simp [laws_eqRgbS.l0])
   | succ k1 =>
    have H:=HA.out
    clear HA
    simp only [laws_eqRgbS.l0] at H
    by_cases c4:x5_1 < (l0.length:Int)
    ·rw [if_pos c4] at H
     have c4b0:decide (x5_1 < (l0.length:Int))=true:=decide_eq_true c4
     clear c4
     by_cases c5:0≤x5_1
     ·rw [if_pos c5] at H
      have c5b0:decide (0≤x5_1)=true:=decide_eq_true c5
      clear c5
      by_cases c6:x5_1 < (l1.length:Int)
      ·rw [if_pos c6] at H
       have c6b0:decide (x5_1 < (l1.length:Int))=true:=decide_eq_true c6
       clear c6
       obtain ⟨t484,A7,H⟩:=bS H
       try dsimp only at H
       by_cases c8:t484=true
       ·subst c8
        rw [if_pos rfl] at H
        have H':=Aside0.mk H
        clear H
        try go_wp2
        replace HB:=Aside0.mk (below_drew1 HB.out)
        have p482:0≤(x5_1:Int):=oD
        have q482:x5_1 < (l0.length:Int):=oD
        obtain ⟨ad482,e482,hx482_0,hx482_1,hx482_2⟩:=at_T95 HR0.out x5_1 p482 q482
        have hw482_2:=hx482_2
        have hw482_1:=hx482_1
        have hw482_0:=hx482_0
        cases e482
        replace hx482_0:=(HB.out.cell (World.block_lt_of_cell? w _ hx482_0)).trans hx482_0
        replace hx482_1:=(HB.out.cell (World.block_lt_of_cell? w _ hx482_1)).trans hx482_1
        replace hx482_2:=(HB.out.cell (World.block_lt_of_cell? w _ hx482_2)).trans hx482_2
        replace p482:=eq_true p482
        replace q482:=eq_true q482
        have p483:0≤(x5_1:Int):=oD
        have q483:x5_1 < (l1.length:Int):=oD
        obtain ⟨ad483,e483,hx483_0,hx483_1,hx483_2⟩:=at_T95 HR1.out x5_1 p483 q483
        have hw483_2:=hx483_2
        have hw483_1:=hx483_1
        have hw483_0:=hx483_0
        cases e483
        replace hx483_0:=(HB.out.cell (World.block_lt_of_cell? w _ hx483_0)).trans hx483_0
        replace hx483_1:=(HB.out.cell (World.block_lt_of_cell? w _ hx483_1)).trans hx483_1
        replace hx483_2:=(HB.out.cell (World.block_lt_of_cell? w _ hx483_2)).trans hx483_2
        replace p483:=eq_true p483
        replace q483:=eq_true q483
        refine start_ (n:=10) (S:=fun w'=>w'.cell? (ad482.add ((x5_1).toNat * 3))=some (.int .i64 ((rd_T95 l0 x5_1).f0))∧w'.cell? ⟨(ad482.add ((x5_1).toNat * 3)).block,(ad482.add ((x5_1).toNat * 3)).off+1,none⟩=some (.int .i64 ((rd_T95 l0 x5_1).f1))∧w'.cell? ⟨(ad482.add ((x5_1).toNat * 3)).block,(ad482.add ((x5_1).toNat * 3)).off+2,none⟩=some (.int .i64 ((rd_T95 l0 x5_1).f2))∧w'.cell? (ad483.add ((x5_1).toNat * 3))=some (.int .i64 ((rd_T95 l1 x5_1).f0))∧w'.cell? ⟨(ad483.add ((x5_1).toNat * 3)).block,(ad483.add ((x5_1).toNat * 3)).off+1,none⟩=some (.int .i64 ((rd_T95 l1 x5_1).f1))∧w'.cell? ⟨(ad483.add ((x5_1).toNat * 3)).block,(ad483.add ((x5_1).toNat * 3)).off+2,none⟩=some (.int .i64 ((rd_T95 l1 x5_1).f2))) (ds:=[]) #[false,false,false,false,false,false,false,false,false,false] (by kernel_rfl) rfl rfl ⟨((HB.out.cell (World.block_lt_of_cell? w _ hw482_0)).trans hw482_0),((HB.out.cell (World.block_lt_of_cell? w _ hw482_1)).trans hw482_1),((HB.out.cell (World.block_lt_of_cell? w _ hw482_2)).trans hw482_2),((HB.out.cell (World.block_lt_of_cell? w _ hw483_0)).trans hw483_0),((HB.out.cell (World.block_lt_of_cell? w _ hw483_1)).trans hw483_1),((HB.out.cell (World.block_lt_of_cell? w _ hw483_2)).trans hw483_2)⟩ (fun hHeld=>?_);refine with_tabW laws_eqRgbS.tab6 laws_eqRgbS.bits6 (fun HT_ HW_=>?_)
        generalize wr.drew=w9 at HB hx482_0 hx482_1 hx482_2 hx483_0 hx483_1 hx483_2 hHeld ⊢
        refine pure_ (i:=0) (N:=some 17) (v:=?_) (a':=?_) #[true,false,false,false,false,false,false,false,false,false] rfl rfl (any_of HT_.out (by kernel_rfl)) (fun _ _ _ h=>h) (Or.inl ⟨by rfl,?_⟩) ?_ ?_
        rotate_left
        ·intro w'
         go_simp
         with_reducible rfl
        rotate_left
        ·simp only [Act.put,sA,sZ,sC,i64_w,i32_w]
         rfl
        refine pure_ (i:=1) (N:=some 18) (v:=?_) (a':=?_) #[true,true,false,false,false,false,false,false,false,false] rfl rfl (any_of HT_.out (by kernel_rfl)) (fun _ _ _ h=>h) (Or.inl ⟨by rfl,?_⟩) ?_ ?_
        rotate_left
        ·intro w'
         go_simp
         with_reducible rfl
        rotate_left
        ·simp only [Act.put,sA,sZ,sC,i64_w,i32_w]
         rfl
        refine pure_ (i:=2) (N:=some 19) (v:=?_) (a':=?_) #[true,true,true,false,false,false,false,false,false,false] rfl rfl (any_of HT_.out (by kernel_rfl)) (fun _ _ _ h=>h) (Or.inl ⟨by rfl,?_⟩) ?_ ?_
        rotate_left
        ·intro w'
         go_simp
         with_reducible rfl
        rotate_left
        ·simp only [Act.put,sA,sZ,sC,i64_w,i32_w]
         rfl
        refine pure_ (i:=4) (N:=some 21) (v:=?_) (a':=?_) #[true,true,true,false,true,false,false,false,false,false] rfl rfl (any_of HT_.out (by kernel_rfl)) (fun _ _ _ h=>h) (Or.inl ⟨by rfl,?_⟩) ?_ ?_
        rotate_left
        ·intro w'
         go_simp
         with_reducible rfl
        rotate_left
        ·simp only [Act.put,sA,sZ,sC,i64_w,i32_w]
         rfl
        refine pure_ (i:=5) (N:=some 22) (v:=?_) (a':=?_) #[true,true,true,false,true,true,false,false,false,false] rfl rfl (any_of HT_.out (by kernel_rfl)) (fun _ _ _ h=>h) (Or.inl ⟨by rfl,?_⟩) ?_ ?_
        rotate_left
        ·intro w'
         go_simp
         with_reducible rfl
        rotate_left
        ·simp only [Act.put,sA,sZ,sC,i64_w,i32_w]
         rfl
        refine pure_ (i:=6) (N:=some 23) (v:=?_) (a':=?_) #[true,true,true,false,true,true,true,false,false,false] rfl rfl (any_of HT_.out (by kernel_rfl)) (fun _ _ _ h=>h) (Or.inl ⟨by rfl,?_⟩) ?_ ?_
        rotate_left
        ·intro w'
         go_simp
         with_reducible rfl
        rotate_left
        ·simp only [Act.put,sA,sZ,sC,i64_w,i32_w]
         rfl
        refine take_ (i:=3) (N:=some 20) (v:=?_) (a':=?_) #[true,true,true,true,true,true,true,false,false,false] rfl rfl (take_ofW HT_.out HW_.out (by kernel_rfl)) (fun _ _ _ h=>h) (Or.inl ⟨by rfl,?_⟩) hHeld ?_ ?_
        rotate_left
        ·rintro w' ⟨s0,s1,s2,s3,s4,s5⟩
         go_simp
         with_reducible rfl
        rotate_left
        ·simp only [Act.put,sA,sZ,sC,i64_w,i32_w]
         rfl
        refine take_ (i:=7) (N:=some 24) (v:=?_) (a':=?_) #[true,true,true,true,true,true,true,true,false,false] rfl rfl (take_ofW HT_.out HW_.out (by kernel_rfl)) (fun _ _ _ h=>h) (Or.inl ⟨by rfl,?_⟩) hHeld ?_ ?_
        rotate_left
        ·rintro w' ⟨s0,s1,s2,s3,s4,s5⟩
         go_simp
         with_reducible rfl
        rotate_left
        ·simp only [Act.put,sA,sZ,sC,i64_w,i32_w]
         rfl
        refine one_ (i:=8) (N:=some 25) #[true,true,true,true,true,true,true,true,true,false] rfl rfl (one_of HT_.out (by kernel_rfl)) (by decide) (fun K hK=>?_)
        refine goes_ Try.func92 (by kernel_rfl) rfl #[.agg #[.int .i64 ((rd_T95 l0 x5_1).f0),.int .i64 ((rd_T95 l0 x5_1).f1),.int .i64 ((rd_T95 l0 x5_1).f2)],.agg #[.int .i64 ((rd_T95 l1 x5_1).f0),.int .i64 ((rd_T95 l1 x5_1).f1),.int .i64 ((rd_T95 l1 x5_1).f2)]] (by rfl) rfl rfl (by (try simp only [List.map_toArray,List.map_cons,List.map_nil]);first|done|rfl|(simp only [List.length_drop,List.length_take];rfl)) ?_
        with_reducible refine (laws_eqRgb.calls ((rd_T95 l0 x5_1).f0) ((rd_T95 l0 x5_1).f1) ((rd_T95 l0 x5_1).f2) ((rd_T95 l1 x5_1).f0) ((rd_T95 l1 x5_1).f1) ((rd_T95 l1 x5_1).f2) true _ A7.out).mono ?_
        rintro e w10 ⟨rfl,hb⟩
        refine ⟨_,rfl,?_⟩
        replace HB:=Aside0.mk (below_step bH hb)
        (try clear hb)
        (try clear hb2)
        (try clear hk)
        (try clear hi)
        refine hK.out _ _ ⟨((HB.out.cell (World.block_lt_of_cell? w _ hw482_0)).trans hw482_0),((HB.out.cell (World.block_lt_of_cell? w _ hw482_1)).trans hw482_1),((HB.out.cell (World.block_lt_of_cell? w _ hw482_2)).trans hw482_2),((HB.out.cell (World.block_lt_of_cell? w _ hw483_0)).trans hw483_0),((HB.out.cell (World.block_lt_of_cell? w _ hw483_1)).trans hw483_1),((HB.out.cell (World.block_lt_of_cell? w _ hw483_2)).trans hw483_2)⟩ (fun hHeld=>?_)
        clear hK K
        refine norm_ (a':=?_) ?_ ?_
        rotate_left
        ·show Act.put _ (some 25) _=_
         simp only [Act.put,sA,sZ,sC,i64_w,i32_w]
         rfl
        refine pure_ (i:=9) (N:=some 26) (v:=?_) (a':=?_) #[true,true,true,true,true,true,true,true,true,true] rfl rfl (any_of HT_.out (by kernel_rfl)) (fun _ _ _ h=>h) (Or.inl ⟨by rfl,?_⟩) ?_ ?_
        rotate_left
        ·intro w'
         go_simp
         with_reducible rfl
        rotate_left
        ·simp only [Act.put,sA,sZ,sC,i64_w,i32_w]
         rfl
        refine done_ (done_of HT_.out (by kernel_rfl)) ?_
        try go_wp2
        go_roundg k1
        case measure=>have:=HK1.out;omega
        case rel=>exact ⟨(wrap64 (x5_1+1)),fS,H',⟨by have:=HK1.out;omega⟩,⟨bH⟩⟩
       ·obtain rfl:=bF c8
        rw [if_neg nF] at H
        obtain rfl:=sI H
        try go_wp2
        replace HB:=Aside0.mk (below_drew1 HB.out)
        have p482:0≤(x5_1:Int):=oD
        have q482:x5_1 < (l0.length:Int):=oD
        obtain ⟨ad482,e482,hx482_0,hx482_1,hx482_2⟩:=at_T95 HR0.out x5_1 p482 q482
        have hw482_2:=hx482_2
        have hw482_1:=hx482_1
        have hw482_0:=hx482_0
        cases e482
        replace hx482_0:=(HB.out.cell (World.block_lt_of_cell? w _ hx482_0)).trans hx482_0
        replace hx482_1:=(HB.out.cell (World.block_lt_of_cell? w _ hx482_1)).trans hx482_1
        replace hx482_2:=(HB.out.cell (World.block_lt_of_cell? w _ hx482_2)).trans hx482_2
        replace p482:=eq_true p482
        replace q482:=eq_true q482
        have p483:0≤(x5_1:Int):=oD
        have q483:x5_1 < (l1.length:Int):=oD
        obtain ⟨ad483,e483,hx483_0,hx483_1,hx483_2⟩:=at_T95 HR1.out x5_1 p483 q483
        have hw483_2:=hx483_2
        have hw483_1:=hx483_1
        have hw483_0:=hx483_0
        cases e483
        replace hx483_0:=(HB.out.cell (World.block_lt_of_cell? w _ hx483_0)).trans hx483_0
        replace hx483_1:=(HB.out.cell (World.block_lt_of_cell? w _ hx483_1)).trans hx483_1
        replace hx483_2:=(HB.out.cell (World.block_lt_of_cell? w _ hx483_2)).trans hx483_2
        replace p483:=eq_true p483
        replace q483:=eq_true q483
        refine start_ (n:=10) (S:=fun w'=>w'.cell? (ad482.add ((x5_1).toNat * 3))=some (.int .i64 ((rd_T95 l0 x5_1).f0))∧w'.cell? ⟨(ad482.add ((x5_1).toNat * 3)).block,(ad482.add ((x5_1).toNat * 3)).off+1,none⟩=some (.int .i64 ((rd_T95 l0 x5_1).f1))∧w'.cell? ⟨(ad482.add ((x5_1).toNat * 3)).block,(ad482.add ((x5_1).toNat * 3)).off+2,none⟩=some (.int .i64 ((rd_T95 l0 x5_1).f2))∧w'.cell? (ad483.add ((x5_1).toNat * 3))=some (.int .i64 ((rd_T95 l1 x5_1).f0))∧w'.cell? ⟨(ad483.add ((x5_1).toNat * 3)).block,(ad483.add ((x5_1).toNat * 3)).off+1,none⟩=some (.int .i64 ((rd_T95 l1 x5_1).f1))∧w'.cell? ⟨(ad483.add ((x5_1).toNat * 3)).block,(ad483.add ((x5_1).toNat * 3)).off+2,none⟩=some (.int .i64 ((rd_T95 l1 x5_1).f2))) (ds:=[]) #[false,false,false,false,false,false,false,false,false,false] (by kernel_rfl) rfl rfl ⟨((HB.out.cell (World.block_lt_of_cell? w _ hw482_0)).trans hw482_0),((HB.out.cell (World.block_lt_of_cell? w _ hw482_1)).trans hw482_1),((HB.out.cell (World.block_lt_of_cell? w _ hw482_2)).trans hw482_2),((HB.out.cell (World.block_lt_of_cell? w _ hw483_0)).trans hw483_0),((HB.out.cell (World.block_lt_of_cell? w _ hw483_1)).trans hw483_1),((HB.out.cell (World.block_lt_of_cell? w _ hw483_2)).trans hw483_2)⟩ (fun hHeld=>?_);refine with_tabW laws_eqRgbS.tab6 laws_eqRgbS.bits6 (fun HT_ HW_=>?_)
        generalize wr.drew=w11 at HB hx482_0 hx482_1 hx482_2 hx483_0 hx483_1 hx483_2 hHeld ⊢
        refine pure_ (i:=0) (N:=some 17) (v:=?_) (a':=?_) #[true,false,false,false,false,false,false,false,false,false] rfl rfl (any_of HT_.out (by kernel_rfl)) (fun _ _ _ h=>h) (Or.inl ⟨by rfl,?_⟩) ?_ ?_
        rotate_left
        ·intro w'
         go_simp
         with_reducible rfl
        rotate_left
        ·simp only [Act.put,sA,sZ,sC,i64_w,i32_w]
         rfl
        refine pure_ (i:=1) (N:=some 18) (v:=?_) (a':=?_) #[true,true,false,false,false,false,false,false,false,false] rfl rfl (any_of HT_.out (by kernel_rfl)) (fun _ _ _ h=>h) (Or.inl ⟨by rfl,?_⟩) ?_ ?_
        rotate_left
        ·intro w'
         go_simp
         with_reducible rfl
        rotate_left
        ·simp only [Act.put,sA,sZ,sC,i64_w,i32_w]
         rfl
        refine pure_ (i:=2) (N:=some 19) (v:=?_) (a':=?_) #[true,true,true,false,false,false,false,false,false,false] rfl rfl (any_of HT_.out (by kernel_rfl)) (fun _ _ _ h=>h) (Or.inl ⟨by rfl,?_⟩) ?_ ?_
        rotate_left
        ·intro w'
         go_simp
         with_reducible rfl
        rotate_left
        ·simp only [Act.put,sA,sZ,sC,i64_w,i32_w]
         rfl
        refine pure_ (i:=4) (N:=some 21) (v:=?_) (a':=?_) #[true,true,true,false,true,false,false,false,false,false] rfl rfl (any_of HT_.out (by kernel_rfl)) (fun _ _ _ h=>h) (Or.inl ⟨by rfl,?_⟩) ?_ ?_
        rotate_left
        ·intro w'
         go_simp
         with_reducible rfl
        rotate_left
        ·simp only [Act.put,sA,sZ,sC,i64_w,i32_w]
         rfl
        refine pure_ (i:=5) (N:=some 22) (v:=?_) (a':=?_) #[true,true,true,false,true,true,false,false,false,false] rfl rfl (any_of HT_.out (by kernel_rfl)) (fun _ _ _ h=>h) (Or.inl ⟨by rfl,?_⟩) ?_ ?_
        rotate_left
        ·intro w'
         go_simp
         with_reducible rfl
        rotate_left
        ·simp only [Act.put,sA,sZ,sC,i64_w,i32_w]
         rfl
        refine pure_ (i:=6) (N:=some 23) (v:=?_) (a':=?_) #[true,true,true,false,true,true,true,false,false,false] rfl rfl (any_of HT_.out (by kernel_rfl)) (fun _ _ _ h=>h) (Or.inl ⟨by rfl,?_⟩) ?_ ?_
        rotate_left
        ·intro w'
         go_simp
         with_reducible rfl
        rotate_left
        ·simp only [Act.put,sA,sZ,sC,i64_w,i32_w]
         rfl
        refine take_ (i:=3) (N:=some 20) (v:=?_) (a':=?_) #[true,true,true,true,true,true,true,false,false,false] rfl rfl (take_ofW HT_.out HW_.out (by kernel_rfl)) (fun _ _ _ h=>h) (Or.inl ⟨by rfl,?_⟩) hHeld ?_ ?_
        rotate_left
        ·rintro w' ⟨s0,s1,s2,s3,s4,s5⟩
         go_simp
         with_reducible rfl
        rotate_left
        ·simp only [Act.put,sA,sZ,sC,i64_w,i32_w]
         rfl
        refine take_ (i:=7) (N:=some 24) (v:=?_) (a':=?_) #[true,true,true,true,true,true,true,true,false,false] rfl rfl (take_ofW HT_.out HW_.out (by kernel_rfl)) (fun _ _ _ h=>h) (Or.inl ⟨by rfl,?_⟩) hHeld ?_ ?_
        rotate_left
        ·rintro w' ⟨s0,s1,s2,s3,s4,s5⟩
         go_simp
         with_reducible rfl
        rotate_left
        ·simp only [Act.put,sA,sZ,sC,i64_w,i32_w]
         rfl
        refine one_ (i:=8) (N:=some 25) #[true,true,true,true,true,true,true,true,true,false] rfl rfl (one_of HT_.out (by kernel_rfl)) (by decide) (fun K hK=>?_)
        refine goes_ Try.func92 (by kernel_rfl) rfl #[.agg #[.int .i64 ((rd_T95 l0 x5_1).f0),.int .i64 ((rd_T95 l0 x5_1).f1),.int .i64 ((rd_T95 l0 x5_1).f2)],.agg #[.int .i64 ((rd_T95 l1 x5_1).f0),.int .i64 ((rd_T95 l1 x5_1).f1),.int .i64 ((rd_T95 l1 x5_1).f2)]] (by rfl) rfl rfl (by (try simp only [List.map_toArray,List.map_cons,List.map_nil]);first|done|rfl|(simp only [List.length_drop,List.length_take];rfl)) ?_
        with_reducible refine (laws_eqRgb.calls ((rd_T95 l0 x5_1).f0) ((rd_T95 l0 x5_1).f1) ((rd_T95 l0 x5_1).f2) ((rd_T95 l1 x5_1).f0) ((rd_T95 l1 x5_1).f1) ((rd_T95 l1 x5_1).f2) false _ A7.out).mono ?_
        rintro e w12 ⟨rfl,hb⟩
        refine ⟨_,rfl,?_⟩
        replace HB:=Aside0.mk (below_step bH hb)
        (try clear hb)
        (try clear hb2)
        (try clear hk)
        (try clear hi)
        refine hK.out _ _ ⟨((HB.out.cell (World.block_lt_of_cell? w _ hw482_0)).trans hw482_0),((HB.out.cell (World.block_lt_of_cell? w _ hw482_1)).trans hw482_1),((HB.out.cell (World.block_lt_of_cell? w _ hw482_2)).trans hw482_2),((HB.out.cell (World.block_lt_of_cell? w _ hw483_0)).trans hw483_0),((HB.out.cell (World.block_lt_of_cell? w _ hw483_1)).trans hw483_1),((HB.out.cell (World.block_lt_of_cell? w _ hw483_2)).trans hw483_2)⟩ (fun hHeld=>?_)
        clear hK K
        refine norm_ (a':=?_) ?_ ?_
        rotate_left
        ·show Act.put _ (some 25) _=_
         simp only [Act.put,sA,sZ,sC,i64_w,i32_w]
         rfl
        refine pure_ (i:=9) (N:=some 26) (v:=?_) (a':=?_) #[true,true,true,true,true,true,true,true,true,true] rfl rfl (any_of HT_.out (by kernel_rfl)) (fun _ _ _ h=>h) (Or.inl ⟨by rfl,?_⟩) ?_ ?_
        rotate_left
        ·intro w'
         go_simp
         with_reducible rfl
        rotate_left
        ·simp only [Act.put,sA,sZ,sC,i64_w,i32_w]
         rfl
        refine done_ (done_of HT_.out (by kernel_rfl)) ?_
        try go_wp2
        go_ret
        exact ⟨fE,bH⟩
      ·rw [if_neg c6] at H
       exact absurd H (by simp)
     ·rw [if_neg c5] at H
      exact absurd H (by simp)
    ·rw [if_neg c4] at H
     have c4b0:decide (x5_1 < (l0.length:Int))=false:=decide_eq_false c4
     clear c4
     obtain rfl:=sI H
     go_wp2
     go_ret
     exact ⟨fE,bH⟩
 ·rw [if_neg c3] at H
  have c3b0:((l0.length:Int) == (l1.length:Int))=false:=beq_eq_false_iff_ne.mpr c3
  have c3b1:((l0.length:Int) != (l1.length:Int))=true:=bne_iff_ne.mpr c3
  have c3b2:(l0.length == l1.length)=false:=by first|simpa using c3|(simp at c3 ⊢;omega)
  obtain rfl:=sI H
  go_enter Try.func48,Try.ntmps48
  go_wp2
  go_ret
  exact ⟨fE,bH⟩
def laws_eqIntS.l0:Nat→List Int→List Int→Int→Option (Bool)
 | 0,_,_,_=>none
 | k+1,x0,x1,x5=>if x5 < (x0.length:Int) then (if 0≤x5 then (if x5 < (x1.length:Int) then (if (rd x0 x5)=(rd x1 x5) then (laws_eqIntS.l0 k x0 x1 (wrap64 (x5+1))) else (some false)) else (none)) else (none)) else (some true)
def laws_eqIntS.f (k:Nat) (l0:List Int) (l1:List Int):Option (Bool):=if (l0.length:Int)=(l1.length:Int) then (laws_eqIntS.l0 k l0 l1 0) else (some false)
theorem laws_eqIntS.mono_l:∀ k,(∀ y0 y1 y2,LeO (laws_eqIntS.l0 k y0 y1 y2) (laws_eqIntS.l0 (k+1) y0 y1 y2))
 | 0=>fun _ _ _ r h=>by simp [laws_eqIntS.l0] at h
 | k+1=>by
  have ih0:=laws_eqIntS.mono_l k
  ·intro y0 y1 y2
   unfold laws_eqIntS.l0
   repeat' first
   | (with_reducible exact ih0 _ _ _)
   | (with_reducible exact LeO.refl _)
   | (with_reducible exact LeO.none _)
   | (with_reducible refine LeO.ite ?_ ?_)
   | (with_reducible refine LeO.bind ?_ (fun _=>?_))
   | exact ih0 _ _ _
   | exact LeO.none _
   | refine LeO.ite ?_ ?_
   | refine LeO.bind ?_ (fun _=>?_)
theorem laws_eqIntS.mono:∀ a0 a1 k,LeO (laws_eqIntS.f k a0 a1) (laws_eqIntS.f (k+1) a0 a1):=by
 intro a0 a1 k
 have ih0:=laws_eqIntS.mono_l k
 unfold laws_eqIntS.f
 repeat' first
   | (with_reducible exact ih0 _ _ _)
   | (with_reducible exact LeO.refl _)
   | (with_reducible exact LeO.none _)
   | (with_reducible refine LeO.ite ?_ ?_)
   | (with_reducible refine LeO.bind ?_ (fun _=>?_))
   | exact ih0 _ _ _
   | exact LeO.none _
   | refine LeO.ite ?_ ?_
   | refine LeO.bind ?_ (fun _=>?_)
theorem laws_eqIntS.calls (k:Nat) (A0:Option Addr) (c0:Nat) (l0:List Int) (A1:Option Addr) (c1:Nat) (l1:List Int) (r:Bool) (w:World) (hr0:Kd.C (Kd.int .i64) w A0 l0.length l0) (hc0:l0.length≤c0) (hr1:Kd.C (Kd.int .i64) w A1 l1.length l1) (hc1:l1.length≤c1) (h:laws_eqIntS.f k l0 l1=some r):
  Calls Try.prog 49 #[.slice A0 l0.length c0,.slice A1 l1.length c1] w fun e w'=>e=.returned (.bool r)∧Drawn0 w w':=by
 have HR0:=Aside0.mk hr0
 have HC0:=Aside0.mk hc0
 clear hr0 hc0
 have HR1:=Aside0.mk hr1
 have HC1:=Aside0.mk hc1
 clear hr1 hc1
 have H:=h
 clear h
 unfold laws_eqIntS.f at H
 by_cases c3:(l0.length:Int)=(l1.length:Int)
 ·rw [if_pos c3] at H
  have c3b0:((l0.length:Int) == (l1.length:Int))=true:=beq_iff_eq.mpr c3
  have c3b1:((l0.length:Int) != (l1.length:Int))=false:=bne_eq_false_iff_eq.mpr c3
  have c3b2:(l0.length == l1.length)=true:=by first|simpa using c3|(simp at c3 ⊢;omega)
  clear c3
  have H':=Aside0.mk H
  clear H
  go_enter Try.func49,Try.ntmps49
  go_wp2
  repeat (go_quiet (fail);try go_wp2)
  go_loopg [5] k (fun kq v5 w'=>∃ (x5_1:Int),v5=.int .i64 x5_1∧Aside0 (laws_eqIntS.l0 kq l0 l1 x5_1=some r)∧Aside0 (kq≤k)∧Drawn0 w w')
  case atStart=>exact ⟨(0),fS,H',⟨Nat.le_refl _⟩,by repeat (first|exact Drawn0.refl _|apply Drawn0.step)⟩
  case round =>
   clear H'
   try clear c1
   try clear p2
   try clear c3
   try clear c3b0
   try clear c3b1
   try clear c3b2
   obtain ⟨x5_1,rfl,HA,HK1,⟨m1,rfl⟩⟩:=hrel
   cases gk with
   | zero=>exact absurd HA.out (by simp [laws_eqIntS.l0])
   | succ k1 =>
    have H:=HA.out
    clear HA
    simp only [laws_eqIntS.l0] at H
    by_cases c4:x5_1 < (l0.length:Int)
    ·rw [if_pos c4] at H
     have c4b0:decide (x5_1 < (l0.length:Int))=true:=decide_eq_true c4
     clear c4
     by_cases c5:0≤x5_1
     ·rw [if_pos c5] at H
      have c5b0:decide (0≤x5_1)=true:=decide_eq_true c5
      clear c5
      by_cases c6:x5_1 < (l1.length:Int)
      ·rw [if_pos c6] at H
       have c6b0:decide (x5_1 < (l1.length:Int))=true:=decide_eq_true c6
       clear c6
       by_cases c7:(rd l0 x5_1)=(rd l1 x5_1)
       ·rw [if_pos c7] at H
        have c7b0:((rd l0 x5_1) == (rd l1 x5_1))=true:=beq_iff_eq.mpr c7
        have c7b1:((rd l0 x5_1) != (rd l1 x5_1))=false:=bne_eq_false_iff_eq.mpr c7
        clear c7
        have H':=Aside0.mk H
        clear H
        have p485:0≤(x5_1:Int):=oD
        have q485:x5_1 < (l0.length:Int):=oD
        obtain ⟨ad485,e485,hx485_0⟩:=Kd.at_int HR0.out x5_1 p485 q485
        cases e485
        replace p485:=eq_true p485
        replace q485:=eq_true q485
        have p486:0≤(x5_1:Int):=oD
        have q486:x5_1 < (l1.length:Int):=oD
        obtain ⟨ad486,e486,hx486_0⟩:=Kd.at_int HR1.out x5_1 p486 q486
        cases e486
        replace p486:=eq_true p486
        replace q486:=eq_true q486
        go_wp2
        repeat (go_quiet (fail);try go_wp2)
        go_roundg k1
        case measure=>have:=HK1.out;omega
        case rel=>exact ⟨(wrap64 (x5_1+1)),fS,H',⟨by have:=HK1.out;omega⟩,by repeat (first|exact Drawn0.refl _|apply Drawn0.step)⟩
       ·rw [if_neg c7] at H
        have c7b0:((rd l0 x5_1) == (rd l1 x5_1))=false:=beq_eq_false_iff_ne.mpr c7
        have c7b1:((rd l0 x5_1) != (rd l1 x5_1))=true:=bne_iff_ne.mpr c7
        obtain rfl:=sI H
        have p485:0≤(x5_1:Int):=oD
        have q485:x5_1 < (l0.length:Int):=oD
        obtain ⟨ad485,e485,hx485_0⟩:=Kd.at_int HR0.out x5_1 p485 q485
        cases e485
        replace p485:=eq_true p485
        replace q485:=eq_true q485
        have p486:0≤(x5_1:Int):=oD
        have q486:x5_1 < (l1.length:Int):=oD
        obtain ⟨ad486,e486,hx486_0⟩:=Kd.at_int HR1.out x5_1 p486 q486
        cases e486
        replace p486:=eq_true p486
        replace q486:=eq_true q486
        go_wp2
        repeat (go_quiet (fail);try go_wp2)
        go_ret
        exact ⟨fS,by repeat (first|exact Drawn0.refl _|apply Drawn0.step)⟩
      ·rw [if_neg c6] at H
       exact absurd H (by simp)
     ·rw [if_neg c5] at H
      exact absurd H (by simp)
    ·rw [if_neg c4] at H
     have c4b0:decide (x5_1 < (l0.length:Int))=false:=decide_eq_false c4
     clear c4
     obtain rfl:=sI H
     go_wp2
     repeat (go_quiet (fail);try go_wp2)
     go_ret
     exact ⟨fS,by repeat (first|exact Drawn0.refl _|apply Drawn0.step)⟩
 ·rw [if_neg c3] at H
  have c3b0:((l0.length:Int) == (l1.length:Int))=false:=beq_eq_false_iff_ne.mpr c3
  have c3b1:((l0.length:Int) != (l1.length:Int))=true:=bne_iff_ne.mpr c3
  have c3b2:(l0.length == l1.length)=false:=by first|simpa using c3|(simp at c3 ⊢;omega)
  obtain rfl:=sI H
  go_enter Try.func49,Try.ntmps49
  go_wp2
  repeat (go_quiet (fail);try go_wp2)
  go_ret
  exact ⟨fS,by repeat (first|exact Drawn0.refl _|apply Drawn0.step)⟩
def laws_eqRaster.f (k:Nat) (a0_0:Int) (a0_1:Int) (a0_2:Int) (a0_3:Int) (l0_4:List Int) (a1_0:Int) (a1_1:Int) (a1_2:Int) (a1_3:Int) (l1_4:List Int):Option (Bool):=if a0_0=a1_0 then (if a0_1=a1_1 then (if a0_2=a1_2 then (if a0_3=a1_3 then ((laws_eqIntS.f k l0_4 l1_4).bind fun t489=>(if t489=true then (some true) else (some false))) else (some false)) else (some false)) else (some false)) else (some false)
theorem laws_eqRaster.mono:∀ a0 a1 a2 a3 a4 a5 a6 a7 a8 a9 k,LeO (laws_eqRaster.f k a0 a1 a2 a3 a4 a5 a6 a7 a8 a9) (laws_eqRaster.f (k+1) a0 a1 a2 a3 a4 a5 a6 a7 a8 a9):=by
 intro a0 a1 a2 a3 a4 a5 a6 a7 a8 a9 k
 unfold laws_eqRaster.f
 repeat' first
   | (with_reducible exact laws_eqIntS.mono _ _ _)
   | (with_reducible exact LeO.refl _)
   | (with_reducible exact LeO.none _)
   | (with_reducible refine LeO.ite ?_ ?_)
   | (with_reducible refine LeO.bind ?_ (fun _=>?_))
   | exact laws_eqIntS.mono _ _ _
   | exact LeO.none _
   | refine LeO.ite ?_ ?_
   | refine LeO.bind ?_ (fun _=>?_)
theorem laws_eqRaster.calls (k:Nat) (a0_0:Int) (a0_1:Int) (a0_2:Int) (a0_3:Int) (A0_4:Option Addr) (c0_4:Nat) (l0_4:List Int) (a1_0:Int) (a1_1:Int) (a1_2:Int) (a1_3:Int) (A1_4:Option Addr) (c1_4:Nat) (l1_4:List Int) (r:Bool) (w:World) (hr0_4:Kd.C (Kd.int .i64) w A0_4 l0_4.length l0_4) (hc0_4:l0_4.length≤c0_4) (hr1_4:Kd.C (Kd.int .i64) w A1_4 l1_4.length l1_4) (hc1_4:l1_4.length≤c1_4) (h:laws_eqRaster.f k a0_0 a0_1 a0_2 a0_3 l0_4 a1_0 a1_1 a1_2 a1_3 l1_4=some r):
  Calls Try.prog 50 #[.agg #[.int .i64 a0_0,.int .i64 a0_1,.int .i64 a0_2,.int .i64 a0_3,.slice A0_4 l0_4.length c0_4],.agg #[.int .i64 a1_0,.int .i64 a1_1,.int .i64 a1_2,.int .i64 a1_3,.slice A1_4 l1_4.length c1_4]] w fun e w'=>e=.returned (.bool r)∧Below w.heap.size w w':=by
 have hu34:=Try.underlying34
 have HR0_4:=Aside0.mk hr0_4
 have HC0_4:=Aside0.mk hc0_4
 clear hr0_4 hc0_4
 have HR1_4:=Aside0.mk hr1_4
 have HC1_4:=Aside0.mk hc1_4
 clear hr1_4 hc1_4
 have HB:=Aside0.mk (Below.refl w.heap.size w)
 have H:=h
 clear h
 unfold laws_eqRaster.f at H
 by_cases c3:a0_0=a1_0
 ·rw [if_pos c3] at H
  have c3b0:(a0_0 == a1_0)=true:=beq_iff_eq.mpr c3
  have c3b1:(a0_0 != a1_0)=false:=bne_eq_false_iff_eq.mpr c3
  clear c3
  by_cases c4:a0_1=a1_1
  ·rw [if_pos c4] at H
   have c4b0:(a0_1 == a1_1)=true:=beq_iff_eq.mpr c4
   have c4b1:(a0_1 != a1_1)=false:=bne_eq_false_iff_eq.mpr c4
   clear c4
   by_cases c5:a0_2=a1_2
   ·rw [if_pos c5] at H
    have c5b0:(a0_2 == a1_2)=true:=beq_iff_eq.mpr c5
    have c5b1:(a0_2 != a1_2)=false:=bne_eq_false_iff_eq.mpr c5
    clear c5
    by_cases c6:a0_3=a1_3
    ·rw [if_pos c6] at H
     have c6b0:(a0_3 == a1_3)=true:=beq_iff_eq.mpr c6
     have c6b1:(a0_3 != a1_3)=false:=bne_eq_false_iff_eq.mpr c6
     clear c6
     obtain ⟨t489,A7,H⟩:=bS H
     try dsimp only at H
     by_cases c8:t489=true
     ·subst c8
      rw [if_pos rfl] at H
      obtain rfl:=sI H
      go_enter Try.func50,Try.ntmps50
      go_wp2_with (first|((with_reducible refine gate_dst (N:=2) rfl ?_);refine boxE 2 (#[.int .i64 a0_0,.int .i64 a0_1,.int .i64 a0_2,.int .i64 a0_3,.slice A0_4 l0_4.length c0_4]) 34 ?_;intro gb487 hg w9 hbox hb;have BK487:=Aside0.mk hbox;have GW487:=(gwH (w:=w) hg);have GE487:=(gwH (w:=w) hg);replace HB:=Aside0.mk (below_step bH hb);clear hb hbox hg)|((with_reducible refine gate_dst (N:=3) rfl ?_);refine boxE 3 (#[.int .i64 a1_0,.int .i64 a1_1,.int .i64 a1_2,.int .i64 a1_3,.slice A1_4 l1_4.length c1_4]) 34 ?_;intro gb488 hg w10 hbox hb;have n0_:=Aside0.mk (bkb BK487 hb);have n1_:=Aside0.mk (below_step bG hb);have n2_:=Aside0.mk hbox;have n3_:=(gwG (w:=w) hg);have n4_:=(gwG (w:=w) hg);have n5_:=(nbl BK487 hg);have n6_:=(nbg BK487 hg);clear BK487;clear HB;have BK487:=n0_;have HB:=n1_;have BK488:=n2_;have GW488:=n3_;have GE488:=n4_;have NB487_488:=n5_;have NB488_487:=n6_;clear n0_ n1_ n2_ n3_ n4_ n5_ n6_;clear hb hbox hg;have hnb11:=NB487_488.out;have hnc11:=NB488_487.out;obtain ⟨z12_0,z12_1,z12_2,z12_3,z12_4,y12_0,y12_1,y12_2,y12_3,y12_4⟩:=blk5f BK487;obtain ⟨z13_0,z13_1,z13_2,z13_3,z13_4,y13_0,y13_1,y13_2,y13_3,y13_4⟩:=blk5f BK488)|((with_reducible refine gate_callee (f:=49) rfl ?_);refine gL (some 29) Try.func49 #[.slice A0_4 l0_4.length c0_4,.slice A1_4 l1_4.length c1_4] ?_;(with_reducible refine (laws_eqIntS.calls k _ _ l0_4 _ _ l1_4 true _ (cB HR0_4) HC0_4.out (cB HR1_4) HC1_4.out A7.out).mono ?_);rintro e w' ⟨rfl,⟨nd,rfl⟩⟩;refine ⟨_,rfl,?_⟩))
      go_ret
      exact ⟨fE,bG⟩
     ·obtain rfl:=bF c8
      rw [if_neg nF] at H
      obtain rfl:=sI H
      go_enter Try.func50,Try.ntmps50
      go_wp2_with (first|((with_reducible refine gate_dst (N:=2) rfl ?_);refine boxE 2 (#[.int .i64 a0_0,.int .i64 a0_1,.int .i64 a0_2,.int .i64 a0_3,.slice A0_4 l0_4.length c0_4]) 34 ?_;intro gb487 hg w14 hbox hb;have BK487:=Aside0.mk hbox;have GW487:=(gwH (w:=w) hg);have GE487:=(gwH (w:=w) hg);replace HB:=Aside0.mk (below_step bH hb);clear hb hbox hg)|((with_reducible refine gate_dst (N:=3) rfl ?_);refine boxE 3 (#[.int .i64 a1_0,.int .i64 a1_1,.int .i64 a1_2,.int .i64 a1_3,.slice A1_4 l1_4.length c1_4]) 34 ?_;intro gb488 hg w15 hbox hb;have n0_:=Aside0.mk (bkb BK487 hb);have n1_:=Aside0.mk (below_step bG hb);have n2_:=Aside0.mk hbox;have n3_:=(gwG (w:=w) hg);have n4_:=(gwG (w:=w) hg);have n5_:=(nbl BK487 hg);have n6_:=(nbg BK487 hg);clear BK487;clear HB;have BK487:=n0_;have HB:=n1_;have BK488:=n2_;have GW488:=n3_;have GE488:=n4_;have NB487_488:=n5_;have NB488_487:=n6_;clear n0_ n1_ n2_ n3_ n4_ n5_ n6_;clear hb hbox hg;have hnb16:=NB487_488.out;have hnc16:=NB488_487.out;obtain ⟨z17_0,z17_1,z17_2,z17_3,z17_4,y17_0,y17_1,y17_2,y17_3,y17_4⟩:=blk5f BK487;obtain ⟨z18_0,z18_1,z18_2,z18_3,z18_4,y18_0,y18_1,y18_2,y18_3,y18_4⟩:=blk5f BK488)|((with_reducible refine gate_callee (f:=49) rfl ?_);refine gL (some 29) Try.func49 #[.slice A0_4 l0_4.length c0_4,.slice A1_4 l1_4.length c1_4] ?_;(with_reducible refine (laws_eqIntS.calls k _ _ l0_4 _ _ l1_4 false _ (cB HR0_4) HC0_4.out (cB HR1_4) HC1_4.out A7.out).mono ?_);rintro e w' ⟨rfl,⟨nd,rfl⟩⟩;refine ⟨_,rfl,?_⟩))
      go_ret
      exact ⟨fE,bG⟩
    ·rw [if_neg c6] at H
     have c6b0:(a0_3 == a1_3)=false:=beq_eq_false_iff_ne.mpr c6
     have c6b1:(a0_3 != a1_3)=true:=bne_iff_ne.mpr c6
     obtain rfl:=sI H
     go_enter Try.func50,Try.ntmps50
     go_wp2_with (first|((with_reducible refine gate_dst (N:=2) rfl ?_);refine boxE 2 (#[.int .i64 a0_0,.int .i64 a0_1,.int .i64 a0_2,.int .i64 a0_3,.slice A0_4 l0_4.length c0_4]) 34 ?_;intro gb487 hg w19 hbox hb;have BK487:=Aside0.mk hbox;have GW487:=(gwH (w:=w) hg);have GE487:=(gwH (w:=w) hg);replace HB:=Aside0.mk (below_step bH hb);clear hb hbox hg)|((with_reducible refine gate_dst (N:=3) rfl ?_);refine boxE 3 (#[.int .i64 a1_0,.int .i64 a1_1,.int .i64 a1_2,.int .i64 a1_3,.slice A1_4 l1_4.length c1_4]) 34 ?_;intro gb488 hg w20 hbox hb;have n0_:=Aside0.mk (bkb BK487 hb);have n1_:=Aside0.mk (below_step bG hb);have n2_:=Aside0.mk hbox;have n3_:=(gwG (w:=w) hg);have n4_:=(gwG (w:=w) hg);have n5_:=(nbl BK487 hg);have n6_:=(nbg BK487 hg);clear BK487;clear HB;have BK487:=n0_;have HB:=n1_;have BK488:=n2_;have GW488:=n3_;have GE488:=n4_;have NB487_488:=n5_;have NB488_487:=n6_;clear n0_ n1_ n2_ n3_ n4_ n5_ n6_;clear hb hbox hg;have hnb21:=NB487_488.out;have hnc21:=NB488_487.out;obtain ⟨z22_0,z22_1,z22_2,z22_3,z22_4,y22_0,y22_1,y22_2,y22_3,y22_4⟩:=blk5f BK487;obtain ⟨z23_0,z23_1,z23_2,z23_3,z23_4,y23_0,y23_1,y23_2,y23_3,y23_4⟩:=blk5f BK488))
     go_ret
     exact ⟨fE,bG⟩
   ·rw [if_neg c5] at H
    have c5b0:(a0_2 == a1_2)=false:=beq_eq_false_iff_ne.mpr c5
    have c5b1:(a0_2 != a1_2)=true:=bne_iff_ne.mpr c5
    obtain rfl:=sI H
    go_enter Try.func50,Try.ntmps50
    go_wp2_with (first|((with_reducible refine gate_dst (N:=2) rfl ?_);refine boxE 2 (#[.int .i64 a0_0,.int .i64 a0_1,.int .i64 a0_2,.int .i64 a0_3,.slice A0_4 l0_4.length c0_4]) 34 ?_;intro gb487 hg w24 hbox hb;have BK487:=Aside0.mk hbox;have GW487:=(gwH (w:=w) hg);have GE487:=(gwH (w:=w) hg);replace HB:=Aside0.mk (below_step bH hb);clear hb hbox hg)|((with_reducible refine gate_dst (N:=3) rfl ?_);refine boxE 3 (#[.int .i64 a1_0,.int .i64 a1_1,.int .i64 a1_2,.int .i64 a1_3,.slice A1_4 l1_4.length c1_4]) 34 ?_;intro gb488 hg w25 hbox hb;have n0_:=Aside0.mk (bkb BK487 hb);have n1_:=Aside0.mk (below_step bG hb);have n2_:=Aside0.mk hbox;have n3_:=(gwG (w:=w) hg);have n4_:=(gwG (w:=w) hg);have n5_:=(nbl BK487 hg);have n6_:=(nbg BK487 hg);clear BK487;clear HB;have BK487:=n0_;have HB:=n1_;have BK488:=n2_;have GW488:=n3_;have GE488:=n4_;have NB487_488:=n5_;have NB488_487:=n6_;clear n0_ n1_ n2_ n3_ n4_ n5_ n6_;clear hb hbox hg;have hnb26:=NB487_488.out;have hnc26:=NB488_487.out;obtain ⟨z27_0,z27_1,z27_2,z27_3,z27_4,y27_0,y27_1,y27_2,y27_3,y27_4⟩:=blk5f BK487;obtain ⟨z28_0,z28_1,z28_2,z28_3,z28_4,y28_0,y28_1,y28_2,y28_3,y28_4⟩:=blk5f BK488))
    go_ret
    exact ⟨fE,bG⟩
  ·rw [if_neg c4] at H
   have c4b0:(a0_1 == a1_1)=false:=beq_eq_false_iff_ne.mpr c4
   have c4b1:(a0_1 != a1_1)=true:=bne_iff_ne.mpr c4
   obtain rfl:=sI H
   go_enter Try.func50,Try.ntmps50
   go_wp2_with (first|((with_reducible refine gate_dst (N:=2) rfl ?_);refine boxE 2 (#[.int .i64 a0_0,.int .i64 a0_1,.int .i64 a0_2,.int .i64 a0_3,.slice A0_4 l0_4.length c0_4]) 34 ?_;intro gb487 hg w29 hbox hb;have BK487:=Aside0.mk hbox;have GW487:=(gwH (w:=w) hg);have GE487:=(gwH (w:=w) hg);replace HB:=Aside0.mk (below_step bH hb);clear hb hbox hg)|((with_reducible refine gate_dst (N:=3) rfl ?_);refine boxE 3 (#[.int .i64 a1_0,.int .i64 a1_1,.int .i64 a1_2,.int .i64 a1_3,.slice A1_4 l1_4.length c1_4]) 34 ?_;intro gb488 hg w30 hbox hb;have n0_:=Aside0.mk (bkb BK487 hb);have n1_:=Aside0.mk (below_step bG hb);have n2_:=Aside0.mk hbox;have n3_:=(gwG (w:=w) hg);have n4_:=(gwG (w:=w) hg);have n5_:=(nbl BK487 hg);have n6_:=(nbg BK487 hg);clear BK487;clear HB;have BK487:=n0_;have HB:=n1_;have BK488:=n2_;have GW488:=n3_;have GE488:=n4_;have NB487_488:=n5_;have NB488_487:=n6_;clear n0_ n1_ n2_ n3_ n4_ n5_ n6_;clear hb hbox hg;have hnb31:=NB487_488.out;have hnc31:=NB488_487.out;obtain ⟨z32_0,z32_1,z32_2,z32_3,z32_4,y32_0,y32_1,y32_2,y32_3,y32_4⟩:=blk5f BK487;obtain ⟨z33_0,z33_1,z33_2,z33_3,z33_4,y33_0,y33_1,y33_2,y33_3,y33_4⟩:=blk5f BK488))
   go_ret
   exact ⟨fE,bG⟩
 ·rw [if_neg c3] at H
  have c3b0:(a0_0 == a1_0)=false:=beq_eq_false_iff_ne.mpr c3
  have c3b1:(a0_0 != a1_0)=true:=bne_iff_ne.mpr c3
  obtain rfl:=sI H
  go_enter Try.func50,Try.ntmps50
  go_wp2_with (first|((with_reducible refine gate_dst (N:=2) rfl ?_);refine boxE 2 (#[.int .i64 a0_0,.int .i64 a0_1,.int .i64 a0_2,.int .i64 a0_3,.slice A0_4 l0_4.length c0_4]) 34 ?_;intro gb487 hg w34 hbox hb;have BK487:=Aside0.mk hbox;have GW487:=(gwH (w:=w) hg);have GE487:=(gwH (w:=w) hg);replace HB:=Aside0.mk (below_step bH hb);clear hb hbox hg)|((with_reducible refine gate_dst (N:=3) rfl ?_);refine boxE 3 (#[.int .i64 a1_0,.int .i64 a1_1,.int .i64 a1_2,.int .i64 a1_3,.slice A1_4 l1_4.length c1_4]) 34 ?_;intro gb488 hg w35 hbox hb;have n0_:=Aside0.mk (bkb BK487 hb);have n1_:=Aside0.mk (below_step bG hb);have n2_:=Aside0.mk hbox;have n3_:=(gwG (w:=w) hg);have n4_:=(gwG (w:=w) hg);have n5_:=(nbl BK487 hg);have n6_:=(nbg BK487 hg);clear BK487;clear HB;have BK487:=n0_;have HB:=n1_;have BK488:=n2_;have GW488:=n3_;have GE488:=n4_;have NB487_488:=n5_;have NB488_487:=n6_;clear n0_ n1_ n2_ n3_ n4_ n5_ n6_;clear hb hbox hg;have hnb36:=NB487_488.out;have hnc36:=NB488_487.out;obtain ⟨z37_0,z37_1,z37_2,z37_3,z37_4,y37_0,y37_1,y37_2,y37_3,y37_4⟩:=blk5f BK487;obtain ⟨z38_0,z38_1,z38_2,z38_3,z38_4,y38_0,y38_1,y38_2,y38_3,y38_4⟩:=blk5f BK488))
  go_ret
  exact ⟨fE,bG⟩
end Go.Proofs.Ytjpfhldklbgdcaa.Ld
