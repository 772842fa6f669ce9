import Derived.Test.YtjpfhldklbgdcaaSr
import Derived.Test.YtjpfhldklbgdcaaLdx0
import Derived.Test.YtjpfhldklbgdcaaLdx10
import Derived.Test.YtjpfhldklbgdcaaLdx14
set_option maxHeartbeats 8000000
set_option maxRecDepth 100000
namespace Go.Proofs.Ytjpfhldklbgdcaa.Ld
open Go.RowKit Go.Proofs.Ytjpfhldklbgdcaa.Sq Go.Proofs.YtjpfhldklbgdcaaW.PrintWords Go.Proofs.YtjpfhldklbgdcaaW.PrintLast Go.Proofs.YtjpfhldklbgdcaaW.PrintMore
attribute [local go_sem] max2_int min2_int max_two min_two max_three min_three max_four min_four   -- for this text's walks alone
set_option linter.unusedVariables false
set_option linter.unusedSimpArgs false
def impl_mayTurn.f (k:Nat) (a0_0:Int) (a0_1:Int) (a0_2:Int) (a0_3:Int) (a0_4:Bool) (l0_5:List (S95)) (l0_6:List Int) (a0_7:Int) (a0_8:Int) (a0_9:Int) (a0_10:Int) (l0_11:List Int) (l0_12:List (S83)):Option (Bool):=(impl_PngOk.f k a0_0 a0_1 a0_2 a0_3 a0_4 l0_5 l0_6 a0_7 a0_8 a0_9 a0_10 l0_11 l0_12).bind fun t350=>(if t350=true then ((impl_Touchy.f k a0_0 a0_1 a0_2 a0_3 a0_4 l0_5 l0_6 a0_7 a0_8 a0_9 a0_10 l0_11 l0_12).bind fun t351=>(some (!t351))) else (some false))
theorem impl_mayTurn.mono:∀ a0 a1 a2 a3 a4 a5 a6 a7 a8 a9 a10 a11 a12 k,LeO (impl_mayTurn.f k a0 a1 a2 a3 a4 a5 a6 a7 a8 a9 a10 a11 a12) (impl_mayTurn.f (k+1) a0 a1 a2 a3 a4 a5 a6 a7 a8 a9 a10 a11 a12):=by
 intro a0 a1 a2 a3 a4 a5 a6 a7 a8 a9 a10 a11 a12 k
 unfold impl_mayTurn.f
 repeat' first
   | (with_reducible exact impl_PngOk.mono _ _ _ _ _ _ _ _ _ _ _ _ _ _)
   | (with_reducible exact impl_Touchy.mono _ _ _ _ _ _ _ _ _ _ _ _ _ _)
   | (with_reducible exact LeO.refl _)
   | (with_reducible exact LeO.none _)
   | (with_reducible refine LeO.ite ?_ ?_)
   | (with_reducible refine LeO.bind ?_ (fun _=>?_))
   | exact impl_PngOk.mono _ _ _ _ _ _ _ _ _ _ _ _ _ _
   | exact impl_Touchy.mono _ _ _ _ _ _ _ _ _ _ _ _ _ _
   | exact LeO.none _
   | refine LeO.ite ?_ ?_
   | refine LeO.bind ?_ (fun _=>?_)
theorem impl_mayTurn.calls (k:Nat) (a0_0:Int) (a0_1:Int) (a0_2:Int) (a0_3:Int) (a0_4:Bool) (A0_5:Option Addr) (c0_5:Nat) (l0_5:List (S95)) (A0_6:Option Addr) (c0_6:Nat) (l0_6:List Int) (a0_7:Int) (a0_8:Int) (a0_9:Int) (a0_10:Int) (A0_11:Option Addr) (c0_11:Nat) (l0_11:List Int) (A0_12:Option Addr) (c0_12:Nat) (l0_12:List (S83)) (r:Bool) (w:World) (hr0_5:Kd.C k95 w A0_5 l0_5.length l0_5) (hc0_5:l0_5.length≤c0_5) (hr0_6:Kd.C (Kd.int .i64) w A0_6 l0_6.length l0_6) (hc0_6:l0_6.length≤c0_6) (hr0_11:Kd.C (Kd.int .i64) w A0_11 l0_11.length l0_11) (hc0_11:l0_11.length≤c0_11) (hr0_12:Kd.C k83 w A0_12 l0_12.length l0_12) (hc0_12:l0_12.length≤c0_12) (h:impl_mayTurn.f k a0_0 a0_1 a0_2 a0_3 a0_4 l0_5 l0_6 a0_7 a0_8 a0_9 a0_10 l0_11 l0_12=some r):
  Calls Try.prog 45 #[.agg #[.int .i64 a0_0,.int .i64 a0_1,.int .i64 a0_2,.int .i64 a0_3,.bool a0_4,.slice A0_5 l0_5.length c0_5,.slice A0_6 l0_6.length c0_6,.int .i64 a0_7,.int .i64 a0_8,.int .i64 a0_9,.int .i64 a0_10,.slice A0_11 l0_11.length c0_11,.slice A0_12 l0_12.length c0_12]] w fun e w'=>e=.returned (.bool r)∧Below w.heap.size w w':=by
 have hu37:=Try.underlying37
 have HR0_5:=Aside0.mk hr0_5
 have HC0_5:=Aside0.mk hc0_5
 clear hr0_5 hc0_5
 have HR0_6:=Aside0.mk hr0_6
 have HC0_6:=Aside0.mk hc0_6
 clear hr0_6 hc0_6
 have HR0_11:=Aside0.mk hr0_11
 have HC0_11:=Aside0.mk hc0_11
 clear hr0_11 hc0_11
 have HR0_12:=Aside0.mk hr0_12
 have HC0_12:=Aside0.mk hc0_12
 clear hr0_12 hc0_12
 have HB:=Aside0.mk (Below.refl w.heap.size w)
 have H:=h
 clear h
 unfold impl_mayTurn.f at H
 obtain ⟨t350,A2,H⟩:=bS H
 try dsimp only at H
 by_cases c3:t350=true
 ·subst c3
  rw [if_pos rfl] at H
  obtain ⟨t351,A4,H⟩:=bS H
  try dsimp only at H
  obtain rfl:=sI H
  go_enter Try.func45,Try.ntmps45
  go_wp2_with (first|((with_reducible refine gate_dst (N:=1) rfl ?_);refine boxE 1 (#[.int .i64 a0_0,.int .i64 a0_1,.int .i64 a0_2,.int .i64 a0_3,.bool a0_4,.slice A0_5 l0_5.length c0_5,.slice A0_6 l0_6.length c0_6,.int .i64 a0_7,.int .i64 a0_8,.int .i64 a0_9,.int .i64 a0_10,.slice A0_11 l0_11.length c0_11,.slice A0_12 l0_12.length c0_12]) 37 ?_;intro gb349 hg w5 hbox hb;have BK349:=Aside0.mk hbox;have GW349:=(gwH (w:=w) hg);have GE349:=(gwH (w:=w) hg);replace HB:=Aside0.mk (below_step bH hb);clear hb hbox hg;obtain ⟨z6_0,z6_1,z6_2,z6_3,z6_4,z6_5,z6_6,z6_7,z6_8,z6_9,z6_10,z6_11,z6_12,y6_0,y6_1,y6_2,y6_3,y6_4,y6_5,y6_6,y6_7,y6_8,y6_9,y6_10,y6_11,y6_12⟩:=blk13f BK349)|((with_reducible refine gate_callee (f:=77) rfl ?_);refine gL (some 4) Try.func77 #[.agg #[.int .i64 a0_0,.int .i64 a0_1,.int .i64 a0_2,.int .i64 a0_3,.bool a0_4,.slice A0_5 l0_5.length c0_5,.slice A0_6 l0_6.length c0_6,.int .i64 a0_7,.int .i64 a0_8,.int .i64 a0_9,.int .i64 a0_10,.slice A0_11 l0_11.length c0_11,.slice A0_12 l0_12.length c0_12]] ?_;(with_reducible refine (impl_PngOk.calls k a0_0 a0_1 a0_2 a0_3 a0_4 _ _ l0_5 _ _ l0_6 a0_7 a0_8 a0_9 a0_10 _ _ l0_11 _ _ l0_12 true _ (cB HR0_5) HC0_5.out (cB HR0_6) HC0_6.out (cB HR0_11) HC0_11.out (cB HR0_12) HC0_12.out A2.out).mono ?_);rintro e w7 ⟨rfl,hb⟩;refine ⟨_,rfl,?_⟩;replace BK349:=Aside0.mk (bkb BK349 hb);replace HB:=Aside0.mk (below_step bG hb);(try clear hb);obtain ⟨z8_0,z8_1,z8_2,z8_3,z8_4,z8_5,z8_6,z8_7,z8_8,z8_9,z8_10,z8_11,z8_12,y8_0,y8_1,y8_2,y8_3,y8_4,y8_5,y8_6,y8_7,y8_8,y8_9,y8_10,y8_11,y8_12⟩:=blk13f BK349)|(go_at_call 25;(with_reducible refine (impl_Touchy.calls k a0_0 a0_1 a0_2 a0_3 a0_4 _ _ l0_5 _ _ l0_6 a0_7 a0_8 a0_9 a0_10 _ _ l0_11 _ _ l0_12 t351 _ (cB HR0_5) HC0_5.out (cB HR0_6) HC0_6.out (cB HR0_11) HC0_11.out (cB HR0_12) HC0_12.out A4.out).mono ?_);rintro e w9 ⟨rfl,hb⟩;replace BK349:=Aside0.mk (bkb BK349 hb);replace HB:=Aside0.mk (below_step bG hb);(try clear hb)))
  go_ret
  exact ⟨fE,bG⟩
 ·obtain rfl:=bF c3
  rw [if_neg nF] at H
  obtain rfl:=sI H
  go_enter Try.func45,Try.ntmps45
  go_wp2_with (first|((with_reducible refine gate_dst (N:=1) rfl ?_);refine boxE 1 (#[.int .i64 a0_0,.int .i64 a0_1,.int .i64 a0_2,.int .i64 a0_3,.bool a0_4,.slice A0_5 l0_5.length c0_5,.slice A0_6 l0_6.length c0_6,.int .i64 a0_7,.int .i64 a0_8,.int .i64 a0_9,.int .i64 a0_10,.slice A0_11 l0_11.length c0_11,.slice A0_12 l0_12.length c0_12]) 37 ?_;intro gb349 hg w10 hbox hb;have BK349:=Aside0.mk hbox;have GW349:=(gwH (w:=w) hg);have GE349:=(gwH (w:=w) hg);replace HB:=Aside0.mk (below_step bH hb);clear hb hbox hg;obtain ⟨z11_0,z11_1,z11_2,z11_3,z11_4,z11_5,z11_6,z11_7,z11_8,z11_9,z11_10,z11_11,z11_12,y11_0,y11_1,y11_2,y11_3,y11_4,y11_5,y11_6,y11_7,y11_8,y11_9,y11_10,y11_11,y11_12⟩:=blk13f BK349)|((with_reducible refine gate_callee (f:=77) rfl ?_);refine gL (some 4) Try.func77 #[.agg #[.int .i64 a0_0,.int .i64 a0_1,.int .i64 a0_2,.int .i64 a0_3,.bool a0_4,.slice A0_5 l0_5.length c0_5,.slice A0_6 l0_6.length c0_6,.int .i64 a0_7,.int .i64 a0_8,.int .i64 a0_9,.int .i64 a0_10,.slice A0_11 l0_11.length c0_11,.slice A0_12 l0_12.length c0_12]] ?_;(with_reducible refine (impl_PngOk.calls k a0_0 a0_1 a0_2 a0_3 a0_4 _ _ l0_5 _ _ l0_6 a0_7 a0_8 a0_9 a0_10 _ _ l0_11 _ _ l0_12 false _ (cB HR0_5) HC0_5.out (cB HR0_6) HC0_6.out (cB HR0_11) HC0_11.out (cB HR0_12) HC0_12.out A2.out).mono ?_);rintro e w12 ⟨rfl,hb⟩;refine ⟨_,rfl,?_⟩;replace BK349:=Aside0.mk (bkb BK349 hb);replace HB:=Aside0.mk (below_step bG hb);(try clear hb)))
  go_ret
  exact ⟨fE,bG⟩
def impl_copyInts.f (l0:List Int):Option (List Int):=(some (([]:List Int):List Int)).bind fun y352=>(if y352.length+l0.length < 17592186044416 then (some (y352++l0)) else (none))
theorem impl_copyInts.calls (A0:Option Addr) (c0:Nat) (l0:List Int) (r:List Int) (w:World) (hr0:Kd.C (Kd.int .i64) w A0 l0.length l0) (hc0:l0.length≤c0) (h:impl_copyInts.f l0=some r):
  Calls Try.prog 72 #[.slice A0 l0.length c0] w fun e w'=>∃ v0_:Value,e=.returned (v0_)∧Kd.R (Kd.int .i64) 3 w' w.heap.size (fun _=>True) v0_ r∧Below w.heap.size w w':=by
 have HR0:=Aside0.mk hr0
 have HC0:=Aside0.mk hc0
 clear hr0 hc0
 have HB:=Aside0.mk (Below.refl w.heap.size w)
 have H:=h
 clear h
 unfold impl_copyInts.f at H
 obtain ⟨y352,hy352⟩:∃ y_:List Int,y_=(([]:List Int)):=⟨_,rfl⟩
 replace H:(if y352.length+l0.length < 17592186044416 then (some (y352++l0)) else (none))=some r:=by first|(rw [hy352];with_reducible exact H)|(have H2_:=(Option.bind_some _ _).symm.trans H;rw [hy352];with_reducible exact H2_)|(have H2_:=(Option.bind_some _ _).symm.trans H;with_reducible exact H2_)|with_reducible exact H|(rw [hy352];exact H)|exact H
 have Ny352:=Aside0.mk hy352
 clear hy352
 by_cases c2:y352.length+l0.length < 17592186044416
 ·rw [if_pos c2] at H
  have LMc2:=Aside0.mk c2
  clear c2
  obtain ⟨y355,hy355⟩:∃ y_:List Int,y_=(y352++l0):=⟨_,rfl⟩
  replace H:(some y355)=some r:=by first|(rw [hy355];with_reducible exact H)|(have H2_:=(Option.bind_some _ _).symm.trans H;rw [hy355];with_reducible exact H2_)|(have H2_:=(Option.bind_some _ _).symm.trans H;with_reducible exact H2_)|with_reducible exact H|(rw [hy355];exact H)|exact H
  have Ny355:=Aside0.mk hy355
  clear hy355
  obtain rfl:=sI H
  go_enter Try.func72,Try.ntmps72
  go_wp2_with (first|((with_reducible refine gate_dst (N:=3) rfl ?_);refine Kd.R_lit (Kd.int .i64) _ 3 ?hg (N:=3) ?hd (xs:=([]:List Int)) (inner:=[]) (ok:=fun _=>True) (okp:=fun _=>True) ?hr ?hp (fun _ hk=>hk) trivial (Below.refl _ _) (Nat.le_refl _) (by simp) ?_;(case hd=>rfl);(case hg=>rfl);(case hr=>first|(go_simp;done)|(go_simp;rfl));(case hp=>exact (Reps.none _ _));intro v353 w3 ho4 hb hg_ hnew_;clear hg_ hnew_;(first|rw [← Ny352.out] at ho4|(simp only [Int.reduceToNat] at ho4;rw [← Ny352.out] at ho4));have HO354:=Aside0.mk (Kd.R_lower ho4 (below_size bH));replace HB:=Aside0.mk (below_step bH hb);clear hb ho4)|((with_reducible refine gate_builtin (b:=.append) (xs:=#[.tmp 3,.tmp 4]) rfl ?_);at_builtin;refine Kd.R_append_rows (Kd.int .i64) (w0:=w) w.heap.size rfl (.tmp 3) (.tmp 4) 25 3 (.int .i64 0) 8 rfl Try.underlying25 info3 rfl (by decide) (by omega) v353 y352 l0 _ _ _ (fun _=>True) (fun _=>False) rfl rfl ?aO ?aR (fun _ _ h=>h) (fun _ h=>h.elim) ?aF ?aB ?aS ?aL ?_;(case aR=>repeat (first|exact (Kd.C_below HR0.out HB.out)|(with_reducible refine Kd.C_alloc ?_ _)|(with_reducible refine Kd.C_drewN ?_ _)|(with_reducible refine Kd.C_drew ?_)));(case aB=>exact bH);(case aF=>exact (fun _ _=>trivial));(case aO=>exact (rS HO354));(case aS=>exact (below_size bH));(case aL=>have:=LMc2.out;omega);intro v356 w5 ho hb hg hat;rw [← Ny355.out] at ho;have HO357:=Aside0.mk ho;replace HB:=Aside0.mk hb;clear HO354;clear ho hb hg hat))
  go_ret
  exact ⟨_,fE,rS HO357,bH⟩
 ·rw [if_neg c2] at H
  exact absurd H (by simp)
def impl_copyRaster.f (a0_0:Int) (a0_1:Int) (a0_2:Int) (a0_3:Int) (l0_4:List Int):Option (Int×Int×Int×Int×List Int):=(impl_copyInts.f l0_4).bind fun t360=>(some (a0_0,a0_1,a0_2,a0_3,t360))
theorem impl_copyRaster.calls (a0_0:Int) (a0_1:Int) (a0_2:Int) (a0_3:Int) (A0_4:Option Addr) (c0_4:Nat) (l0_4:List Int) (r1:Int) (r2:Int) (r3:Int) (r4:Int) (r5:List Int) (w:World) (hr0_4:Kd.C (Kd.int .i64) w A0_4 l0_4.length l0_4) (hc0_4:l0_4.length≤c0_4) (h:impl_copyRaster.f a0_0 a0_1 a0_2 a0_3 l0_4=some (r1,r2,r3,r4,r5)):
  Calls Try.prog 105 #[.agg #[.int .i64 a0_0,.int .i64 a0_1,.int .i64 a0_2,.int .i64 a0_3,.slice A0_4 l0_4.length c0_4]] w fun e w'=>∃ v4_:Value,e=.returned (.agg #[.int .i64 r1,.int .i64 r2,.int .i64 r3,.int .i64 r4,v4_])∧Kd.R (Kd.int .i64) 3 w' w.heap.size (fun _=>True) v4_ r5∧Below w.heap.size w w':=by
 have hu34:=Try.underlying34
 have HR0_4:=Aside0.mk hr0_4
 have HC0_4:=Aside0.mk hc0_4
 clear hr0_4 hc0_4
 have HB:=Aside0.mk (Below.refl w.heap.size w)
 have H:((impl_copyInts.f l0_4).bind fun t360=>(some (a0_0,a0_1,a0_2,a0_3,t360)))=some (r1,r2,r3,r4,r5):=h
 clear h
 replace H:=Option.bind_eq_some_iff.mp H
 obtain ⟨t360,A20,H⟩:=H
 replace H:(some (a0_0,a0_1,a0_2,a0_3,t360))=some (r1,r2,r3,r4,r5):=H
 have A2:=Aside0.mk A20
 clear A20
 simp only [Option.some.injEq,Prod.mk.injEq] at H
 obtain ⟨rfl,rfl,rfl,rfl,rfl⟩:=H
 go_enter Try.func105,Try.ntmps105
 go_wp2_with (first|((with_reducible refine gate_dst (N:=1) rfl ?_);refine boxE 1 (#[.int .i64 a0_0,.int .i64 a0_1,.int .i64 a0_2,.int .i64 a0_3,.slice A0_4 l0_4.length c0_4]) 34 ?_;intro gb358 hg w3 hbox hb;have BK358:=Aside0.mk hbox;have GW358:=(gwH (w:=w) hg);have GE358:=(gwH (w:=w) hg);replace HB:=Aside0.mk (below_step bH hb);clear hb hbox hg)|((with_reducible refine gate_dst (N:=2) rfl ?_);refine boxE 2 (#[.int .i64 0,.int .i64 0,.int .i64 0,.int .i64 0,.slice none 0 0]) 34 ?_;intro gb359 hg w4 hbox hb;have n0_:=Aside0.mk (bkb BK358 hb);have n1_:=Aside0.mk (below_step bG hb);have n2_:=Aside0.mk hbox;have n3_:=(gwG (w:=w) hg);have n4_:=(gwG (w:=w) hg);have n5_:=(nbl BK358 hg);have n6_:=(nbg BK358 hg);clear BK358;clear HB;have BK358:=n0_;have HB:=n1_;have BK359:=n2_;have GW359:=n3_;have GE359:=n4_;have NB358_359:=n5_;have NB359_358:=n6_;clear n0_ n1_ n2_ n3_ n4_ n5_ n6_;clear hb hbox hg;have hnb5:=NB358_359.out;have hnc5:=NB359_358.out;obtain ⟨z6_0,z6_1,z6_2,z6_3,z6_4,y6_0,y6_1,y6_2,y6_3,y6_4⟩:=blk5f BK358)|((with_reducible refine gate_callee (f:=72) rfl ?_);refine gL (some 5) Try.func72 #[.slice A0_4 l0_4.length c0_4] ?_;(with_reducible refine (impl_copyInts.calls _ _ l0_4 t360 _ (cB HR0_4) HC0_4.out A2.out).mono ?_);rintro e w7 ⟨v361,rfl,ho0,hb⟩;refine ⟨_,rfl,?_⟩;have HO362:=Aside0.mk (Kd.R_lower ho0 (below_size bG));replace BK358:=Aside0.mk (bkb BK358 hb);replace BK359:=Aside0.mk (bkb BK359 hb);replace HB:=Aside0.mk (below_step bG hb);(try clear hb);(try clear ho0);obtain ⟨Ao8,co8,eo8⟩:=Kd.R_slice HO362.out;subst eo8;obtain ⟨z9_0,z9_1,z9_2,z9_3,z9_4,y9_0,y9_1,y9_2,y9_3,y9_4⟩:=blk5f BK358;obtain ⟨z10_0,z10_1,z10_2,z10_3,z10_4,y10_0,y10_1,y10_2,y10_3,y10_4⟩:=blk5f BK359))
 refine bodyPost_ret (results_cell_row rfl _ _ gb359 34 #[.int .i64 a0_0,.int .i64 a0_1,.int .i64 a0_2,.int .i64 a0_3,.slice Ao8 t360.length co8] (0,0) _ rfl (by refine bP (cs:=?_) ?_ 4 ?_;rotate_left;refine bP (cs:=?_) ?_ 3 ?_;rotate_left;refine bP (cs:=?_) ?_ 2 ?_;rotate_left;refine bP (cs:=?_) ?_ 1 ?_;rotate_left;refine bP (cs:=?_) ?_ 0 ?_;rotate_left;refine blk_far ?_ NB359_358.out _;(with_reducible repeat (first|refine blk_drewN ?_ _|refine blk_drew ?_|refine blk_alloc ?_ _));exact BK359.out;all_goals ((try simp only [sA,sZ,sC]);first|done|rfl)) Try.underlying34 rfl (by kernel_rfl)) rfl ?_
 exact ⟨_,fE,by (with_reducible repeat (first|apply Kd.R_alloc|apply Kd.R_drewN|apply Kd.R_drew));exact Kd.R_mono (rf (rf (rf (rf (rf (rg (Kd.R_types (Kd.R_types HO362.out BK358.out (by decide)) BK359.out (by decide)))))))) (fun _ hk=>trivial),bG⟩
def impl_copyChunks.f (l0:List (S83)):Option ((List (S83))):=(some (([]:List (S83)):List (S83))).bind fun y363=>(if y363.length+l0.length < 4398046511104 then (some (y363++l0)) else (none))
theorem impl_copyChunks.calls (A0:Option Addr) (c0:Nat) (l0:List (S83)) (r:List (S83)) (w:World) (hr0:Kd.C k83 w A0 l0.length l0) (hc0:l0.length≤c0) (h:impl_copyChunks.f l0=some r):
  Calls Try.prog 106 #[.slice A0 l0.length c0] w fun e w'=>∃ v0_:Value,e=.returned (v0_)∧Kd.R k83 83 w' w.heap.size (fun _=>True) v0_ r∧Below w.heap.size w w':=by
 have HR0:=Aside0.mk hr0
 have HC0:=Aside0.mk hc0
 clear hr0 hc0
 have HB:=Aside0.mk (Below.refl w.heap.size w)
 have H:=h
 clear h
 unfold impl_copyChunks.f at H
 obtain ⟨y363,hy363⟩:∃ y_:List (S83),y_=(([]:List (S83))):=⟨_,rfl⟩
 replace H:(if y363.length+l0.length < 4398046511104 then (some (y363++l0)) else (none))=some r:=by first|(rw [hy363];with_reducible exact H)|(have H2_:=(Option.bind_some _ _).symm.trans H;rw [hy363];with_reducible exact H2_)|(have H2_:=(Option.bind_some _ _).symm.trans H;with_reducible exact H2_)|with_reducible exact H|(rw [hy363];exact H)|exact H
 have Ny363:=Aside0.mk hy363
 clear hy363
 by_cases c2:y363.length+l0.length < 4398046511104
 ·rw [if_pos c2] at H
  have LMc2:=Aside0.mk c2
  clear c2
  obtain ⟨y366,hy366⟩:∃ y_:List (S83),y_=(y363++l0):=⟨_,rfl⟩
  replace H:(some y366)=some r:=by first|(rw [hy366];with_reducible exact H)|(have H2_:=(Option.bind_some _ _).symm.trans H;rw [hy366];with_reducible exact H2_)|(have H2_:=(Option.bind_some _ _).symm.trans H;with_reducible exact H2_)|with_reducible exact H|(rw [hy366];exact H)|exact H
  have Ny366:=Aside0.mk hy366
  clear hy366
  obtain rfl:=sI H
  go_enter Try.func106,Try.ntmps106
  go_wp2_with (first|((with_reducible refine gate_dst (N:=3) rfl ?_);refine Kd.R_lit k83 _ 83 ?hg (N:=3) ?hd (xs:=([]:List (S83))) (inner:=[]) (ok:=fun _=>True) (okp:=fun _=>True) ?hr ?hp (fun _ hk=>hk) trivial (Below.refl _ _) (Nat.le_refl _) (by simp) ?_;(case hd=>rfl);(case hg=>rfl);(case hr=>first|(go_simp;done)|(go_simp;rfl));(case hp=>exact (Reps.none _ _));intro v364 w3 ho4 hb hg_ hnew_;clear hg_ hnew_;(first|rw [← Ny363.out] at ho4|(simp only [Int.reduceToNat] at ho4;rw [← Ny363.out] at ho4));have HO365:=Aside0.mk (Kd.R_lower ho4 (below_size bH));replace HB:=Aside0.mk (below_step bH hb);clear hb ho4)|((with_reducible refine gate_builtin (b:=.append) (xs:=#[.tmp 3,.tmp 4]) rfl ?_);at_builtin;refine Kd.R_append_rows k83 (w0:=w) w.heap.size rfl (.tmp 3) (.tmp 4) 35 83 (.agg #[(.string ⟨#[]⟩),(.string ⟨#[]⟩)]) 32 rfl Try.underlying35 info83 rfl (by decide) (by omega) v364 y363 l0 _ _ _ (fun _=>True) (fun _=>False) rfl rfl ?aO ?aR (fun _ _ h=>h) (fun _ h=>h.elim) ?aF ?aB ?aS ?aL ?_;(case aR=>repeat (first|exact (Kd.C_below HR0.out HB.out)|(with_reducible refine Kd.C_alloc ?_ _)|(with_reducible refine Kd.C_drewN ?_ _)|(with_reducible refine Kd.C_drew ?_)));(case aB=>exact bH);(case aF=>exact (fun _ _=>trivial));(case aO=>exact (rS HO365));(case aS=>exact (below_size bH));(case aL=>have:=LMc2.out;omega);intro v367 w5 ho hb hg hat;rw [← Ny366.out] at ho;have HO368:=Aside0.mk ho;replace HB:=Aside0.mk hb;clear HO365;clear ho hb hg hat))
  go_ret
  exact ⟨_,fE,rS HO368,bH⟩
 ·rw [if_neg c2] at H
  exact absurd H (by simp)
def impl_copyPng.f (a0_0:Int) (a0_1:Int) (a0_2:Int) (a0_3:Int) (a0_4:Bool) (l0_5:List (S95)) (l0_6:List Int) (a0_7:Int) (a0_8:Int) (a0_9:Int) (a0_10:Int) (l0_11:List Int) (l0_12:List (S83)):Option (Int×Int×Int×Int×Bool×(List (S95))×List Int×Int×Int×Int×Int×List Int×(List (S83))):=(some (([]:List (S95)):List (S95))).bind fun y371=>(if y371.length+l0_5.length < 5864062014805 then ((impl_copyInts.f l0_6).bind fun t377=>((impl_copyRaster.f a0_7 a0_8 a0_9 a0_10 l0_11).bind fun bt380=>((impl_copyChunks.f l0_12).bind fun t387=>(some (a0_0,a0_1,a0_2,a0_3,a0_4,(y371++l0_5),t377,bt380.1,bt380.2.1,bt380.2.2.1,bt380.2.2.2.1,bt380.2.2.2.2,t387))))) else (none))
def impl_copyPng.T1:Bool×List (List Nat×List Nat):=(true,[([],[]),([0],[0]),([],[]),([],[]),([3],[3]),([2,4],[2,4]),([],[]),([6],[6]),([7,5],[7]),([],[]),([9],[9]),([10,8],[10]),([],[]),([12],[12]),([13,11],[13]),([1,5,8,11,14],[1,5,8,11,14]),([15,14,0,1,2,3,4,5,6,7,8,9,10,11,12,13,14,15],[15])])
def impl_copyPng.B1:List Nat:=[0,1,0,0,8,28,0,64,252,0,512,2044,0,4096,16380,32767,65535]
theorem impl_copyPng.tab1:rtab .any (opsOf Try.f76 1)=impl_copyPng.T1:=by kernel_rfl
theorem impl_copyPng.bits1:waitsOk impl_copyPng.T1.2 impl_copyPng.B1=true:=by kernel_rfl
theorem impl_copyPng.calls (a0_0:Int) (a0_1:Int) (a0_2:Int) (a0_3:Int) (a0_4:Bool) (A0_5:Option Addr) (c0_5:Nat) (l0_5:List (S95)) (A0_6:Option Addr) (c0_6:Nat) (l0_6:List Int) (a0_7:Int) (a0_8:Int) (a0_9:Int) (a0_10:Int) (A0_11:Option Addr) (c0_11:Nat) (l0_11:List Int) (A0_12:Option Addr) (c0_12:Nat) (l0_12:List (S83)) (r1:Int) (r2:Int) (r3:Int) (r4:Int) (r5:Bool) (r6:List (S95)) (r7:List Int) (r8:Int) (r9:Int) (r10:Int) (r11:Int) (r12:List Int) (r13:List (S83)) (w:World) (hr0_5:Kd.C k95 w A0_5 l0_5.length l0_5) (hc0_5:l0_5.length≤c0_5) (hr0_6:Kd.C (Kd.int .i64) w A0_6 l0_6.length l0_6) (hc0_6:l0_6.length≤c0_6) (hr0_11:Kd.C (Kd.int .i64) w A0_11 l0_11.length l0_11) (hc0_11:l0_11.length≤c0_11) (hr0_12:Kd.C k83 w A0_12 l0_12.length l0_12) (hc0_12:l0_12.length≤c0_12) (h:impl_copyPng.f a0_0 a0_1 a0_2 a0_3 a0_4 l0_5 l0_6 a0_7 a0_8 a0_9 a0_10 l0_11 l0_12=some (r1,r2,r3,r4,r5,r6,r7,r8,r9,r10,r11,r12,r13)):
  Calls Try.prog 76 #[.agg #[.int .i64 a0_0,.int .i64 a0_1,.int .i64 a0_2,.int .i64 a0_3,.bool a0_4,.slice A0_5 l0_5.length c0_5,.slice A0_6 l0_6.length c0_6,.int .i64 a0_7,.int .i64 a0_8,.int .i64 a0_9,.int .i64 a0_10,.slice A0_11 l0_11.length c0_11,.slice A0_12 l0_12.length c0_12]] w fun e w'=>∃ v5_ v6_ v11_ v12_:Value,e=.returned (.agg #[.int .i64 r1,.int .i64 r2,.int .i64 r3,.int .i64 r4,.bool r5,v5_,v6_,.int .i64 r8,.int .i64 r9,.int .i64 r10,.int .i64 r11,v11_,v12_])∧Kd.R k95 95 w' w.heap.size (fun _=>True) v5_ r6∧Kd.R (Kd.int .i64) 3 w' w.heap.size (fun k_=>some k_≠(v11_:Value).ownBlock) v6_ r7∧Kd.R (Kd.int .i64) 3 w' w.heap.size (fun k_=>some k_≠(v6_:Value).ownBlock) v11_ r12∧Kd.R k83 83 w' w.heap.size (fun _=>True) v12_ r13∧Below w.heap.size w w':=by
 have hu37:=Try.underlying37
 have hu32:=Try.underlying32
 have hu34:=Try.underlying34
 have HR0_5:=Aside0.mk hr0_5
 have HC0_5:=Aside0.mk hc0_5
 clear hr0_5 hc0_5
 have HR0_6:=Aside0.mk hr0_6
 have HC0_6:=Aside0.mk hc0_6
 clear hr0_6 hc0_6
 have HR0_11:=Aside0.mk hr0_11
 have HC0_11:=Aside0.mk hc0_11
 clear hr0_11 hc0_11
 have HR0_12:=Aside0.mk hr0_12
 have HC0_12:=Aside0.mk hc0_12
 clear hr0_12 hc0_12
 have HB:=Aside0.mk (Below.refl w.heap.size w)
 have H:((some (([]:List (S95)):List (S95))).bind fun y371=>(if y371.length+l0_5.length < 5864062014805 then ((impl_copyInts.f l0_6).bind fun t377=>((impl_copyRaster.f a0_7 a0_8 a0_9 a0_10 l0_11).bind fun bt380=>((impl_copyChunks.f l0_12).bind fun t387=>(some (a0_0,a0_1,a0_2,a0_3,a0_4,(y371++l0_5),t377,bt380.1,bt380.2.1,bt380.2.2.1,bt380.2.2.2.1,bt380.2.2.2.2,t387))))) else (none)))=some (r1,r2,r3,r4,r5,r6,r7,r8,r9,r10,r11,r12,r13):=h
 clear h
 obtain ⟨y371,hy371⟩:∃ y_:List (S95),y_=(([]:List (S95))):=⟨_,rfl⟩
 replace H:(if y371.length+l0_5.length < 5864062014805 then ((impl_copyInts.f l0_6).bind fun t377=>((impl_copyRaster.f a0_7 a0_8 a0_9 a0_10 l0_11).bind fun bt380=>((impl_copyChunks.f l0_12).bind fun t387=>(some (a0_0,a0_1,a0_2,a0_3,a0_4,(y371++l0_5),t377,bt380.1,bt380.2.1,bt380.2.2.1,bt380.2.2.2.1,bt380.2.2.2.2,t387))))) else (none))=some (r1,r2,r3,r4,r5,r6,r7,r8,r9,r10,r11,r12,r13):=by first|(rw [hy371];with_reducible exact H)|(have H2_:=(Option.bind_some _ _).symm.trans H;rw [hy371];with_reducible exact H2_)|(have H2_:=(Option.bind_some _ _).symm.trans H;with_reducible exact H2_)|with_reducible exact H|(rw [hy371];exact H)|exact H
 have Ny371:=Aside0.mk hy371
 clear hy371
 by_cases c2:y371.length+l0_5.length < 5864062014805
 ·rw [if_pos c2] at H
  have LMc2:=Aside0.mk c2
  clear c2
  obtain ⟨y374,hy374⟩:∃ y_:List (S95),y_=(y371++l0_5):=⟨_,rfl⟩
  replace H:((impl_copyInts.f l0_6).bind fun t377=>((impl_copyRaster.f a0_7 a0_8 a0_9 a0_10 l0_11).bind fun bt380=>((impl_copyChunks.f l0_12).bind fun t387=>(some (a0_0,a0_1,a0_2,a0_3,a0_4,y374,t377,bt380.1,bt380.2.1,bt380.2.2.1,bt380.2.2.2.1,bt380.2.2.2.2,t387)))))=some (r1,r2,r3,r4,r5,r6,r7,r8,r9,r10,r11,r12,r13):=by first|(rw [hy374];with_reducible exact H)|(have H2_:=(Option.bind_some _ _).symm.trans H;rw [hy374];with_reducible exact H2_)|(have H2_:=(Option.bind_some _ _).symm.trans H;with_reducible exact H2_)|with_reducible exact H|(rw [hy374];exact H)|exact H
  have Ny374:=Aside0.mk hy374
  clear hy374
  replace H:=Option.bind_eq_some_iff.mp H
  obtain ⟨t377,A30,H⟩:=H
  replace H:((impl_copyRaster.f a0_7 a0_8 a0_9 a0_10 l0_11).bind fun bt380=>((impl_copyChunks.f l0_12).bind fun t387=>(some (a0_0,a0_1,a0_2,a0_3,a0_4,y374,t377,bt380.1,bt380.2.1,bt380.2.2.1,bt380.2.2.2.1,bt380.2.2.2.2,t387))))=some (r1,r2,r3,r4,r5,r6,r7,r8,r9,r10,r11,r12,r13):=H
  have A3:=Aside0.mk A30
  clear A30
  replace H:=Option.bind_eq_some_iff.mp H
  obtain ⟨⟨t380,t381,t382,t383,t384⟩,A40,H⟩:=H
  replace H:((impl_copyChunks.f l0_12).bind fun t387=>(some (a0_0,a0_1,a0_2,a0_3,a0_4,y374,t377,t380,t381,t382,t383,t384,t387)))=some (r1,r2,r3,r4,r5,r6,r7,r8,r9,r10,r11,r12,r13):=H
  have A4:=Aside0.mk A40
  clear A40
  replace H:=Option.bind_eq_some_iff.mp H
  obtain ⟨t387,A50,H⟩:=H
  replace H:(some (a0_0,a0_1,a0_2,a0_3,a0_4,y374,t377,t380,t381,t382,t383,t384,t387))=some (r1,r2,r3,r4,r5,r6,r7,r8,r9,r10,r11,r12,r13):=H
  have A5:=Aside0.mk A50
  clear A50
  simp only [Option.some.injEq,Prod.mk.injEq] at H
  obtain ⟨rfl,rfl,rfl,rfl,rfl,rfl,rfl,rfl,rfl,rfl,rfl,rfl,rfl⟩:=H
  go_enter Try.func76,Try.ntmps76
  try go_wp2_with (first|((with_reducible refine gate_dst (N:=1) rfl ?_);refine boxE 1 (#[.int .i64 a0_0,.int .i64 a0_1,.int .i64 a0_2,.int .i64 a0_3,.bool a0_4,.slice A0_5 l0_5.length c0_5,.slice A0_6 l0_6.length c0_6,.int .i64 a0_7,.int .i64 a0_8,.int .i64 a0_9,.int .i64 a0_10,.slice A0_11 l0_11.length c0_11,.slice A0_12 l0_12.length c0_12]) 37 ?_;intro gb369 hg w6 hbox hb;have BK369:=Aside0.mk hbox;have GW369:=(gwH (w:=w) hg);have GE369:=(gwH (w:=w) hg);replace HB:=Aside0.mk (below_step bH hb);clear hb hbox hg)|((with_reducible refine gate_dst (N:=2) rfl ?_);refine boxE 2 (#[.int .i64 0,.int .i64 0,.int .i64 0,.int .i64 0,.bool false,.slice none 0 0,.slice none 0 0,.int .i64 0,.int .i64 0,.int .i64 0,.int .i64 0,.slice none 0 0,.slice none 0 0]) 37 ?_;intro gb370 hg w7 hbox hb;have n0_:=Aside0.mk (bkb BK369 hb);have n1_:=Aside0.mk (below_step bG hb);have n2_:=Aside0.mk hbox;have n3_:=(gwG (w:=w) hg);have n4_:=(gwG (w:=w) hg);have n5_:=(nbl BK369 hg);have n6_:=(nbg BK369 hg);clear BK369;clear HB;have BK369:=n0_;have HB:=n1_;have BK370:=n2_;have GW370:=n3_;have GE370:=n4_;have NB369_370:=n5_;have NB370_369:=n6_;clear n0_ n1_ n2_ n3_ n4_ n5_ n6_;clear hb hbox hg))
  replace BK369:=Aside0.mk (blk_drew BK369.out);replace BK370:=Aside0.mk (blk_drew BK370.out);replace HB:=Aside0.mk (below_drew1 HB.out)
  refine start_ (n:=17) (S:=fun w'=>w'.cell? ⟨gb369,0,none⟩=some (.int .i64 a0_0)∧w'.cell? ⟨gb369,1,none⟩=some (.int .i64 a0_1)∧w'.cell? ⟨gb369,2,none⟩=some (.int .i64 a0_2)∧w'.cell? ⟨gb369,3,none⟩=some (.int .i64 a0_3)∧w'.cell? ⟨gb369,4,none⟩=some (.bool a0_4)∧w'.cell? ⟨gb369,5,none⟩=some (.slice A0_5 l0_5.length c0_5)∧w'.cell? ⟨gb369,6,none⟩=some (.slice A0_6 l0_6.length c0_6)∧w'.cell? ⟨gb369,7,none⟩=some (.int .i64 a0_7)∧w'.cell? ⟨gb369,8,none⟩=some (.int .i64 a0_8)∧w'.cell? ⟨gb369,9,none⟩=some (.int .i64 a0_9)∧w'.cell? ⟨gb369,10,none⟩=some (.int .i64 a0_10)∧w'.cell? ⟨gb369,11,none⟩=some (.slice A0_11 l0_11.length c0_11)∧w'.cell? ⟨gb369,12,none⟩=some (.slice A0_12 l0_12.length c0_12)) (ds:=[]) #[false,false,false,false,false,false,false,false,false,false,false,false,false,false,false,false,false] (by kernel_rfl) rfl rfl (blk13 BK369) (fun hHeld=>?_);refine with_tabW impl_copyPng.tab1 impl_copyPng.bits1 (fun HT_ HW_=>?_)
  generalize w7.drew=w8 at BK369 BK370 HB hHeld ⊢
  refine pure_ (i:=0) (N:=some 3) (v:=?_) (a':=?_) #[true,false,false,false,false,false,false,false,false,false,false,false,false,false,false,false,false] rfl rfl (any_of HT_.out (by kernel_rfl)) (fun _ _ _ h=>h) (Or.inl ⟨by rfl,?_⟩) ?_ ?_
  rotate_left
  ·intro w'
   go_simp
   with_reducible rfl
  rotate_left
  ·simp only [Act.put,sA,sZ,sC,i64_w,i32_w]
   rfl
  refine pure_ (i:=3) (N:=some 6) (v:=?_) (a':=?_) #[true,false,false,true,false,false,false,false,false,false,false,false,false,false,false,false,false] rfl rfl (any_of HT_.out (by kernel_rfl)) (fun _ _ _ h=>h) (Or.inl ⟨by rfl,?_⟩) ?_ ?_
  rotate_left
  ·intro w'
   go_simp
   with_reducible rfl
  rotate_left
  ·simp only [Act.put,sA,sZ,sC,i64_w,i32_w]
   rfl
  refine pure_ (i:=6) (N:=some 9) (v:=?_) (a':=?_) #[true,false,false,true,false,false,true,false,false,false,false,false,false,false,false,false,false] rfl rfl (any_of HT_.out (by kernel_rfl)) (fun _ _ _ h=>h) (Or.inl ⟨by rfl,?_⟩) ?_ ?_
  rotate_left
  ·intro w'
   go_simp
   with_reducible rfl
  rotate_left
  ·simp only [Act.put,sA,sZ,sC,i64_w,i32_w]
   rfl
  refine pure_ (i:=9) (N:=some 12) (v:=?_) (a':=?_) #[true,false,false,true,false,false,true,false,false,true,false,false,false,false,false,false,false] rfl rfl (any_of HT_.out (by kernel_rfl)) (fun _ _ _ h=>h) (Or.inl ⟨by rfl,?_⟩) ?_ ?_
  rotate_left
  ·intro w'
   go_simp
   with_reducible rfl
  rotate_left
  ·simp only [Act.put,sA,sZ,sC,i64_w,i32_w]
   rfl
  refine pure_ (i:=12) (N:=some 15) (v:=?_) (a':=?_) #[true,false,false,true,false,false,true,false,false,true,false,false,true,false,false,false,false] rfl rfl (any_of HT_.out (by kernel_rfl)) (fun _ _ _ h=>h) (Or.inl ⟨by rfl,?_⟩) ?_ ?_
  rotate_left
  ·intro w'
   go_simp
   with_reducible rfl
  rotate_left
  ·simp only [Act.put,sA,sZ,sC,i64_w,i32_w]
   rfl
  refine take_ (i:=1) (N:=some 4) (v:=?_) (a':=?_) #[true,true,false,true,false,false,true,false,false,true,false,false,true,false,false,false,false] rfl rfl (take_ofW HT_.out HW_.out (by kernel_rfl)) (fun _ _ _ h=>h) (Or.inl ⟨by rfl,?_⟩) hHeld ?_ ?_
  rotate_left
  ·rintro w' ⟨s0,s1,s2,s3,s4,s5,s6,s7,s8,s9,s10,s11,s12⟩
   go_simp
   with_reducible rfl
  rotate_left
  ·simp only [Act.put,sA,sZ,sC,i64_w,i32_w]
   rfl
  refine take_ (i:=4) (N:=some 7) (v:=?_) (a':=?_) #[true,true,false,true,true,false,true,false,false,true,false,false,true,false,false,false,false] rfl rfl (take_ofW HT_.out HW_.out (by kernel_rfl)) (fun _ _ _ h=>h) (Or.inl ⟨by rfl,?_⟩) hHeld ?_ ?_
  rotate_left
  ·rintro w' ⟨s0,s1,s2,s3,s4,s5,s6,s7,s8,s9,s10,s11,s12⟩
   go_simp
   with_reducible rfl
  rotate_left
  ·simp only [Act.put,sA,sZ,sC,i64_w,i32_w]
   rfl
  refine take_ (i:=7) (N:=some 10) (v:=?_) (a':=?_) #[true,true,false,true,true,false,true,true,false,true,false,false,true,false,false,false,false] rfl rfl (take_ofW HT_.out HW_.out (by kernel_rfl)) (fun _ _ _ h=>h) (Or.inl ⟨by rfl,?_⟩) hHeld ?_ ?_
  rotate_left
  ·rintro w' ⟨s0,s1,s2,s3,s4,s5,s6,s7,s8,s9,s10,s11,s12⟩
   go_simp
   with_reducible rfl
  rotate_left
  ·simp only [Act.put,sA,sZ,sC,i64_w,i32_w]
   rfl
  refine take_ (i:=10) (N:=some 13) (v:=?_) (a':=?_) #[true,true,false,true,true,false,true,true,false,true,true,false,true,false,false,false,false] rfl rfl (take_ofW HT_.out HW_.out (by kernel_rfl)) (fun _ _ _ h=>h) (Or.inl ⟨by rfl,?_⟩) hHeld ?_ ?_
  rotate_left
  ·rintro w' ⟨s0,s1,s2,s3,s4,s5,s6,s7,s8,s9,s10,s11,s12⟩
   go_simp
   with_reducible rfl
  rotate_left
  ·simp only [Act.put,sA,sZ,sC,i64_w,i32_w]
   rfl
  refine take_ (i:=13) (N:=some 16) (v:=?_) (a':=?_) #[true,true,false,true,true,false,true,true,false,true,true,false,true,true,false,false,false] rfl rfl (take_ofW HT_.out HW_.out (by kernel_rfl)) (fun _ _ _ h=>h) (Or.inl ⟨by rfl,?_⟩) hHeld ?_ ?_
  rotate_left
  ·rintro w' ⟨s0,s1,s2,s3,s4,s5,s6,s7,s8,s9,s10,s11,s12⟩
   go_simp
   with_reducible rfl
  rotate_left
  ·simp only [Act.put,sA,sZ,sC,i64_w,i32_w]
   rfl
  refine one_ (i:=2) (N:=some 5) #[true,true,true,true,true,false,true,true,false,true,true,false,true,true,false,false,false] rfl rfl (one_of HT_.out (by kernel_rfl)) (by decide) (fun K hK=>?_)
  refine Kd.R_lit_step k95 _ 95 ?hg (N:=5) ?hd (xs:=([]:List (S95))) (inner:=[]) (ok:=fun _=>True) (okp:=fun _=>True) ?hr ?hp (fun _ hk=>hk) trivial (Below.refl _ _) (Nat.le_refl _) (by simp) ?_;(case hd=>rfl);(case hg=>rfl);(case hr=>first|(go_simp;done)|(go_simp;rfl));(case hp=>exact (Reps.none _ _))
  intro v372 w9 ho10 hb hg_ hnew_
  clear hg_ hnew_
  (first|rw [← Ny371.out] at ho10|(simp only [Int.reduceToNat] at ho10;rw [← Ny371.out] at ho10))
  have HO373:=Aside0.mk (Kd.R_lower ho10 (below_size bG));replace BK369:=Aside0.mk (bkb BK369 hb);replace BK370:=Aside0.mk (bkb BK370 hb);replace HB:=Aside0.mk (below_step bG hb)
  clear hb ho10
  refine hK.out _ _ (blk13 BK369) (fun hHeld=>?_)
  clear hK K
  refine norm_ (a':=?_) ?_ ?_
  rotate_left
  ·show Act.put _ (some 5) _=_
   simp only [Act.put,sA,sZ,sC,i64_w,i32_w]
   rfl
  refine one_ (i:=5) (N:=some 8) #[true,true,true,true,true,true,true,true,false,true,true,false,true,true,false,false,false] rfl rfl (one_of HT_.out (by kernel_rfl)) (by decide) (fun K hK=>?_)
  refine Kd.R_append_rows_step k95 (w0:=w) w.heap.size (by rfl) (.tmp 5) (.tmp 7) 33 95 (.agg #[(.int .i64 0),(.int .i64 0),(.int .i64 0)]) 24 rfl Try.underlying33 info95 rfl (by decide) (by omega) v372 y371 l0_5 _ _ _ (fun _=>True) (fun _=>False) rfl rfl ?aO ?aR (fun _ _ h=>h) (fun _ h=>h.elim) ?aF ?aB ?aS ?aL ?_
  (case aR=>repeat (first|exact (Kd.C_below HR0_5.out HB.out)|(with_reducible refine Kd.C_alloc ?_ _)|(with_reducible refine Kd.C_drewN ?_ _)|(with_reducible refine Kd.C_drew ?_)))
  (case aB=>exact bG)
  (case aF=>exact (fun _ _=>trivial))
  (case aO=>exact (rS HO373))
  (case aS=>exact (below_size bG))
  (case aL=>have:=LMc2.out;omega)
  intro v375 w11 ho hb hg hat
  rw [← Ny374.out] at ho
  replace BK369:=Aside0.mk (blk_grown (g:=gb369) (o:=.cells #[.int .i64 a0_0,.int .i64 a0_1,.int .i64 a0_2,.int .i64 a0_3,.bool a0_4,.slice A0_5 l0_5.length c0_5,.slice A0_6 l0_6.length c0_6,.int .i64 a0_7,.int .i64 a0_8,.int .i64 a0_9,.int .i64 a0_10,.slice A0_11 l0_11.length c0_11,.slice A0_12 l0_12.length c0_12] 37 (0,0)) (bk BK369) hg (Kd.R_ne HO373.out BK369.out (by decide)));replace BK370:=Aside0.mk (blk_grown (g:=gb370) (o:=.cells #[.int .i64 0,.int .i64 0,.int .i64 0,.int .i64 0,.bool false,.slice none 0 0,.slice none 0 0,.int .i64 0,.int .i64 0,.int .i64 0,.int .i64 0,.slice none 0 0,.slice none 0 0] 37 (0,0)) (bk BK370) hg (Kd.R_ne HO373.out BK370.out (by decide)));have HO376:=Aside0.mk ho;replace HB:=Aside0.mk hb;clear HO373
  clear ho hb hg hat
  refine hK.out _ _ (blk13 BK369) (fun hHeld=>?_)
  clear hK K
  refine norm_ (a':=?_) ?_ ?_
  rotate_left
  ·show Act.put _ (some 8) _=_
   simp only [Act.put,sA,sZ,sC,i64_w,i32_w]
   rfl
  refine one_ (i:=8) (N:=some 11) #[true,true,true,true,true,true,true,true,true,true,true,false,true,true,false,false,false] rfl rfl (one_of HT_.out (by kernel_rfl)) (by decide) (fun K hK=>?_)
  refine goes_ Try.func72 (by kernel_rfl) rfl #[.slice A0_6 l0_6.length c0_6] (by rfl) rfl rfl (by (try simp only [List.map_toArray,List.map_cons,List.map_nil]);first|done|rfl|(simp only [List.length_drop,List.length_take];rfl)) ?_
  with_reducible refine (impl_copyInts.calls _ _ l0_6 t377 _ ?side1 ?side2 A3.out).mono ?_
  (case side1=>repeat (first|exact (Kd.C_below HR0_6.out HB.out)|(with_reducible refine Kd.C_alloc ?_ _)|(with_reducible refine Kd.C_drewN ?_ _)|(with_reducible refine Kd.C_drew ?_)))
  (case side2=>exact HC0_6.out)
  rintro e w12 ⟨v378,rfl,ho0,hb⟩
  refine ⟨_,rfl,?_⟩
  replace HO376:=Aside0.mk (Kd.R_below (rS HO376) hb);have HO379:=Aside0.mk (Kd.R_lower ho0 (below_size bG));replace BK369:=Aside0.mk (bkb BK369 hb);replace BK370:=Aside0.mk (bkb BK370 hb);replace HB:=Aside0.mk (below_step bG hb)
  (try clear hb)
  (try clear hb2)
  (try clear hk)
  (try clear hi)
  (try clear ho0)
  refine hK.out _ _ (blk13 BK369) (fun hHeld=>?_)
  clear hK K
  refine norm_ (a':=?_) ?_ ?_
  rotate_left
  ·show Act.put _ (some 11) _=_
   simp only [Act.put,sA,sZ,sC,i64_w,i32_w]
   rfl
  refine one_ (i:=11) (N:=some 14) #[true,true,true,true,true,true,true,true,true,true,true,true,true,true,false,false,false] rfl rfl (one_of HT_.out (by kernel_rfl)) (by decide) (fun K hK=>?_)
  refine goes_ Try.func105 (by kernel_rfl) rfl #[.agg #[.int .i64 a0_7,.int .i64 a0_8,.int .i64 a0_9,.int .i64 a0_10,.slice A0_11 l0_11.length c0_11]] (by rfl) rfl rfl (by (try simp only [List.map_toArray,List.map_cons,List.map_nil]);first|done|rfl|(simp only [List.length_drop,List.length_take];rfl)) ?_
  with_reducible refine (impl_copyRaster.calls a0_7 a0_8 a0_9 a0_10 _ _ l0_11 t380 t381 t382 t383 t384 _ ?side1 ?side2 A4.out).mono ?_
  (case side1=>repeat (first|exact (Kd.C_below HR0_11.out HB.out)|(with_reducible refine Kd.C_alloc ?_ _)|(with_reducible refine Kd.C_drewN ?_ _)|(with_reducible refine Kd.C_drew ?_)))
  (case side2=>exact HC0_11.out)
  rintro e w13 ⟨v385,rfl,ho0,hb⟩
  refine ⟨_,rfl,?_⟩
  have n0_:=Aside0.mk (Kd.R_below (rS HO376) hb)
  have n1_:=Aside0.mk (Kd.R_elder' (rS HO379) (Kd.R_base ho0) hb)
  have n2_:=Aside0.mk (Kd.R_lower (Kd.R_new' ho0 (Kd.R_lt (rS HO379))) (below_size bG))
  have n3_:=Aside0.mk (bkb BK369 hb)
  have n4_:=Aside0.mk (bkb BK370 hb)
  have n5_:=Aside0.mk (below_step bG hb)
  clear HO376
  clear HO379
  clear BK369
  clear BK370
  clear HB
  have HO376:=n0_
  have HO379:=n1_
  have HO386:=n2_
  have BK369:=n3_
  have BK370:=n4_
  have HB:=n5_
  clear n0_ n1_ n2_ n3_ n4_ n5_
  (try clear hb)
  (try clear hb2)
  (try clear hk)
  (try clear hi)
  (try clear ho0)
  refine hK.out _ _ (blk13 BK369) (fun hHeld=>?_)
  clear hK K
  refine norm_ (a':=?_) ?_ ?_
  rotate_left
  ·show Act.put _ (some 14) _=_
   simp only [Act.put,sA,sZ,sC,i64_w,i32_w]
   rfl
  refine one_ (i:=14) (N:=some 17) #[true,true,true,true,true,true,true,true,true,true,true,true,true,true,true,false,false] rfl rfl (one_of HT_.out (by kernel_rfl)) (by decide) (fun K hK=>?_)
  refine goes_ Try.func106 (by kernel_rfl) rfl #[.slice A0_12 l0_12.length c0_12] (by rfl) rfl rfl (by (try simp only [List.map_toArray,List.map_cons,List.map_nil]);first|done|rfl|(simp only [List.length_drop,List.length_take];rfl)) ?_
  with_reducible refine (impl_copyChunks.calls _ _ l0_12 t387 _ ?side1 ?side2 A5.out).mono ?_
  (case side1=>repeat (first|exact (Kd.C_below HR0_12.out HB.out)|(with_reducible refine Kd.C_alloc ?_ _)|(with_reducible refine Kd.C_drewN ?_ _)|(with_reducible refine Kd.C_drew ?_)))
  (case side2=>exact HC0_12.out)
  rintro e w14 ⟨v388,rfl,ho0,hb⟩
  refine ⟨_,rfl,?_⟩
  replace HO376:=Aside0.mk (Kd.R_below (rS HO376) hb);replace HO379:=Aside0.mk (Kd.R_below (rS HO379) hb);replace HO386:=Aside0.mk (Kd.R_below (rS HO386) hb);have HO389:=Aside0.mk (Kd.R_lower ho0 (below_size bG));replace BK369:=Aside0.mk (bkb BK369 hb);replace BK370:=Aside0.mk (bkb BK370 hb);replace HB:=Aside0.mk (below_step bG hb)
  (try clear hb)
  (try clear hb2)
  (try clear hk)
  (try clear hi)
  (try clear ho0)
  obtain ⟨Ao15,co15,eo15⟩:=Kd.R_slice HO389.out
  (first|subst eo15|(injection eo15 with f1_ f2_ f3_;have f4_:=f1_.symm;have f5_:=f3_.symm;clear f1_ f2_ f3_;subst f4_;subst f5_))
  obtain ⟨Ao16,co16,eo16⟩:=Kd.R_slice HO386.out
  (first|subst eo16|(injection eo16 with f1_ f2_ f3_;have f4_:=f1_.symm;have f5_:=f3_.symm;clear f1_ f2_ f3_;subst f4_;subst f5_))
  obtain ⟨Ao17,co17,eo17⟩:=Kd.R_slice HO379.out
  (first|subst eo17|(injection eo17 with f1_ f2_ f3_;have f4_:=f1_.symm;have f5_:=f3_.symm;clear f1_ f2_ f3_;subst f4_;subst f5_))
  obtain ⟨Ao18,co18,eo18⟩:=Kd.R_slice HO376.out
  (first|subst eo18|(injection eo18 with f1_ f2_ f3_;have f4_:=f1_.symm;have f5_:=f3_.symm;clear f1_ f2_ f3_;subst f4_;subst f5_))
  refine hK.out _ _ (blk13 BK369) (fun hHeld=>?_)
  clear hK K
  refine norm_ (a':=?_) ?_ ?_
  rotate_left
  ·show Act.put _ (some 17) _=_
   simp only [Act.put,sA,sZ,sC,i64_w,i32_w]
   rfl
  refine pure_ (i:=15) (N:=some 18) (v:=?_) (a':=?_) #[true,true,true,true,true,true,true,true,true,true,true,true,true,true,true,true,false] rfl rfl (any_of HT_.out (by kernel_rfl)) (fun _ _ _ h=>h) (Or.inl ⟨by rfl,?_⟩) ?_ ?_
  rotate_left
  ·intro w'
   go_simp
   with_reducible rfl
  rotate_left
  ·simp only [Act.put,sA,sZ,sC,i64_w,i32_w]
   rfl
  refine one_ (i:=16) (N:=none) #[true,true,true,true,true,true,true,true,true,true,true,true,true,true,true,true,true] rfl rfl (one_of HT_.out (by kernel_rfl)) (by decide) (fun K hK=>?_)
  have hs19:w14.cell? ⟨gb370,0,none⟩=some (.int .i64 0):=(blk_cell BK370.out 0).trans rfl
  have hfs19:=blk_frozen BK370.out 0
  have hns19_0:=NB369_370.out
  have hms19_0:=NB370_369.out
  have hs20:w14.cell? ⟨gb370,1,none⟩=some (.int .i64 0):=(blk_cell BK370.out 1).trans rfl
  have hfs20:=blk_frozen BK370.out 1
  have hns20_0:=NB369_370.out
  have hms20_0:=NB370_369.out
  have hs21:w14.cell? ⟨gb370,2,none⟩=some (.int .i64 0):=(blk_cell BK370.out 2).trans rfl
  have hfs21:=blk_frozen BK370.out 2
  have hns21_0:=NB369_370.out
  have hms21_0:=NB370_369.out
  have hs22:w14.cell? ⟨gb370,3,none⟩=some (.int .i64 0):=(blk_cell BK370.out 3).trans rfl
  have hfs22:=blk_frozen BK370.out 3
  have hns22_0:=NB369_370.out
  have hms22_0:=NB370_369.out
  have hs23:w14.cell? ⟨gb370,4,none⟩=some (.bool false):=(blk_cell BK370.out 4).trans rfl
  have hfs23:=blk_frozen BK370.out 4
  have hns23_0:=NB369_370.out
  have hms23_0:=NB370_369.out
  have hs24:w14.cell? ⟨gb370,5,none⟩=some (.slice none 0 0):=(blk_cell BK370.out 5).trans rfl
  have hfs24:=blk_frozen BK370.out 5
  have hns24_0:=NB369_370.out
  have hms24_0:=NB370_369.out
  have hs25:w14.cell? ⟨gb370,6,none⟩=some (.slice none 0 0):=(blk_cell BK370.out 6).trans rfl
  have hfs25:=blk_frozen BK370.out 6
  have hns25_0:=NB369_370.out
  have hms25_0:=NB370_369.out
  have hs26:w14.cell? ⟨gb370,7,none⟩=some (.int .i64 0):=(blk_cell BK370.out 7).trans rfl
  have hfs26:=blk_frozen BK370.out 7
  have hns26_0:=NB369_370.out
  have hms26_0:=NB370_369.out
  have hs27:w14.cell? ⟨gb370,8,none⟩=some (.int .i64 0):=(blk_cell BK370.out 8).trans rfl
  have hfs27:=blk_frozen BK370.out 8
  have hns27_0:=NB369_370.out
  have hms27_0:=NB370_369.out
  have hs28:w14.cell? ⟨gb370,9,none⟩=some (.int .i64 0):=(blk_cell BK370.out 9).trans rfl
  have hfs28:=blk_frozen BK370.out 9
  have hns28_0:=NB369_370.out
  have hms28_0:=NB370_369.out
  have hs29:w14.cell? ⟨gb370,10,none⟩=some (.int .i64 0):=(blk_cell BK370.out 10).trans rfl
  have hfs29:=blk_frozen BK370.out 10
  have hns29_0:=NB369_370.out
  have hms29_0:=NB370_369.out
  have hs30:w14.cell? ⟨gb370,11,none⟩=some (.slice none 0 0):=(blk_cell BK370.out 11).trans rfl
  have hfs30:=blk_frozen BK370.out 11
  have hns30_0:=NB369_370.out
  have hms30_0:=NB370_369.out
  have hs31:w14.cell? ⟨gb370,12,none⟩=some (.slice none 0 0):=(blk_cell BK370.out 12).trans rfl
  have hfs31:=blk_frozen BK370.out 12
  have hns31_0:=NB369_370.out
  have hms31_0:=NB370_369.out
  refine skip_ (w1:=?_) (by rfl) rfl ?_ ?_
  rotate_left
  ·go_simp
   rfl
  refine hK.out _ _ ⟨(cf NB369_370 ((cf NB369_370 ((cf NB369_370 ((cf NB369_370 ((cf NB369_370 ((cf NB369_370 ((cf NB369_370 ((cf NB369_370 ((cf NB369_370 ((cf NB369_370 ((cf NB369_370 ((cf NB369_370 ((cf NB369_370 (hHeld.1)))))))))))))))))))))))))),(cf NB369_370 ((cf NB369_370 ((cf NB369_370 ((cf NB369_370 ((cf NB369_370 ((cf NB369_370 ((cf NB369_370 ((cf NB369_370 ((cf NB369_370 ((cf NB369_370 ((cf NB369_370 ((cf NB369_370 ((cf NB369_370 (hHeld.2.1)))))))))))))))))))))))))),(cf NB369_370 ((cf NB369_370 ((cf NB369_370 ((cf NB369_370 ((cf NB369_370 ((cf NB369_370 ((cf NB369_370 ((cf NB369_370 ((cf NB369_370 ((cf NB369_370 ((cf NB369_370 ((cf NB369_370 ((cf NB369_370 (hHeld.2.2.1)))))))))))))))))))))))))),(cf NB369_370 ((cf NB369_370 ((cf NB369_370 ((cf NB369_370 ((cf NB369_370 ((cf NB369_370 ((cf NB369_370 ((cf NB369_370 ((cf NB369_370 ((cf NB369_370 ((cf NB369_370 ((cf NB369_370 ((cf NB369_370 (hHeld.2.2.2.1)))))))))))))))))))))))))),(cf NB369_370 ((cf NB369_370 ((cf NB369_370 ((cf NB369_370 ((cf NB369_370 ((cf NB369_370 ((cf NB369_370 ((cf NB369_370 ((cf NB369_370 ((cf NB369_370 ((cf NB369_370 ((cf NB369_370 ((cf NB369_370 (hHeld.2.2.2.2.1)))))))))))))))))))))))))),(cf NB369_370 ((cf NB369_370 ((cf NB369_370 ((cf NB369_370 ((cf NB369_370 ((cf NB369_370 ((cf NB369_370 ((cf NB369_370 ((cf NB369_370 ((cf NB369_370 ((cf NB369_370 ((cf NB369_370 ((cf NB369_370 (hHeld.2.2.2.2.2.1)))))))))))))))))))))))))),(cf NB369_370 ((cf NB369_370 ((cf NB369_370 ((cf NB369_370 ((cf NB369_370 ((cf NB369_370 ((cf NB369_370 ((cf NB369_370 ((cf NB369_370 ((cf NB369_370 ((cf NB369_370 ((cf NB369_370 ((cf NB369_370 (hHeld.2.2.2.2.2.2.1)))))))))))))))))))))))))),(cf NB369_370 ((cf NB369_370 ((cf NB369_370 ((cf NB369_370 ((cf NB369_370 ((cf NB369_370 ((cf NB369_370 ((cf NB369_370 ((cf NB369_370 ((cf NB369_370 ((cf NB369_370 ((cf NB369_370 ((cf NB369_370 (hHeld.2.2.2.2.2.2.2.1)))))))))))))))))))))))))),(cf NB369_370 ((cf NB369_370 ((cf NB369_370 ((cf NB369_370 ((cf NB369_370 ((cf NB369_370 ((cf NB369_370 ((cf NB369_370 ((cf NB369_370 ((cf NB369_370 ((cf NB369_370 ((cf NB369_370 ((cf NB369_370 (hHeld.2.2.2.2.2.2.2.2.1)))))))))))))))))))))))))),(cf NB369_370 ((cf NB369_370 ((cf NB369_370 ((cf NB369_370 ((cf NB369_370 ((cf NB369_370 ((cf NB369_370 ((cf NB369_370 ((cf NB369_370 ((cf NB369_370 ((cf NB369_370 ((cf NB369_370 ((cf NB369_370 (hHeld.2.2.2.2.2.2.2.2.2.1)))))))))))))))))))))))))),(cf NB369_370 ((cf NB369_370 ((cf NB369_370 ((cf NB369_370 ((cf NB369_370 ((cf NB369_370 ((cf NB369_370 ((cf NB369_370 ((cf NB369_370 ((cf NB369_370 ((cf NB369_370 ((cf NB369_370 ((cf NB369_370 (hHeld.2.2.2.2.2.2.2.2.2.2.1)))))))))))))))))))))))))),(cf NB369_370 ((cf NB369_370 ((cf NB369_370 ((cf NB369_370 ((cf NB369_370 ((cf NB369_370 ((cf NB369_370 ((cf NB369_370 ((cf NB369_370 ((cf NB369_370 ((cf NB369_370 ((cf NB369_370 ((cf NB369_370 (hHeld.2.2.2.2.2.2.2.2.2.2.2.1)))))))))))))))))))))))))),(cf NB369_370 ((cf NB369_370 ((cf NB369_370 ((cf NB369_370 ((cf NB369_370 ((cf NB369_370 ((cf NB369_370 ((cf NB369_370 ((cf NB369_370 ((cf NB369_370 ((cf NB369_370 ((cf NB369_370 ((cf NB369_370 (hHeld.2.2.2.2.2.2.2.2.2.2.2.2))))))))))))))))))))))))))⟩ (fun hHeld=>?_)
  clear hK K
  refine done_ (done_of HT_.out (by kernel_rfl)) ?_
  try go_wp2
  refine bodyPost_ret (results_cell_row rfl _ _ gb370 37 #[.int .i64 a0_0,.int .i64 a0_1,.int .i64 a0_2,.int .i64 a0_3,.bool a0_4,.slice Ao18 y374.length co18,.slice Ao17 t377.length co17,.int .i64 t380,.int .i64 t381,.int .i64 t382,.int .i64 t383,.slice Ao16 t384.length co16,.slice Ao15 t387.length co15] (0,0) _ rfl (by refine bP (cs:=?_) ?_ 12 ?_;rotate_left;refine bP (cs:=?_) ?_ 11 ?_;rotate_left;refine bP (cs:=?_) ?_ 10 ?_;rotate_left;refine bP (cs:=?_) ?_ 9 ?_;rotate_left;refine bP (cs:=?_) ?_ 8 ?_;rotate_left;refine bP (cs:=?_) ?_ 7 ?_;rotate_left;refine bP (cs:=?_) ?_ 6 ?_;rotate_left;refine bP (cs:=?_) ?_ 5 ?_;rotate_left;refine bP (cs:=?_) ?_ 4 ?_;rotate_left;refine bP (cs:=?_) ?_ 3 ?_;rotate_left;refine bP (cs:=?_) ?_ 2 ?_;rotate_left;refine bP (cs:=?_) ?_ 1 ?_;rotate_left;refine bP (cs:=?_) ?_ 0 ?_;rotate_left;exact BK370.out;all_goals ((try simp only [sA,sZ,sC]);first|done|rfl)) Try.underlying37 rfl (by kernel_rfl)) rfl ?_
  exact ⟨_,_,_,_,fE,by (with_reducible repeat (first|apply Kd.R_alloc|apply Kd.R_drewN|apply Kd.R_drew));exact Kd.R_mono (rf (rf (rf (rf (rf (rf (rf (rf (rf (rf (rf (rf (rf (Kd.R_types HO376.out BK370.out (by decide))))))))))))))) (fun _ hk=>trivial),by (with_reducible repeat (first|apply Kd.R_alloc|apply Kd.R_drewN|apply Kd.R_drew));exact Kd.R_mono (rf (rf (rf (rf (rf (rf (rf (rf (rf (rf (rf (rf (rf (Kd.R_types HO379.out BK370.out (by decide))))))))))))))) (fun _ hk=>hk.1.2),by (with_reducible repeat (first|apply Kd.R_alloc|apply Kd.R_drewN|apply Kd.R_drew));exact Kd.R_mono (rf (rf (rf (rf (rf (rf (rf (rf (rf (rf (rf (rf (rf (Kd.R_types HO386.out BK370.out (by decide))))))))))))))) (fun _ hk=>hk.1.2),by (with_reducible repeat (first|apply Kd.R_alloc|apply Kd.R_drewN|apply Kd.R_drew));exact Kd.R_mono (rf (rf (rf (rf (rf (rf (rf (rf (rf (rf (rf (rf (rf (Kd.R_types HO389.out BK370.out (by decide))))))))))))))) (fun _ hk=>trivial),bG⟩
 ·rw [if_neg c2] at H
  exact absurd H (by simp)
def impl_turned.f (a0_0:Int) (a0_1:Int) (a0_2:Int) (a0_3:Int) (a0_4:Bool) (l0_5:List (S95)) (l0_6:List Int) (a0_7:Int) (a0_8:Int) (a0_9:Int) (a0_10:Int) (l0_11:List Int) (l0_12:List (S83)) (a1:Int) (a2:Int) (l3:List Int):Option (Int×Int×Int×Int×Bool×(List (S95))×List Int×Int×Int×Int×Int×List Int×(List (S83))):=(impl_copyPng.f a0_0 a0_1 a0_2 a0_3 a0_4 l0_5 l0_6 a0_7 a0_8 a0_9 a0_10 l0_11 l0_12).bind fun bt392=>(some (bt392.1,bt392.2.1,a2,a1,bt392.2.2.2.2.1,bt392.2.2.2.2.2.1,bt392.2.2.2.2.2.2.1,bt392.2.2.2.2.2.2.2.1,bt392.2.2.2.2.2.2.2.2.1,a1,a2,l3,bt392.2.2.2.2.2.2.2.2.2.2.2.2))
theorem impl_turned.calls (a0_0:Int) (a0_1:Int) (a0_2:Int) (a0_3:Int) (a0_4:Bool) (A0_5:Option Addr) (c0_5:Nat) (l0_5:List (S95)) (A0_6:Option Addr) (c0_6:Nat) (l0_6:List Int) (a0_7:Int) (a0_8:Int) (a0_9:Int) (a0_10:Int) (A0_11:Option Addr) (c0_11:Nat) (l0_11:List Int) (A0_12:Option Addr) (c0_12:Nat) (l0_12:List (S83)) (a1:Int) (a2:Int) (P3_:Nat→Prop) (u9000_:Value) (l3:List Int) (r1:Int) (r2:Int) (r3:Int) (r4:Int) (r5:Bool) (r6:List (S95)) (r7:List Int) (r8:Int) (r9:Int) (r10:Int) (r11:Int) (r12:List Int) (r13:List (S83)) (w0 w:World) (hB:Below w0.heap.size w0 w) (hr0_5:∀ W_,Kept w W_ (fun k_=>P3_ k_)→Kd.C k95 W_ A0_5 l0_5.length l0_5) (hc0_5:l0_5.length≤c0_5) (hr0_6:∀ W_,Kept w W_ (fun k_=>P3_ k_)→Kd.C (Kd.int .i64) W_ A0_6 l0_6.length l0_6) (hc0_6:l0_6.length≤c0_6) (hr0_11:∀ W_,Kept w W_ (fun k_=>P3_ k_)→Kd.C (Kd.int .i64) W_ A0_11 l0_11.length l0_11) (hc0_11:l0_11.length≤c0_11) (hr0_12:∀ W_,Kept w W_ (fun k_=>P3_ k_)→Kd.C k83 W_ A0_12 l0_12.length l0_12) (hc0_12:l0_12.length≤c0_12) (ho3:Kd.R (Kd.int .i64) 3 w w0.heap.size P3_ u9000_ l3) (h:impl_turned.f a0_0 a0_1 a0_2 a0_3 a0_4 l0_5 l0_6 a0_7 a0_8 a0_9 a0_10 l0_11 l0_12 a1 a2 l3=some (r1,r2,r3,r4,r5,r6,r7,r8,r9,r10,r11,r12,r13)):
  Calls Try.prog 69 #[.agg #[.int .i64 a0_0,.int .i64 a0_1,.int .i64 a0_2,.int .i64 a0_3,.bool a0_4,.slice A0_5 l0_5.length c0_5,.slice A0_6 l0_6.length c0_6,.int .i64 a0_7,.int .i64 a0_8,.int .i64 a0_9,.int .i64 a0_10,.slice A0_11 l0_11.length c0_11,.slice A0_12 l0_12.length c0_12],.int .i64 a1,.int .i64 a2,u9000_] w fun e w'=>∃ v5_ v6_ v11_ v12_:Value,e=.returned (.agg #[.int .i64 r1,.int .i64 r2,.int .i64 r3,.int .i64 r4,.bool r5,v5_,v6_,.int .i64 r8,.int .i64 r9,.int .i64 r10,.int .i64 r11,v11_,v12_])∧Kd.R k95 95 w' w0.heap.size (fun k_=>(P3_ k_∨w.heap.size≤k_)) v5_ r6∧Kd.R (Kd.int .i64) 3 w' w0.heap.size (fun k_=>(P3_ k_∨w.heap.size≤k_)∧some k_≠(v11_:Value).ownBlock) v6_ r7∧Kd.R (Kd.int .i64) 3 w' w0.heap.size (fun k_=>(P3_ k_∨w.heap.size≤k_)∧some k_≠(v6_:Value).ownBlock) v11_ r12∧Kd.R k83 83 w' w0.heap.size (fun k_=>(P3_ k_∨w.heap.size≤k_)) v12_ r13∧Below w0.heap.size w0 w'∧Kept w w' (fun k_=>P3_ k_):=by
 have hu37:=Try.underlying37
 have HR0_5:=Aside0.mk hr0_5
 have HC0_5:=Aside0.mk hc0_5
 clear hr0_5 hc0_5
 have HR0_6:=Aside0.mk hr0_6
 have HC0_6:=Aside0.mk hc0_6
 clear hr0_6 hc0_6
 have HR0_11:=Aside0.mk hr0_11
 have HC0_11:=Aside0.mk hc0_11
 clear hr0_11 hc0_11
 have HR0_12:=Aside0.mk hr0_12
 have HC0_12:=Aside0.mk hc0_12
 clear hr0_12 hc0_12
 have HO3:=Aside0.mk (show Kd.R (Kd.int .i64) 3 w w0.heap.size (fun k_=>(P3_ k_∨w.heap.size≤k_)) u9000_ l3 from Kd.R_mono ho3 (fun k_ hk=>(.inl hk)))
 have HK:=Aside0.mk (Kept.refl w (fun k_=>P3_ k_))
 have HW0:=Aside0.mk hB.size
 have HB:=Aside0.mk hB
 clear hB
 have H:((impl_copyPng.f a0_0 a0_1 a0_2 a0_3 a0_4 l0_5 l0_6 a0_7 a0_8 a0_9 a0_10 l0_11 l0_12).bind fun bt392=>(some (bt392.1,bt392.2.1,a2,a1,bt392.2.2.2.2.1,bt392.2.2.2.2.2.1,bt392.2.2.2.2.2.2.1,bt392.2.2.2.2.2.2.2.1,bt392.2.2.2.2.2.2.2.2.1,a1,a2,l3,bt392.2.2.2.2.2.2.2.2.2.2.2.2)))=some (r1,r2,r3,r4,r5,r6,r7,r8,r9,r10,r11,r12,r13):=h
 clear h
 replace H:=Option.bind_eq_some_iff.mp H
 obtain ⟨⟨t392,t393,t394,t395,t396,t397,t400,t403,t404,t405,t406,t407,t410⟩,A50,H⟩:=H
 replace H:(some (t392,t393,a2,a1,t396,t397,t400,t403,t404,a1,a2,l3,t410))=some (r1,r2,r3,r4,r5,r6,r7,r8,r9,r10,r11,r12,r13):=H
 have A5:=Aside0.mk A50
 clear A50
 simp only [Option.some.injEq,Prod.mk.injEq] at H
 obtain ⟨rfl,rfl,rfl,rfl,rfl,rfl,rfl,rfl,rfl,rfl,rfl,rfl,rfl⟩:=H
 go_enter Try.func69,Try.ntmps69
 go_upto_region 2 with (first|((with_reducible refine gate_dst (N:=4) rfl ?_);refine boxE 4 (#[.int .i64 a0_0,.int .i64 a0_1,.int .i64 a0_2,.int .i64 a0_3,.bool a0_4,.slice A0_5 l0_5.length c0_5,.slice A0_6 l0_6.length c0_6,.int .i64 a0_7,.int .i64 a0_8,.int .i64 a0_9,.int .i64 a0_10,.slice A0_11 l0_11.length c0_11,.slice A0_12 l0_12.length c0_12]) 37 ?_;intro gb390 hg w6 hbox hb;have n0_:=Aside0.mk (Kd.R_below (rS HO3) hb);have n1_:=Aside0.mk (Kept.below (S:=(fun k_=>P3_ k_)) (by repeat (first|(with_reducible first|exact HK.out|apply Kept.alloc|apply Kept.drewN|apply Kept.drew)|exact HK.out)) hb);have n2_:=Aside0.mk (below_step bH hb);have n3_:=Aside0.mk hbox;have n4_:=Aside0.mk ((by rw [hg];exact (by first|exact HK.out.1|exact (show Kept w _ (fun k_=>P3_ k_) from by repeat (first|(with_reducible first|exact HK.out|apply Kept.alloc|apply Kept.drewN|apply Kept.drew)|exact HK.out)).1):w.heap.size≤gb390));have n5_:=(gwH (w:=w0) hg);clear HO3;clear HK;clear HB;have HO3:=n0_;have HK:=n1_;have HB:=n2_;have BK390:=n3_;have GW390:=n4_;have GE390:=n5_;clear n0_ n1_ n2_ n3_ n4_ n5_;clear hb hbox hg)|((with_reducible refine gate_dst (N:=8) rfl ?_);refine boxE 8 (#[.int .i64 0,.int .i64 0,.int .i64 0,.int .i64 0,.bool false,.slice none 0 0,.slice none 0 0,.int .i64 0,.int .i64 0,.int .i64 0,.int .i64 0,.slice none 0 0,.slice none 0 0]) 37 ?_;intro gb391 hg w7 hbox hb;have n0_:=Aside0.mk (Kd.R_below (rS HO3) hb);have n1_:=Aside0.mk (bkb BK390 hb);have n2_:=Aside0.mk (Kept.below (S:=(fun k_=>P3_ k_)) (by repeat (first|(with_reducible first|exact HK.out|apply Kept.alloc|apply Kept.drewN|apply Kept.drew|refine Kept.setCell ?_ (.inr GW390.out) _)|exact HK.out)) hb);have n3_:=Aside0.mk (below_step bG hb);have n4_:=Aside0.mk hbox;have n5_:=Aside0.mk ((by rw [hg];exact (by first|exact HK.out.1|exact (show Kept w _ (fun k_=>P3_ k_) from by repeat (first|(with_reducible first|exact HK.out|apply Kept.alloc|apply Kept.drewN|apply Kept.drew|refine Kept.setCell ?_ (.inr GW390.out) _)|exact HK.out)).1):w.heap.size≤gb391));have n6_:=(gwG (w:=w0) hg);have n7_:=(nbl BK390 hg);have n8_:=(nbg BK390 hg);clear HO3;clear BK390;clear HK;clear HB;have HO3:=n0_;have BK390:=n1_;have HK:=n2_;have HB:=n3_;have BK391:=n4_;have GW391:=n5_;have GE391:=n6_;have NB390_391:=n7_;have NB391_390:=n8_;clear n0_ n1_ n2_ n3_ n4_ n5_ n6_ n7_ n8_;clear hb hbox hg;have hnb8:=NB390_391.out;have hnc8:=NB391_390.out;obtain ⟨z9_0,z9_1,z9_2,z9_3,z9_4,z9_5,z9_6,z9_7,z9_8,z9_9,z9_10,z9_11,z9_12,y9_0,y9_1,y9_2,y9_3,y9_4,y9_5,y9_6,y9_7,y9_8,y9_9,y9_10,y9_11,y9_12⟩:=blk13f BK390)|((with_reducible refine gate_callee (f:=76) rfl ?_);refine gL (some 11) Try.func76 #[.agg #[.int .i64 a0_0,.int .i64 a0_1,.int .i64 a0_2,.int .i64 a0_3,.bool a0_4,.slice A0_5 l0_5.length c0_5,.slice A0_6 l0_6.length c0_6,.int .i64 a0_7,.int .i64 a0_8,.int .i64 a0_9,.int .i64 a0_10,.slice A0_11 l0_11.length c0_11,.slice A0_12 l0_12.length c0_12]] ?_;(with_reducible refine (impl_copyPng.calls a0_0 a0_1 a0_2 a0_3 a0_4 _ _ l0_5 _ _ l0_6 a0_7 a0_8 a0_9 a0_10 _ _ l0_11 _ _ l0_12 t392 t393 t394 t395 t396 t397 t400 t403 t404 t405 t406 t407 t410 _ ?side1 HC0_5.out ?side3 HC0_6.out ?side5 HC0_11.out ?side7 HC0_12.out A5.out).mono ?_);(case side1=>exact Kd.C_kept_now HR0_5.out (by repeat (first|(with_reducible first|exact HK.out|apply Kept.alloc|apply Kept.drewN|apply Kept.drew|refine Kept.setCell ?_ (.inr GW390.out) _|refine Kept.setCell ?_ (.inr GW391.out) _)|exact HK.out)));(case side3=>exact Kd.C_kept_now HR0_6.out (by repeat (first|(with_reducible first|exact HK.out|apply Kept.alloc|apply Kept.drewN|apply Kept.drew|refine Kept.setCell ?_ (.inr GW390.out) _|refine Kept.setCell ?_ (.inr GW391.out) _)|exact HK.out)));(case side5=>exact Kd.C_kept_now HR0_11.out (by repeat (first|(with_reducible first|exact HK.out|apply Kept.alloc|apply Kept.drewN|apply Kept.drew|refine Kept.setCell ?_ (.inr GW390.out) _|refine Kept.setCell ?_ (.inr GW391.out) _)|exact HK.out)));(case side7=>exact Kd.C_kept_now HR0_12.out (by repeat (first|(with_reducible first|exact HK.out|apply Kept.alloc|apply Kept.drewN|apply Kept.drew|refine Kept.setCell ?_ (.inr GW390.out) _|refine Kept.setCell ?_ (.inr GW391.out) _)|exact HK.out)));rintro e w10 ⟨v398,v401,v408,v411,rfl,ho0,ho1,ho2,ho3,hb⟩;refine ⟨_,rfl,?_⟩;have n0_:=Aside0.mk (Kd.R_mono (Kd.R_told (Kd.R_told (Kd.R_old (rS HO3) hb) (Kd.R_base ho1)) (Kd.R_base ho2)) (fun _ h_=>h_.1));have n1_:=Aside0.mk (Kd.R_lower (Kd.R_newM (M:=fun k_=>(P3_ k_∨w.heap.size≤k_)) ho0 (by first|exact HK.out.1|exact (show Kept w _ (fun k_=>P3_ k_) from by repeat (first|(with_reducible first|exact HK.out|apply Kept.alloc|apply Kept.drewN|apply Kept.drew|refine Kept.setCell ?_ (.inr GW390.out) _|refine Kept.setCell ?_ (.inr GW391.out) _)|exact HK.out)).1) (fun k_ h_=>.inr h_)) (below_size bG));have n2_:=Aside0.mk (Kd.R_lower (Kd.R_new' (Kd.R_newM (M:=fun k_=>(P3_ k_∨w.heap.size≤k_)) ho1 (by first|exact HK.out.1|exact (show Kept w _ (fun k_=>P3_ k_) from by repeat (first|(with_reducible first|exact HK.out|apply Kept.alloc|apply Kept.drewN|apply Kept.drew|refine Kept.setCell ?_ (.inr GW390.out) _|refine Kept.setCell ?_ (.inr GW391.out) _)|exact HK.out)).1) (fun k_ h_=>.inr h_)) (Kd.R_lt (rS HO3))) (below_size bG));have n3_:=Aside0.mk (Kd.R_lower (Kd.R_new' (Kd.R_newM (M:=fun k_=>(P3_ k_∨w.heap.size≤k_)) ho2 (by first|exact HK.out.1|exact (show Kept w _ (fun k_=>P3_ k_) from by repeat (first|(with_reducible first|exact HK.out|apply Kept.alloc|apply Kept.drewN|apply Kept.drew|refine Kept.setCell ?_ (.inr GW390.out) _|refine Kept.setCell ?_ (.inr GW391.out) _)|exact HK.out)).1) (fun k_ h_=>.inr h_)) (Kd.R_lt (rS HO3))) (below_size bG));have n4_:=Aside0.mk (Kd.R_lower (Kd.R_newM (M:=fun k_=>(P3_ k_∨w.heap.size≤k_)) ho3 (by first|exact HK.out.1|exact (show Kept w _ (fun k_=>P3_ k_) from by repeat (first|(with_reducible first|exact HK.out|apply Kept.alloc|apply Kept.drewN|apply Kept.drew|refine Kept.setCell ?_ (.inr GW390.out) _|refine Kept.setCell ?_ (.inr GW391.out) _)|exact HK.out)).1) (fun k_ h_=>.inr h_)) (below_size bG));have n5_:=Aside0.mk (bkb BK390 hb);have n6_:=Aside0.mk (bkb BK391 hb);have n7_:=Aside0.mk (Kept.below (S:=(fun k_=>P3_ k_)) (by repeat (first|(with_reducible first|exact HK.out|apply Kept.alloc|apply Kept.drewN|apply Kept.drew|refine Kept.setCell ?_ (.inr GW390.out) _|refine Kept.setCell ?_ (.inr GW391.out) _)|exact HK.out)) hb);have n8_:=Aside0.mk (below_step bG hb);clear HO3;clear BK390;clear BK391;clear HK;clear HB;have HO3:=n0_;have HO399:=n1_;have HO402:=n2_;have HO409:=n3_;have HO412:=n4_;have BK390:=n5_;have BK391:=n6_;have HK:=n7_;have HB:=n8_;clear n0_ n1_ n2_ n3_ n4_ n5_ n6_ n7_ n8_;(try clear hb);(try clear ho0);(try clear ho1);(try clear ho2);(try clear ho3))|((with_reducible refine gate_dst (N:=9) rfl ?_);refine boxE 9 (#[.int .i64 0,.int .i64 0,.int .i64 0,.int .i64 0,.bool false,.slice none 0 0,.slice none 0 0,.int .i64 0,.int .i64 0,.int .i64 0,.int .i64 0,.slice none 0 0,.slice none 0 0]) 37 ?_;intro gb413 hg w11 hbox hb;have n0_:=Aside0.mk (Kd.R_below (rS HO3) hb);have n1_:=Aside0.mk (Kd.R_below (rS HO399) hb);have n2_:=Aside0.mk (Kd.R_below (rS HO402) hb);have n3_:=Aside0.mk (Kd.R_below (rS HO409) hb);have n4_:=Aside0.mk (Kd.R_below (rS HO412) hb);have n5_:=Aside0.mk (bkb BK390 hb);have n6_:=Aside0.mk (bkb BK391 hb);have n7_:=Aside0.mk (Kept.below (S:=(fun k_=>P3_ k_)) (by repeat (first|(with_reducible first|exact HK.out|apply Kept.alloc|apply Kept.drewN|apply Kept.drew|refine Kept.setCell ?_ (.inr GW390.out) _|refine Kept.setCell ?_ (.inr GW391.out) _)|exact HK.out)) hb);have n8_:=Aside0.mk (below_step bG hb);have n9_:=Aside0.mk hbox;have n10_:=Aside0.mk ((by rw [hg];exact (by first|exact HK.out.1|exact (show Kept w _ (fun k_=>P3_ k_) from by repeat (first|(with_reducible first|exact HK.out|apply Kept.alloc|apply Kept.drewN|apply Kept.drew|refine Kept.setCell ?_ (.inr GW390.out) _|refine Kept.setCell ?_ (.inr GW391.out) _)|exact HK.out)).1):w.heap.size≤gb413));have n11_:=(gwG (w:=w0) hg);have n12_:=(nbl BK390 hg);have n13_:=(nbg BK390 hg);have n14_:=(nbl BK391 hg);have n15_:=(nbg BK391 hg);clear HO3;clear HO399;clear HO402;clear HO409;clear HO412;clear BK390;clear BK391;clear HK;clear HB;have HO3:=n0_;have HO399:=n1_;have HO402:=n2_;have HO409:=n3_;have HO412:=n4_;have BK390:=n5_;have BK391:=n6_;have HK:=n7_;have HB:=n8_;have BK413:=n9_;have GW413:=n10_;have GE413:=n11_;have NB390_413:=n12_;have NB413_390:=n13_;have NB391_413:=n14_;have NB413_391:=n15_;clear n0_ n1_ n2_ n3_ n4_ n5_ n6_ n7_ n8_ n9_ n10_ n11_ n12_ n13_ n14_ n15_;clear hb hbox hg;have hnb12:=NB413_390.out;have hnc12:=NB390_413.out;have hnb13:=NB413_391.out;have hnc13:=NB391_413.out;obtain ⟨z14_0,z14_1,z14_2,z14_3,z14_4,z14_5,z14_6,z14_7,z14_8,z14_9,z14_10,z14_11,z14_12,y14_0,y14_1,y14_2,y14_3,y14_4,y14_5,y14_6,y14_7,y14_8,y14_9,y14_10,y14_11,y14_12⟩:=blk13f BK413;obtain ⟨Ao15,co15,eo15⟩:=Kd.R_slice HO399.out;subst eo15;obtain ⟨Ao16,co16,eo16⟩:=Kd.R_slice HO402.out;subst eo16;obtain ⟨Ao17,co17,eo17⟩:=Kd.R_slice HO409.out;subst eo17;obtain ⟨Ao18,co18,eo18⟩:=Kd.R_slice HO412.out;subst eo18;obtain ⟨Ao19,co19,eo19⟩:=Kd.R_slice HO3.out;subst eo19;obtain ⟨z20_0,z20_1,z20_2,z20_3,z20_4,z20_5,z20_6,z20_7,z20_8,z20_9,z20_10,z20_11,z20_12,y20_0,y20_1,y20_2,y20_3,y20_4,y20_5,y20_6,y20_7,y20_8,y20_9,y20_10,y20_11,y20_12⟩:=blk13f BK391))
 refine reletC (fun w2=>w2.heap[gb413]?=some (.cells #[.int .i64 t392,.int .i64 t393,.int .i64 t394,.int .i64 t395,.bool t396,.slice Ao15 t397.length co15,.slice Ao16 t400.length co16,.int .i64 t403,.int .i64 t404,.int .i64 t405,.int .i64 t406,.slice Ao17 t407.length co17,.slice Ao18 t410.length co18] 37 (0,0))∧(∀ k,k≠gb413→w2.heap[k]?=w11.heap[k]?)∧Below w0.heap.size w0 w2∧Kept w w2 (fun k_=>P3_ k_)) ⟨by refine bP (cs:=?_) ?_ 12 ?_;rotate_left;refine bP (cs:=?_) ?_ 11 ?_;rotate_left;refine bP (cs:=?_) ?_ 10 ?_;rotate_left;refine bP (cs:=?_) ?_ 9 ?_;rotate_left;refine bP (cs:=?_) ?_ 8 ?_;rotate_left;refine bP (cs:=?_) ?_ 7 ?_;rotate_left;refine bP (cs:=?_) ?_ 6 ?_;rotate_left;refine bP (cs:=?_) ?_ 5 ?_;rotate_left;refine bP (cs:=?_) ?_ 4 ?_;rotate_left;refine bP (cs:=?_) ?_ 3 ?_;rotate_left;refine bP (cs:=?_) ?_ 2 ?_;rotate_left;refine bP (cs:=?_) ?_ 1 ?_;rotate_left;refine bP (cs:=?_) ?_ 0 ?_;rotate_left;exact BK413.out;all_goals ((try simp only [sA,sZ,sC]);first|done|rfl),by ((with_reducible repeat (refine farS ?_));intro k hk;with_reducible exact Eq.refl _),bG,by repeat (with_reducible first|exact HK.out|refine Kept.setCell ?_ (.inr GW413.out) _)⟩ ?_
 rintro w90 ⟨b1,hs,hb,hk⟩
 replace HO399:=rowStay HO399 BK413 (by decide) hs
 replace HO402:=rowStay HO402 BK413 (by decide) hs
 replace HO409:=rowStay HO409 BK413 (by decide) hs
 replace HO412:=rowStay HO412 BK413 (by decide) hs
 replace HO3:=rowStay HO3 BK413 (by decide) hs
 replace BK391:=Aside0.mk ((hs gb391 NB391_413.out).trans BK391.out)
 replace BK413:=Aside0.mk b1
 replace HB:=Aside0.mk hb
 replace HK:=Aside0.mk hk
 clear b1 hs hb hk
 try clear z9_0
 try clear z9_1
 try clear z9_2
 try clear z9_3
 try clear z9_4
 try clear z9_5
 try clear z9_6
 try clear z9_7
 try clear z9_8
 try clear z9_9
 try clear z9_10
 try clear z9_11
 try clear z9_12
 try clear y9_0
 try clear y9_1
 try clear y9_2
 try clear y9_3
 try clear y9_4
 try clear y9_5
 try clear y9_6
 try clear y9_7
 try clear y9_8
 try clear y9_9
 try clear y9_10
 try clear y9_11
 try clear y9_12
 try clear z14_0
 try clear z14_1
 try clear z14_2
 try clear z14_3
 try clear z14_4
 try clear z14_5
 try clear z14_6
 try clear z14_7
 try clear z14_8
 try clear z14_9
 try clear z14_10
 try clear z14_11
 try clear z14_12
 try clear y14_0
 try clear y14_1
 try clear y14_2
 try clear y14_3
 try clear y14_4
 try clear y14_5
 try clear y14_6
 try clear y14_7
 try clear y14_8
 try clear y14_9
 try clear y14_10
 try clear y14_11
 try clear y14_12
 try clear z20_0
 try clear z20_1
 try clear z20_2
 try clear z20_3
 try clear z20_4
 try clear z20_5
 try clear z20_6
 try clear z20_7
 try clear z20_8
 try clear z20_9
 try clear z20_10
 try clear z20_11
 try clear z20_12
 try clear y20_0
 try clear y20_1
 try clear y20_2
 try clear y20_3
 try clear y20_4
 try clear y20_5
 try clear y20_6
 try clear y20_7
 try clear y20_8
 try clear y20_9
 try clear y20_10
 try clear y20_11
 try clear y20_12
 obtain ⟨x0,x1,x2,x3,x4,x5,x6,x7,x8,x9,x10,x11,x12,y0,y1,y2,y3,y4,y5,y6,y7,y8,y9,y10,y11,y12⟩:=blk13f BK413
 go_upto_region 4 with (fail)
 refine reletC (fun w2=>w2.heap[gb413]?=some (.cells #[.int .i64 t392,.int .i64 t393,.int .i64 a2,.int .i64 a1,.bool t396,.slice Ao15 t397.length co15,.slice Ao16 t400.length co16,.int .i64 t403,.int .i64 t404,.int .i64 a1,.int .i64 a2,.slice Ao19 l3.length co19,.slice Ao18 t410.length co18] 37 (0,0))∧(∀ k,k≠gb413→w2.heap[k]?=w90.heap[k]?)∧Below w0.heap.size w0 w2∧Kept w w2 (fun k_=>P3_ k_)) ⟨by refine bP (cs:=?_) ?_ 11 ?_;rotate_left;refine bP (cs:=?_) ?_ 10 ?_;rotate_left;refine bP (cs:=?_) ?_ 9 ?_;rotate_left;refine bP (cs:=?_) ?_ 2 ?_;rotate_left;refine bP (cs:=?_) ?_ 3 ?_;rotate_left;exact BK413.out;all_goals ((try simp only [sA,sZ,sC]);first|done|rfl),by ((with_reducible repeat (refine farS ?_));intro k hk;with_reducible exact Eq.refl _),bG,by repeat (with_reducible first|exact HK.out|refine Kept.setCell ?_ (.inr GW413.out) _)⟩ ?_
 rintro w91 ⟨b1,hs,hb,hk⟩
 replace HO399:=rowStay HO399 BK413 (by decide) hs
 replace HO402:=rowStay HO402 BK413 (by decide) hs
 replace HO409:=rowStay HO409 BK413 (by decide) hs
 replace HO412:=rowStay HO412 BK413 (by decide) hs
 replace HO3:=rowStay HO3 BK413 (by decide) hs
 replace BK391:=Aside0.mk ((hs gb391 NB391_413.out).trans BK391.out)
 replace BK413:=Aside0.mk b1
 replace HB:=Aside0.mk hb
 replace HK:=Aside0.mk hk
 clear b1 hs hb hk
 clear x0 y0 x1 y1 x2 y2 x3 y3 x4 y4 x5 y5 x6 y6 x7 y7 x8 y8 x9 y9 x10 y10 x11 y11 x12 y12
 obtain ⟨x0,x1,x2,x3,x4,x5,x6,x7,x8,x9,x10,x11,x12,y0,y1,y2,y3,y4,y5,y6,y7,y8,y9,y10,y11,y12⟩:=blk13f BK413
 obtain ⟨u0,u1,u2,u3,u4,u5,u6,u7,u8,u9,u10,u11,u12,v0,v1,v2,v3,v4,v5,v6,v7,v8,v9,v10,v11,v12⟩:=blk13f BK391
 go_wp2
 refine bodyPost_ret (results_cell_row rfl _ _ gb391 37 #[.int .i64 t392,.int .i64 t393,.int .i64 a2,.int .i64 a1,.bool t396,.slice Ao15 t397.length co15,.slice Ao16 t400.length co16,.int .i64 t403,.int .i64 t404,.int .i64 a1,.int .i64 a2,.slice Ao19 l3.length co19,.slice Ao18 t410.length co18] (0,0) _ rfl (by refine bP (cs:=?_) ?_ 12 ?_;rotate_left;refine bP (cs:=?_) ?_ 11 ?_;rotate_left;refine bP (cs:=?_) ?_ 10 ?_;rotate_left;refine bP (cs:=?_) ?_ 9 ?_;rotate_left;refine bP (cs:=?_) ?_ 8 ?_;rotate_left;refine bP (cs:=?_) ?_ 7 ?_;rotate_left;refine bP (cs:=?_) ?_ 6 ?_;rotate_left;refine bP (cs:=?_) ?_ 5 ?_;rotate_left;refine bP (cs:=?_) ?_ 4 ?_;rotate_left;refine bP (cs:=?_) ?_ 3 ?_;rotate_left;refine bP (cs:=?_) ?_ 2 ?_;rotate_left;refine bP (cs:=?_) ?_ 1 ?_;rotate_left;refine bP (cs:=?_) ?_ 0 ?_;rotate_left;exact BK391.out;all_goals ((try simp only [sA,sZ,sC]);first|done|rfl)) Try.underlying37 rfl (by kernel_rfl)) rfl ?_
 exact ⟨_,_,_,_,fE,Kd.R_mono (rowStay HO399 BK391 (by decide) (by ((with_reducible repeat (refine farS ?_));intro k hk;with_reducible exact Eq.refl _))).out (fun _ hk=>hk.1),Kd.R_mono (rowStay HO402 BK391 (by decide) (by ((with_reducible repeat (refine farS ?_));intro k hk;with_reducible exact Eq.refl _))).out (fun _ hk=>⟨hk.1.1,hk.2⟩),Kd.R_mono (rowStay HO3 BK391 (by decide) (by ((with_reducible repeat (refine farS ?_));intro k hk;with_reducible exact Eq.refl _))).out (fun _ hk=>⟨hk.1.1,hk.1.2⟩),Kd.R_mono (rowStay HO412 BK391 (by decide) (by ((with_reducible repeat (refine farS ?_));intro k hk;with_reducible exact Eq.refl _))).out (fun _ hk=>hk.1),bG,by repeat (with_reducible first|exact HK.out|refine Kept.setCell ?_ (.inr GW391.out) _)⟩
def impl_divided.l0:Nat→Int→List Int→List Int→Int→Int→Option (List Int×Bool)
 | 0,_,_,_,_,_=>none
 | k+1,x1,x6,x10,x11,x12=>if x12 < x11 then (if 0≤x12 then (if x12 < (x10.length:Int) then (if x1=0 then (none) else (if (Int.tmod (rd x10 x12) x1)=0 then (if x6.length < 17592186044416 then (impl_divided.l0 k x1 (x6++[wrap64 (Int.tdiv (rd x10 x12) x1)]) x10 x11 (wrap64 (x12+1))) else (none)) else (some (([]:List Int),false)))) else (none)) else (none)) else (some (x6,true))
def impl_divided.f (k:Nat) (l0:List Int) (a1:Int):Option (List Int×Bool):=impl_divided.l0 k a1 (([]:List Int)) l0 (l0.length:Int) 0
theorem impl_divided.mono_l:∀ k,(∀ y0 y1 y2 y3 y4,LeO (impl_divided.l0 k y0 y1 y2 y3 y4) (impl_divided.l0 (k+1) y0 y1 y2 y3 y4))
 | 0=>fun _ _ _ _ _ r h=>by simp [impl_divided.l0] at h
 | k+1=>by
  have ih0:=impl_divided.mono_l k
  ·intro y0 y1 y2 y3 y4
   unfold impl_divided.l0
   repeat' first
   | (with_reducible exact ih0 _ _ _ _ _)
   | (with_reducible exact LeO.refl _)
   | (with_reducible exact LeO.none _)
   | (with_reducible refine LeO.ite ?_ ?_)
   | (with_reducible refine LeO.bind ?_ (fun _=>?_))
   | exact ih0 _ _ _ _ _
   | exact LeO.none _
   | refine LeO.ite ?_ ?_
   | refine LeO.bind ?_ (fun _=>?_)
theorem impl_divided.mono:∀ a0 a1 k,LeO (impl_divided.f k a0 a1) (impl_divided.f (k+1) a0 a1):=by
 intro a0 a1 k
 have ih0:=impl_divided.mono_l k
 unfold impl_divided.f
 repeat' first
   | (with_reducible exact ih0 _ _ _ _ _)
   | (with_reducible exact LeO.refl _)
   | (with_reducible exact LeO.none _)
   | (with_reducible refine LeO.ite ?_ ?_)
   | (with_reducible refine LeO.bind ?_ (fun _=>?_))
   | exact ih0 _ _ _ _ _
   | exact LeO.none _
   | refine LeO.ite ?_ ?_
   | refine LeO.bind ?_ (fun _=>?_)
theorem impl_divided.calls (k:Nat) (A0:Option Addr) (c0:Nat) (l0:List Int) (a1:Int) (r1:List Int) (r2:Bool) (w:World) (hr0:Kd.C (Kd.int .i64) w A0 l0.length l0) (hc0:l0.length≤c0) (h:impl_divided.f k l0 a1=some (r1,r2)):
  Calls Try.prog 91 #[.slice A0 l0.length c0,.int .i64 a1] w fun e w'=>∃ v0_:Value,e=.returned (.tuple #[v0_,.bool r2])∧Kd.R (Kd.int .i64) 3 w' w.heap.size (fun _=>True) v0_ r1∧Below w.heap.size w w':=by
 have HR0:=Aside0.mk hr0
 have HC0:=Aside0.mk hc0
 clear hr0 hc0
 have HB:=Aside0.mk (Below.refl w.heap.size w)
 have H:(impl_divided.l0 k a1 (([]:List Int)) l0 (l0.length:Int) 0)=some (r1,r2):=h
 clear h
 obtain ⟨y414,hy414⟩:∃ y_:List Int,y_=(([]:List Int)):=⟨_,rfl⟩
 replace H:(impl_divided.l0 k a1 y414 l0 (l0.length:Int) 0)=some (r1,r2):=by first|(rw [hy414];with_reducible exact H)|(have H2_:=(Option.bind_some _ _).symm.trans H;rw [hy414];with_reducible exact H2_)|(have H2_:=(Option.bind_some _ _).symm.trans H;with_reducible exact H2_)|with_reducible exact H|(rw [hy414];exact H)|exact H
 have Ny414:=Aside0.mk hy414
 clear hy414
 have H':=Aside0.mk H
 clear H
 go_enter Try.func91,Try.ntmps91
 go_wp2_with (first|((with_reducible refine gate_dst (N:=9) rfl ?_);refine Kd.R_lit (Kd.int .i64) _ 3 ?hg (N:=9) ?hd (xs:=([]:List Int)) (inner:=[]) (ok:=fun _=>True) (okp:=fun _=>True) ?hr ?hp (fun _ hk=>hk) trivial (Below.refl _ _) (Nat.le_refl _) (by simp) ?_;(case hd=>rfl);(case hg=>rfl);(case hr=>first|(go_simp;done)|(go_simp;rfl));(case hp=>exact (Reps.none _ _));intro v415 w3 ho4 hb hg_ hnew_;clear hg_ hnew_;(first|rw [← Ny414.out] at ho4|(simp only [Int.reduceToNat] at ho4;rw [← Ny414.out] at ho4));have HO416:=Aside0.mk (Kd.R_lower ho4 (below_size bH));replace HB:=Aside0.mk (below_step bH hb);clear hb ho4))
 go_loopg [6,12] k (fun kq v6 v12 w'=>∃ (x6_1:List Int) (x12_1:Int),v12=.int .i64 x12_1∧Aside0 (impl_divided.l0 kq a1 x6_1 l0 (l0.length:Int) x12_1=some (r1,r2))∧Aside0 (kq≤k)∧Aside0 (Kd.R (Kd.int .i64) 3 w' w.heap.size (fun _=>True) v6 x6_1)∧Aside0 (Below w.heap.size w w'))
 case atStart=>exact ⟨(y414),(0),fS,H',⟨Nat.le_refl _⟩,⟨rS HO416⟩,⟨bH⟩⟩
 case round =>
  clear H'
  try clear p2
  obtain ⟨x6_1,x12_1,rfl,HA,HK1,HO_6,HB⟩:=hrel
  cases gk with
  | zero=>exact absurd HA.out (by simp [impl_divided.l0])
  | succ k1 =>
   have H:=HA.out
   clear HA
   simp only [impl_divided.l0] at H
   by_cases c5:x12_1 < (l0.length:Int)
   ·rw [if_pos c5] at H
    have c5b0:decide (x12_1 < (l0.length:Int))=true:=decide_eq_true c5
    clear c5
    by_cases c6:0≤x12_1
    ·rw [if_pos c6] at H
     have c6b0:decide (0≤x12_1)=true:=decide_eq_true c6
     clear c6
     by_cases c7:x12_1 < (l0.length:Int)
     ·rw [if_pos c7] at H
      have c7b0:decide (x12_1 < (l0.length:Int))=true:=decide_eq_true c7
      clear c7
      by_cases c8:a1=0
      ·rw [if_pos c8] at H
       exact absurd H (by simp)
      ·rw [if_neg c8] at H
       have c8b0:(a1 == 0)=false:=beq_eq_false_iff_ne.mpr c8
       have c8b1:(a1 != 0)=true:=bne_iff_ne.mpr c8
       by_cases c9:(Int.tmod (rd l0 x12_1) a1)=0
       ·rw [if_pos c9] at H
        have c9b0:((Int.tmod (rd l0 x12_1) a1) == 0)=true:=beq_iff_eq.mpr c9
        have c9b1:((Int.tmod (rd l0 x12_1) a1) != 0)=false:=bne_eq_false_iff_eq.mpr c9
        clear c9
        by_cases c10:x6_1.length < 17592186044416
        ·rw [if_pos c10] at H
         have LMc10:=Aside0.mk c10
         clear c10
         obtain ⟨y418,hy418⟩:∃ y_:List Int,y_=(x6_1++[wrap64 (Int.tdiv (rd l0 x12_1) a1)]):=⟨_,rfl⟩
         replace H:(impl_divided.l0 k1 a1 y418 l0 (l0.length:Int) (wrap64 (x12_1+1)))=some (r1,r2):=by first|(rw [hy418];with_reducible exact H)|(have H2_:=(Option.bind_some _ _).symm.trans H;rw [hy418];with_reducible exact H2_)|(have H2_:=(Option.bind_some _ _).symm.trans H;with_reducible exact H2_)|with_reducible exact H|(rw [hy418];exact H)|exact H
         have Ny418:=Aside0.mk hy418
         clear hy418
         have H':=Aside0.mk H
         clear H
         have p417:0≤(x12_1:Int):=oD
         have q417:x12_1 < (l0.length:Int):=oD
         obtain ⟨ad417,e417,hx417_0⟩:=Kd.at_int HR0.out x12_1 p417 q417
         cases e417
         replace hx417_0:=(HB.out.cell (World.block_lt_of_cell? w _ hx417_0)).trans hx417_0
         replace p417:=eq_true p417
         replace q417:=eq_true q417
         go_wp2_with (first|((with_reducible refine gate_builtin (b:=.append) (xs:=#[.tmp 20,.tmp 24]) rfl ?_);at_builtin;refine Kd.R_append (Kd.int .i64) (w0:=w) w.heap.size rfl (.tmp 20) (.tmp 24) 25 3 (.int .i64 0) 8 rfl Try.underlying25 info3 rfl (by decide) (by omega) u6 x6_1 (wrap64 (Int.tdiv (rd l0 x12_1) a1)) [.int .i64 (wrap64 (Int.tdiv (rd l0 x12_1) a1))] (fun _=>True) (fun _=>False) rfl rfl ?aP (fun _ hk=>hk.elim) ?aF ?aO ?aB ?aS ?aL ?_;(case aP=>exact rfl);(case aB=>exact bH);(case aF=>exact (fun _ _=>trivial));(case aO=>exact (rS HO_6));(case aS=>exact (below_size bH));(case aL=>have:=LMc10.out;omega);intro v419 w11 ho hb hg hat;rw [← Ny418.out] at ho;have HO420:=Aside0.mk ho;replace HB:=Aside0.mk hb;clear HO_6;clear ho hb hg hat))
         go_roundg k1
         case measure=>have:=HK1.out;omega
         case rel=>exact ⟨(y418),(wrap64 (x12_1+1)),fS,H',⟨by have:=HK1.out;omega⟩,⟨rS HO420⟩,⟨bH⟩⟩
        ·rw [if_neg c10] at H
         exact absurd H (by simp)
       ·rw [if_neg c9] at H
        have c9b0:((Int.tmod (rd l0 x12_1) a1) == 0)=false:=beq_eq_false_iff_ne.mpr c9
        have c9b1:((Int.tmod (rd l0 x12_1) a1) != 0)=true:=bne_iff_ne.mpr c9
        simp only [Option.some.injEq,Prod.mk.injEq] at H
        obtain ⟨rfl,rfl⟩:=H
        have p417:0≤(x12_1:Int):=oD
        have q417:x12_1 < (l0.length:Int):=oD
        obtain ⟨ad417,e417,hx417_0⟩:=Kd.at_int HR0.out x12_1 p417 q417
        cases e417
        replace hx417_0:=(HB.out.cell (World.block_lt_of_cell? w _ hx417_0)).trans hx417_0
        replace p417:=eq_true p417
        replace q417:=eq_true q417
        go_wp2
        go_ret2
        exact ⟨_,fE,by first|exact Kd.R_nil _ _ _ _ _|exact Kd.N_nil _ _ _ _ _|exact Kd.V_nil _ _ _ _ _|exact Kd.Q_nil _ _ _ _ _|exact Kd.S_nil _ _ _ _ _,bH⟩
     ·rw [if_neg c7] at H
      exact absurd H (by simp)
    ·rw [if_neg c6] at H
     exact absurd H (by simp)
   ·rw [if_neg c5] at H
    have c5b0:decide (x12_1 < (l0.length:Int))=false:=decide_eq_false c5
    clear c5
    simp only [Option.some.injEq,Prod.mk.injEq] at H
    obtain ⟨rfl,rfl⟩:=H
    go_wp2
    go_ret2
    exact ⟨_,fE,rS HO_6,bH⟩
def impl_shallower.f (k:Nat) (a0_0:Int) (a0_1:Int) (a0_2:Int) (a0_3:Int) (a0_4:Bool) (l0_5:List (S95)) (l0_6:List Int) (a0_7:Int) (a0_8:Int) (a0_9:Int) (a0_10:Int) (l0_11:List Int) (l0_12:List (S83)) (a1:Int) (a2:Int):Option (Int×Int×Int×Int×Bool×(List (S95))×List Int×Int×Int×Int×Int×List Int×(List (S83))×Bool):=(impl_divided.f k l0_11 a2).bind fun bt423=>((impl_divided.f k l0_6 a2).bind fun bt427=>(if bt423.2=true then (if bt427.2=true then ((impl_turned.f a0_0 a0_1 a0_2 a0_3 a0_4 l0_5 l0_6 a0_7 a0_8 a0_9 a0_10 l0_11 l0_12 a0_3 a1 bt423.1).bind fun bt431=>(some (bt431.1,bt431.2.1,bt431.2.2.1,bt431.2.2.2.1,bt431.2.2.2.2.1,bt431.2.2.2.2.2.1,bt427.1,bt431.2.2.2.2.2.2.2.1,bt431.2.2.2.2.2.2.2.2.1,bt431.2.2.2.2.2.2.2.2.2.1,bt431.2.2.2.2.2.2.2.2.2.2.1,bt431.2.2.2.2.2.2.2.2.2.2.2.1,bt431.2.2.2.2.2.2.2.2.2.2.2.2,true))) else (some (0,0,0,0,false,([]:List (S95)),([]:List Int),0,0,0,0,([]:List Int),([]:List (S83)),false))) else (some (0,0,0,0,false,([]:List (S95)),([]:List Int),0,0,0,0,([]:List Int),([]:List (S83)),false))))
theorem impl_shallower.mono:∀ a0 a1 a2 a3 a4 a5 a6 a7 a8 a9 a10 a11 a12 a13 a14 k,LeO (impl_shallower.f k a0 a1 a2 a3 a4 a5 a6 a7 a8 a9 a10 a11 a12 a13 a14) (impl_shallower.f (k+1) a0 a1 a2 a3 a4 a5 a6 a7 a8 a9 a10 a11 a12 a13 a14):=by
 intro a0 a1 a2 a3 a4 a5 a6 a7 a8 a9 a10 a11 a12 a13 a14 k
 unfold impl_shallower.f
 repeat' first
   | (with_reducible exact impl_divided.mono _ _ _)
   | (with_reducible exact LeO.refl _)
   | (with_reducible exact LeO.none _)
   | (with_reducible refine LeO.ite ?_ ?_)
   | (with_reducible refine LeO.bind ?_ (fun _=>?_))
   | exact impl_divided.mono _ _ _
   | exact LeO.none _
   | refine LeO.ite ?_ ?_
   | refine LeO.bind ?_ (fun _=>?_)
theorem impl_shallower.calls (k:Nat) (a0_0:Int) (a0_1:Int) (a0_2:Int) (a0_3:Int) (a0_4:Bool) (A0_5:Option Addr) (c0_5:Nat) (l0_5:List (S95)) (A0_6:Option Addr) (c0_6:Nat) (l0_6:List Int) (a0_7:Int) (a0_8:Int) (a0_9:Int) (a0_10:Int) (A0_11:Option Addr) (c0_11:Nat) (l0_11:List Int) (A0_12:Option Addr) (c0_12:Nat) (l0_12:List (S83)) (a1:Int) (a2:Int) (r1:Int) (r2:Int) (r3:Int) (r4:Int) (r5:Bool) (r6:List (S95)) (r7:List Int) (r8:Int) (r9:Int) (r10:Int) (r11:Int) (r12:List Int) (r13:List (S83)) (r14:Bool) (w:World) (hr0_5:Kd.C k95 w A0_5 l0_5.length l0_5) (hc0_5:l0_5.length≤c0_5) (hr0_6:Kd.C (Kd.int .i64) w A0_6 l0_6.length l0_6) (hc0_6:l0_6.length≤c0_6) (hr0_11:Kd.C (Kd.int .i64) w A0_11 l0_11.length l0_11) (hc0_11:l0_11.length≤c0_11) (hr0_12:Kd.C k83 w A0_12 l0_12.length l0_12) (hc0_12:l0_12.length≤c0_12) (h:impl_shallower.f k a0_0 a0_1 a0_2 a0_3 a0_4 l0_5 l0_6 a0_7 a0_8 a0_9 a0_10 l0_11 l0_12 a1 a2=some (r1,r2,r3,r4,r5,r6,r7,r8,r9,r10,r11,r12,r13,r14)):
  Calls Try.prog 46 #[.agg #[.int .i64 a0_0,.int .i64 a0_1,.int .i64 a0_2,.int .i64 a0_3,.bool a0_4,.slice A0_5 l0_5.length c0_5,.slice A0_6 l0_6.length c0_6,.int .i64 a0_7,.int .i64 a0_8,.int .i64 a0_9,.int .i64 a0_10,.slice A0_11 l0_11.length c0_11,.slice A0_12 l0_12.length c0_12],.int .i64 a1,.int .i64 a2] w fun e w'=>∃ v5_ v6_ v11_ v12_:Value,e=.returned (.tuple #[.agg #[.int .i64 r1,.int .i64 r2,.int .i64 r3,.int .i64 r4,.bool r5,v5_,v6_,.int .i64 r8,.int .i64 r9,.int .i64 r10,.int .i64 r11,v11_,v12_],.bool r14])∧Kd.R k95 95 w' w.heap.size (fun _=>True) v5_ r6∧Kd.R (Kd.int .i64) 3 w' w.heap.size (fun k_=>some k_≠(v11_:Value).ownBlock) v6_ r7∧Kd.R (Kd.int .i64) 3 w' w.heap.size (fun k_=>some k_≠(v6_:Value).ownBlock) v11_ r12∧Kd.R k83 83 w' w.heap.size (fun _=>True) v12_ r13∧Below w.heap.size w w':=by
 have hu37:=Try.underlying37
 have HR0_5:=Aside0.mk hr0_5
 have HC0_5:=Aside0.mk hc0_5
 clear hr0_5 hc0_5
 have HR0_6:=Aside0.mk hr0_6
 have HC0_6:=Aside0.mk hc0_6
 clear hr0_6 hc0_6
 have HR0_11:=Aside0.mk hr0_11
 have HC0_11:=Aside0.mk hc0_11
 clear hr0_11 hc0_11
 have HR0_12:=Aside0.mk hr0_12
 have HC0_12:=Aside0.mk hc0_12
 clear hr0_12 hc0_12
 have HB:=Aside0.mk (Below.refl w.heap.size w)
 have H:((impl_divided.f k l0_11 a2).bind fun bt423=>((impl_divided.f k l0_6 a2).bind fun bt427=>(if bt423.2=true then (if bt427.2=true then ((impl_turned.f a0_0 a0_1 a0_2 a0_3 a0_4 l0_5 l0_6 a0_7 a0_8 a0_9 a0_10 l0_11 l0_12 a0_3 a1 bt423.1).bind fun bt431=>(some (bt431.1,bt431.2.1,bt431.2.2.1,bt431.2.2.2.1,bt431.2.2.2.2.1,bt431.2.2.2.2.2.1,bt427.1,bt431.2.2.2.2.2.2.2.1,bt431.2.2.2.2.2.2.2.2.1,bt431.2.2.2.2.2.2.2.2.2.1,bt431.2.2.2.2.2.2.2.2.2.2.1,bt431.2.2.2.2.2.2.2.2.2.2.2.1,bt431.2.2.2.2.2.2.2.2.2.2.2.2,true))) else (some (0,0,0,0,false,([]:List (S95)),([]:List Int),0,0,0,0,([]:List Int),([]:List (S83)),false))) else (some (0,0,0,0,false,([]:List (S95)),([]:List Int),0,0,0,0,([]:List Int),([]:List (S83)),false)))))=some (r1,r2,r3,r4,r5,r6,r7,r8,r9,r10,r11,r12,r13,r14):=h
 clear h
 replace H:=Option.bind_eq_some_iff.mp H
 obtain ⟨⟨t423,t424⟩,A40,H⟩:=H
 replace H:((impl_divided.f k l0_6 a2).bind fun bt427=>(if t424=true then (if bt427.2=true then ((impl_turned.f a0_0 a0_1 a0_2 a0_3 a0_4 l0_5 l0_6 a0_7 a0_8 a0_9 a0_10 l0_11 l0_12 a0_3 a1 t423).bind fun bt431=>(some (bt431.1,bt431.2.1,bt431.2.2.1,bt431.2.2.2.1,bt431.2.2.2.2.1,bt431.2.2.2.2.2.1,bt427.1,bt431.2.2.2.2.2.2.2.1,bt431.2.2.2.2.2.2.2.2.1,bt431.2.2.2.2.2.2.2.2.2.1,bt431.2.2.2.2.2.2.2.2.2.2.1,bt431.2.2.2.2.2.2.2.2.2.2.2.1,bt431.2.2.2.2.2.2.2.2.2.2.2.2,true))) else (some (0,0,0,0,false,([]:List (S95)),([]:List Int),0,0,0,0,([]:List Int),([]:List (S83)),false))) else (some (0,0,0,0,false,([]:List (S95)),([]:List Int),0,0,0,0,([]:List Int),([]:List (S83)),false))))=some (r1,r2,r3,r4,r5,r6,r7,r8,r9,r10,r11,r12,r13,r14):=H
 have A4:=Aside0.mk A40
 clear A40
 replace H:=Option.bind_eq_some_iff.mp H
 obtain ⟨⟨t427,t428⟩,A50,H⟩:=H
 replace H:(if t424=true then (if t428=true then ((impl_turned.f a0_0 a0_1 a0_2 a0_3 a0_4 l0_5 l0_6 a0_7 a0_8 a0_9 a0_10 l0_11 l0_12 a0_3 a1 t423).bind fun bt431=>(some (bt431.1,bt431.2.1,bt431.2.2.1,bt431.2.2.2.1,bt431.2.2.2.2.1,bt431.2.2.2.2.2.1,t427,bt431.2.2.2.2.2.2.2.1,bt431.2.2.2.2.2.2.2.2.1,bt431.2.2.2.2.2.2.2.2.2.1,bt431.2.2.2.2.2.2.2.2.2.2.1,bt431.2.2.2.2.2.2.2.2.2.2.2.1,bt431.2.2.2.2.2.2.2.2.2.2.2.2,true))) else (some (0,0,0,0,false,([]:List (S95)),([]:List Int),0,0,0,0,([]:List Int),([]:List (S83)),false))) else (some (0,0,0,0,false,([]:List (S95)),([]:List Int),0,0,0,0,([]:List Int),([]:List (S83)),false)))=some (r1,r2,r3,r4,r5,r6,r7,r8,r9,r10,r11,r12,r13,r14):=H
 have A5:=Aside0.mk A50
 clear A50
 by_cases c6:t424=true
 ·subst c6
  have H1:(if t428=true then ((impl_turned.f a0_0 a0_1 a0_2 a0_3 a0_4 l0_5 l0_6 a0_7 a0_8 a0_9 a0_10 l0_11 l0_12 a0_3 a1 t423).bind fun bt431=>(some (bt431.1,bt431.2.1,bt431.2.2.1,bt431.2.2.2.1,bt431.2.2.2.2.1,bt431.2.2.2.2.2.1,t427,bt431.2.2.2.2.2.2.2.1,bt431.2.2.2.2.2.2.2.2.1,bt431.2.2.2.2.2.2.2.2.2.1,bt431.2.2.2.2.2.2.2.2.2.2.1,bt431.2.2.2.2.2.2.2.2.2.2.2.1,bt431.2.2.2.2.2.2.2.2.2.2.2.2,true))) else (some (0,0,0,0,false,([]:List (S95)),([]:List Int),0,0,0,0,([]:List Int),([]:List (S83)),false)))=some (r1,r2,r3,r4,r5,r6,r7,r8,r9,r10,r11,r12,r13,r14):=by rw [if_pos rfl] at H;exact H
  clear H
  have H:=H1
  clear H1
  by_cases c7:t428=true
  ·subst c7
   have H1:((impl_turned.f a0_0 a0_1 a0_2 a0_3 a0_4 l0_5 l0_6 a0_7 a0_8 a0_9 a0_10 l0_11 l0_12 a0_3 a1 t423).bind fun bt431=>(some (bt431.1,bt431.2.1,bt431.2.2.1,bt431.2.2.2.1,bt431.2.2.2.2.1,bt431.2.2.2.2.2.1,t427,bt431.2.2.2.2.2.2.2.1,bt431.2.2.2.2.2.2.2.2.1,bt431.2.2.2.2.2.2.2.2.2.1,bt431.2.2.2.2.2.2.2.2.2.2.1,bt431.2.2.2.2.2.2.2.2.2.2.2.1,bt431.2.2.2.2.2.2.2.2.2.2.2.2,true)))=some (r1,r2,r3,r4,r5,r6,r7,r8,r9,r10,r11,r12,r13,r14):=by rw [if_pos rfl] at H;exact H
   clear H
   have H:=H1
   clear H1
   replace H:=Option.bind_eq_some_iff.mp H
   obtain ⟨⟨t431,t432,t433,t434,t435,t436,t439,t442,t443,t444,t445,t446,t449⟩,A80,H⟩:=H
   replace H:(some (t431,t432,t433,t434,t435,t436,t427,t442,t443,t444,t445,t446,t449,true))=some (r1,r2,r3,r4,r5,r6,r7,r8,r9,r10,r11,r12,r13,r14):=H
   have A8:=Aside0.mk A80
   clear A80
   simp only [Option.some.injEq,Prod.mk.injEq] at H
   obtain ⟨rfl,rfl,rfl,rfl,rfl,rfl,rfl,rfl,rfl,rfl,rfl,rfl,rfl,rfl⟩:=H
   go_enter Try.func46,Try.ntmps46
   go_upto_region 6 with (first|((with_reducible refine gate_dst (N:=3) rfl ?_);refine boxE 3 (#[.int .i64 a0_0,.int .i64 a0_1,.int .i64 a0_2,.int .i64 a0_3,.bool a0_4,.slice A0_5 l0_5.length c0_5,.slice A0_6 l0_6.length c0_6,.int .i64 a0_7,.int .i64 a0_8,.int .i64 a0_9,.int .i64 a0_10,.slice A0_11 l0_11.length c0_11,.slice A0_12 l0_12.length c0_12]) 37 ?_;intro gb421 hg w9 hbox hb;have BK421:=Aside0.mk hbox;have GW421:=(gwH (w:=w) hg);have GE421:=(gwH (w:=w) hg);replace HB:=Aside0.mk (below_step bH hb);clear hb hbox hg)|((with_reducible refine gate_dst (N:=6) rfl ?_);refine boxE 6 (#[.int .i64 0,.int .i64 0,.int .i64 0,.int .i64 0,.bool false,.slice none 0 0,.slice none 0 0,.int .i64 0,.int .i64 0,.int .i64 0,.int .i64 0,.slice none 0 0,.slice none 0 0]) 37 ?_;intro gb422 hg w10 hbox hb;have n0_:=Aside0.mk (bkb BK421 hb);have n1_:=Aside0.mk (below_step bG hb);have n2_:=Aside0.mk hbox;have n3_:=(gwG (w:=w) hg);have n4_:=(gwG (w:=w) hg);have n5_:=(nbl BK421 hg);have n6_:=(nbg BK421 hg);clear BK421;clear HB;have BK421:=n0_;have HB:=n1_;have BK422:=n2_;have GW422:=n3_;have GE422:=n4_;have NB421_422:=n5_;have NB422_421:=n6_;clear n0_ n1_ n2_ n3_ n4_ n5_ n6_;clear hb hbox hg;have hnb11:=NB421_422.out;have hnc11:=NB422_421.out;obtain ⟨z12_0,z12_1,z12_2,z12_3,z12_4,z12_5,z12_6,z12_7,z12_8,z12_9,z12_10,z12_11,z12_12,y12_0,y12_1,y12_2,y12_3,y12_4,y12_5,y12_6,y12_7,y12_8,y12_9,y12_10,y12_11,y12_12⟩:=blk13f BK421)|((with_reducible refine gate_callee (f:=91) rfl ?_);refine gL (some 18) Try.func91 #[.slice A0_11 l0_11.length c0_11,.int .i64 a2] ?_;(with_reducible refine (impl_divided.calls k _ _ l0_11 a2 t423 true _ (cB HR0_11) HC0_11.out A4.out).mono ?_);rintro e w13 ⟨v425,rfl,ho0,hb⟩;refine ⟨_,rfl,?_⟩;have HO426:=Aside0.mk (Kd.R_lower ho0 (below_size bG));replace BK421:=Aside0.mk (bkb BK421 hb);replace BK422:=Aside0.mk (bkb BK422 hb);replace HB:=Aside0.mk (below_step bG hb);(try clear hb);(try clear ho0);obtain ⟨z14_0,z14_1,z14_2,z14_3,z14_4,z14_5,z14_6,z14_7,z14_8,z14_9,z14_10,z14_11,z14_12,y14_0,y14_1,y14_2,y14_3,y14_4,y14_5,y14_6,y14_7,y14_8,y14_9,y14_10,y14_11,y14_12⟩:=blk13f BK421)|((with_reducible refine gate_callee (f:=91) rfl ?_);refine gL (some 25) Try.func91 #[.slice A0_6 l0_6.length c0_6,.int .i64 a2] ?_;(with_reducible refine (impl_divided.calls k _ _ l0_6 a2 t427 true _ (cB HR0_6) HC0_6.out A5.out).mono ?_);rintro e w15 ⟨v429,rfl,ho0,hb⟩;refine ⟨_,rfl,?_⟩;have n0_:=Aside0.mk (Kd.R_elder' (rS HO426) (Kd.R_base ho0) hb);have n1_:=Aside0.mk (Kd.R_lower (Kd.R_new' ho0 (Kd.R_lt (rS HO426))) (below_size bG));have n2_:=Aside0.mk (bkb BK421 hb);have n3_:=Aside0.mk (bkb BK422 hb);have n4_:=Aside0.mk (below_step bG hb);clear HO426;clear BK421;clear BK422;clear HB;have HO426:=n0_;have HO430:=n1_;have BK421:=n2_;have BK422:=n3_;have HB:=n4_;clear n0_ n1_ n2_ n3_ n4_;(try clear hb);(try clear ho0);obtain ⟨z16_0,z16_1,z16_2,z16_3,z16_4,z16_5,z16_6,z16_7,z16_8,z16_9,z16_10,z16_11,z16_12,y16_0,y16_1,y16_2,y16_3,y16_4,y16_5,y16_6,y16_7,y16_8,y16_9,y16_10,y16_11,y16_12⟩:=blk13f BK421;obtain ⟨Ao17,co17,eo17⟩:=Kd.R_slice HO426.out;subst eo17)|((with_reducible refine gate_callee (f:=69) rfl ?_);refine gL (some 41) Try.func69 #[.agg #[.int .i64 a0_0,.int .i64 a0_1,.int .i64 a0_2,.int .i64 a0_3,.bool a0_4,.slice A0_5 l0_5.length c0_5,.slice A0_6 l0_6.length c0_6,.int .i64 a0_7,.int .i64 a0_8,.int .i64 a0_9,.int .i64 a0_10,.slice A0_11 l0_11.length c0_11,.slice A0_12 l0_12.length c0_12],.int .i64 a0_3,.int .i64 a1,.slice Ao17 t423.length co17] ?_;(with_reducible refine (impl_turned.calls a0_0 a0_1 a0_2 a0_3 a0_4 _ _ l0_5 _ _ l0_6 a0_7 a0_8 a0_9 a0_10 _ _ l0_11 _ _ l0_12 a0_3 a1 (fun k_=>some k_=(.slice Ao17 t423.length co17:Value).ownBlock) (.slice Ao17 t423.length co17) t423 t431 t432 t433 t434 t435 t436 t439 t442 t443 t444 t445 t446 t449 w _ ?side1 ?side2 HC0_5.out ?side4 HC0_6.out ?side6 HC0_11.out ?side8 HC0_12.out ?side10 A8.out).mono ?_);(case side1=>repeat (first|(with_reducible first|exact HB.out|apply below_alloc|apply pw_below_drewN|apply below_drew1|refine below_set ?_ GE421.out|refine below_set ?_ GE422.out)|exact HB.out));(case side2=>exact Kd.C_kept_came k95_heap HR0_5.out bG (fun k_ hs_=>(fun e_=>Kd.R_base HO426.out k_ e_.symm) hs_));(case side4=>exact Kd.C_kept_came (Kd.heap_int .i64) HR0_6.out bG (fun k_ hs_=>(fun e_=>Kd.R_base HO426.out k_ e_.symm) hs_));(case side6=>exact Kd.C_kept_came (Kd.heap_int .i64) HR0_11.out bG (fun k_ hs_=>(fun e_=>Kd.R_base HO426.out k_ e_.symm) hs_));(case side8=>exact Kd.C_kept_came k83_heap HR0_12.out bG (fun k_ hs_=>(fun e_=>Kd.R_base HO426.out k_ e_.symm) hs_));(case side10=>exact Kd.R_tight rfl HO426.out);rintro e w18 ⟨v437,v440,v447,v450,rfl,ho0,ho1,ho2,ho3,hb,hkp⟩;refine ⟨_,rfl,?_⟩;have n0_:=Aside0.mk (blk_kept (bk BK421) hkp (fun hs_=>(fun e_=>(Kd.R_ne HO426.out BK421.out (by decide)) e_) hs_));have n1_:=Aside0.mk (blk_kept (bk BK422) hkp (fun hs_=>(fun e_=>(Kd.R_ne HO426.out BK422.out (by decide)) e_) hs_));have n2_:=Aside0.mk (Kd.R_mono (ok':=fun k_=>some k_≠(v440:Value).ownBlock∧some k_≠(v447:Value).ownBlock) (Kd.R_keptB (HO430.out) hkp (fun k_ hk_ hs_=>(hk_.2) hs_)) (fun k_ hk_=>⟨fun e_=>Or.elim (ho1.1 k_ e_.symm).1 (fun hs_=>hk_.2.1 hs_) (fun hn_=>Nat.not_le.2 hk_.2.2 hn_),fun e_=>Or.elim (ho2.1 k_ e_.symm).1 (fun hs_=>hk_.2.1 hs_) (fun hn_=>Nat.not_le.2 hk_.2.2 hn_)⟩));have n3_:=Aside0.mk (Kd.R_mono (ok':=fun k_=>True) ho0 (fun k_ hk_=>trivial));have n4_:=Aside0.mk (Kd.R_mono (ok':=fun k_=>some k_≠(v447:Value).ownBlock∧some k_≠(v429:Value).ownBlock) ho1 (fun k_ hk_=>⟨hk_.2,Or.elim hk_.1 (fun hs_=>fun e_=>(((HO430.out).1 k_ e_.symm).2) hs_) (fun hn_=>(Kd.fresh' (Kd.R_lt (rS HO430)) k_ hn_))⟩));have n5_:=Aside0.mk (Kd.R_mono (ok':=fun k_=>some k_≠(v440:Value).ownBlock∧some k_≠(v429:Value).ownBlock) ho2 (fun k_ hk_=>⟨hk_.2,Or.elim hk_.1 (fun hs_=>fun e_=>(((HO430.out).1 k_ e_.symm).2) hs_) (fun hn_=>(Kd.fresh' (Kd.R_lt (rS HO430)) k_ hn_))⟩));have n6_:=Aside0.mk (Kd.R_mono (ok':=fun k_=>True) ho3 (fun k_ hk_=>trivial));have n7_:=Aside0.mk hb;clear BK421;clear BK422;clear HO430;clear HB;clear HO426;have BK421:=n0_;have BK422:=n1_;have HO430:=n2_;have HO438:=n3_;have HO441:=n4_;have HO448:=n5_;have HO451:=n6_;have HB:=n7_;clear n0_ n1_ n2_ n3_ n4_ n5_ n6_ n7_;(try clear hb);(try clear hkp);(try clear ho0);(try clear ho1);(try clear ho2);(try clear ho3))|((with_reducible refine gate_dst (N:=12) rfl ?_);refine boxE 12 (#[.int .i64 0,.int .i64 0,.int .i64 0,.int .i64 0,.bool false,.slice none 0 0,.slice none 0 0,.int .i64 0,.int .i64 0,.int .i64 0,.int .i64 0,.slice none 0 0,.slice none 0 0]) 37 ?_;intro gb452 hg w19 hbox hb;have n0_:=Aside0.mk (Kd.R_below (rS HO430) hb);have n1_:=Aside0.mk (Kd.R_below (rS HO438) hb);have n2_:=Aside0.mk (Kd.R_below (rS HO441) hb);have n3_:=Aside0.mk (Kd.R_below (rS HO448) hb);have n4_:=Aside0.mk (Kd.R_below (rS HO451) hb);have n5_:=Aside0.mk (bkb BK421 hb);have n6_:=Aside0.mk (bkb BK422 hb);have n7_:=Aside0.mk (below_step bG hb);have n8_:=Aside0.mk hbox;have n9_:=(gwG (w:=w) hg);have n10_:=(gwG (w:=w) hg);have n11_:=(nbl BK421 hg);have n12_:=(nbg BK421 hg);have n13_:=(nbl BK422 hg);have n14_:=(nbg BK422 hg);clear HO430;clear HO438;clear HO441;clear HO448;clear HO451;clear BK421;clear BK422;clear HB;have HO430:=n0_;have HO438:=n1_;have HO441:=n2_;have HO448:=n3_;have HO451:=n4_;have BK421:=n5_;have BK422:=n6_;have HB:=n7_;have BK452:=n8_;have GW452:=n9_;have GE452:=n10_;have NB421_452:=n11_;have NB452_421:=n12_;have NB422_452:=n13_;have NB452_422:=n14_;clear n0_ n1_ n2_ n3_ n4_ n5_ n6_ n7_ n8_ n9_ n10_ n11_ n12_ n13_ n14_;clear hb hbox hg;have hnb20:=NB452_421.out;have hnc20:=NB421_452.out;have hnb21:=NB452_422.out;have hnc21:=NB422_452.out;obtain ⟨z22_0,z22_1,z22_2,z22_3,z22_4,z22_5,z22_6,z22_7,z22_8,z22_9,z22_10,z22_11,z22_12,y22_0,y22_1,y22_2,y22_3,y22_4,y22_5,y22_6,y22_7,y22_8,y22_9,y22_10,y22_11,y22_12⟩:=blk13f BK452;obtain ⟨Ao23,co23,eo23⟩:=Kd.R_slice HO438.out;subst eo23;obtain ⟨Ao24,co24,eo24⟩:=Kd.R_slice HO441.out;subst eo24;obtain ⟨Ao25,co25,eo25⟩:=Kd.R_slice HO448.out;subst eo25;obtain ⟨Ao26,co26,eo26⟩:=Kd.R_slice HO451.out;subst eo26;obtain ⟨Ao27,co27,eo27⟩:=Kd.R_slice HO430.out;subst eo27;obtain ⟨z28_0,z28_1,z28_2,z28_3,z28_4,z28_5,z28_6,z28_7,z28_8,z28_9,z28_10,z28_11,z28_12,y28_0,y28_1,y28_2,y28_3,y28_4,y28_5,y28_6,y28_7,y28_8,y28_9,y28_10,y28_11,y28_12⟩:=blk13f BK422))
   refine reletC (fun w2=>w2.heap[gb452]?=some (.cells #[.int .i64 t431,.int .i64 t432,.int .i64 t433,.int .i64 t434,.bool t435,.slice Ao23 t436.length co23,.slice Ao24 t439.length co24,.int .i64 t442,.int .i64 t443,.int .i64 t444,.int .i64 t445,.slice Ao25 t446.length co25,.slice Ao26 t449.length co26] 37 (0,0))∧(∀ k,k≠gb452→w2.heap[k]?=w19.heap[k]?)∧Below w.heap.size w w2) ⟨by refine bP (cs:=?_) ?_ 12 ?_;rotate_left;refine bP (cs:=?_) ?_ 11 ?_;rotate_left;refine bP (cs:=?_) ?_ 10 ?_;rotate_left;refine bP (cs:=?_) ?_ 9 ?_;rotate_left;refine bP (cs:=?_) ?_ 8 ?_;rotate_left;refine bP (cs:=?_) ?_ 7 ?_;rotate_left;refine bP (cs:=?_) ?_ 6 ?_;rotate_left;refine bP (cs:=?_) ?_ 5 ?_;rotate_left;refine bP (cs:=?_) ?_ 4 ?_;rotate_left;refine bP (cs:=?_) ?_ 3 ?_;rotate_left;refine bP (cs:=?_) ?_ 2 ?_;rotate_left;refine bP (cs:=?_) ?_ 1 ?_;rotate_left;refine bP (cs:=?_) ?_ 0 ?_;rotate_left;exact BK452.out;all_goals ((try simp only [sA,sZ,sC]);first|done|rfl),by ((with_reducible repeat (refine farS ?_));intro k hk;with_reducible exact Eq.refl _),bG⟩ ?_
   rintro w90 ⟨b1,hs,hb⟩
   replace HO430:=rowStay HO430 BK452 (by decide) hs
   replace HO438:=rowStay HO438 BK452 (by decide) hs
   replace HO441:=rowStay HO441 BK452 (by decide) hs
   replace HO448:=rowStay HO448 BK452 (by decide) hs
   replace HO451:=rowStay HO451 BK452 (by decide) hs
   replace BK422:=Aside0.mk ((hs gb422 NB422_452.out).trans BK422.out)
   replace BK452:=Aside0.mk b1
   replace HB:=Aside0.mk hb
   clear b1 hs hb
   try clear z12_0
   try clear z12_1
   try clear z12_2
   try clear z12_3
   try clear z12_4
   try clear z12_5
   try clear z12_6
   try clear z12_7
   try clear z12_8
   try clear z12_9
   try clear z12_10
   try clear z12_11
   try clear z12_12
   try clear y12_0
   try clear y12_1
   try clear y12_2
   try clear y12_3
   try clear y12_4
   try clear y12_5
   try clear y12_6
   try clear y12_7
   try clear y12_8
   try clear y12_9
   try clear y12_10
   try clear y12_11
   try clear y12_12
   try clear z14_0
   try clear z14_1
   try clear z14_2
   try clear z14_3
   try clear z14_4
   try clear z14_5
   try clear z14_6
   try clear z14_7
   try clear z14_8
   try clear z14_9
   try clear z14_10
   try clear z14_11
   try clear z14_12
   try clear y14_0
   try clear y14_1
   try clear y14_2
   try clear y14_3
   try clear y14_4
   try clear y14_5
   try clear y14_6
   try clear y14_7
   try clear y14_8
   try clear y14_9
   try clear y14_10
   try clear y14_11
   try clear y14_12
   try clear z16_0
   try clear z16_1
   try clear z16_2
   try clear z16_3
   try clear z16_4
   try clear z16_5
   try clear z16_6
   try clear z16_7
   try clear z16_8
   try clear z16_9
   try clear z16_10
   try clear z16_11
   try clear z16_12
   try clear y16_0
   try clear y16_1
   try clear y16_2
   try clear y16_3
   try clear y16_4
   try clear y16_5
   try clear y16_6
   try clear y16_7
   try clear y16_8
   try clear y16_9
   try clear y16_10
   try clear y16_11
   try clear y16_12
   try clear z22_0
   try clear z22_1
   try clear z22_2
   try clear z22_3
   try clear z22_4
   try clear z22_5
   try clear z22_6
   try clear z22_7
   try clear z22_8
   try clear z22_9
   try clear z22_10
   try clear z22_11
   try clear z22_12
   try clear y22_0
   try clear y22_1
   try clear y22_2
   try clear y22_3
   try clear y22_4
   try clear y22_5
   try clear y22_6
   try clear y22_7
   try clear y22_8
   try clear y22_9
   try clear y22_10
   try clear y22_11
   try clear y22_12
   try clear z28_0
   try clear z28_1
   try clear z28_2
   try clear z28_3
   try clear z28_4
   try clear z28_5
   try clear z28_6
   try clear z28_7
   try clear z28_8
   try clear z28_9
   try clear z28_10
   try clear z28_11
   try clear z28_12
   try clear y28_0
   try clear y28_1
   try clear y28_2
   try clear y28_3
   try clear y28_4
   try clear y28_5
   try clear y28_6
   try clear y28_7
   try clear y28_8
   try clear y28_9
   try clear y28_10
   try clear y28_11
   try clear y28_12
   obtain ⟨x0,x1,x2,x3,x4,x5,x6,x7,x8,x9,x10,x11,x12,y0,y1,y2,y3,y4,y5,y6,y7,y8,y9,y10,y11,y12⟩:=blk13f BK452
   go_upto_region 7 with (fail)
   refine reletC (fun w2=>w2.heap[gb452]?=some (.cells #[.int .i64 t431,.int .i64 t432,.int .i64 t433,.int .i64 t434,.bool t435,.slice Ao23 t436.length co23,.slice Ao27 t427.length co27,.int .i64 t442,.int .i64 t443,.int .i64 t444,.int .i64 t445,.slice Ao25 t446.length co25,.slice Ao26 t449.length co26] 37 (0,0))∧(∀ k,k≠gb452→w2.heap[k]?=w90.heap[k]?)∧Below w.heap.size w w2) ⟨by refine bP (cs:=?_) ?_ 6 ?_;rotate_left;exact BK452.out;all_goals ((try simp only [sA,sZ,sC]);first|done|rfl),by ((with_reducible repeat (refine farS ?_));intro k hk;with_reducible exact Eq.refl _),bG⟩ ?_
   rintro w91 ⟨b1,hs,hb⟩
   replace HO430:=rowStay HO430 BK452 (by decide) hs
   replace HO438:=rowStay HO438 BK452 (by decide) hs
   replace HO441:=rowStay HO441 BK452 (by decide) hs
   replace HO448:=rowStay HO448 BK452 (by decide) hs
   replace HO451:=rowStay HO451 BK452 (by decide) hs
   replace BK422:=Aside0.mk ((hs gb422 NB422_452.out).trans BK422.out)
   replace BK452:=Aside0.mk b1
   replace HB:=Aside0.mk hb
   clear b1 hs hb
   clear x0 y0 x1 y1 x2 y2 x3 y3 x4 y4 x5 y5 x6 y6 x7 y7 x8 y8 x9 y9 x10 y10 x11 y11 x12 y12
   obtain ⟨x0,x1,x2,x3,x4,x5,x6,x7,x8,x9,x10,x11,x12,y0,y1,y2,y3,y4,y5,y6,y7,y8,y9,y10,y11,y12⟩:=blk13f BK452
   obtain ⟨u0,u1,u2,u3,u4,u5,u6,u7,u8,u9,u10,u11,u12,v0,v1,v2,v3,v4,v5,v6,v7,v8,v9,v10,v11,v12⟩:=blk13f BK422
   go_wp2
   refine bodyPost_ret (results_ct rfl _ _ gb422 37 #[.int .i64 t431,.int .i64 t432,.int .i64 t433,.int .i64 t434,.bool t435,.slice Ao23 t436.length co23,.slice Ao27 t427.length co27,.int .i64 t442,.int .i64 t443,.int .i64 t444,.int .i64 t445,.slice Ao25 t446.length co25,.slice Ao26 t449.length co26] (0,0) _ rfl (by refine bP (cs:=?_) ?_ 12 ?_;rotate_left;refine bP (cs:=?_) ?_ 11 ?_;rotate_left;refine bP (cs:=?_) ?_ 10 ?_;rotate_left;refine bP (cs:=?_) ?_ 9 ?_;rotate_left;refine bP (cs:=?_) ?_ 8 ?_;rotate_left;refine bP (cs:=?_) ?_ 7 ?_;rotate_left;refine bP (cs:=?_) ?_ 6 ?_;rotate_left;refine bP (cs:=?_) ?_ 5 ?_;rotate_left;refine bP (cs:=?_) ?_ 4 ?_;rotate_left;refine bP (cs:=?_) ?_ 3 ?_;rotate_left;refine bP (cs:=?_) ?_ 2 ?_;rotate_left;refine bP (cs:=?_) ?_ 1 ?_;rotate_left;refine bP (cs:=?_) ?_ 0 ?_;rotate_left;exact BK422.out;all_goals ((try simp only [sA,sZ,sC]);first|done|rfl)) Try.underlying37 rfl (by kernel_rfl)) rfl ?_
   exact ⟨_,_,_,_,fE,Kd.R_mono (rowStay HO438 BK422 (by decide) (by ((with_reducible repeat (refine farS ?_));intro k hk;with_reducible exact Eq.refl _))).out (fun _ hk=>trivial),Kd.R_mono (rowStay HO430 BK422 (by decide) (by ((with_reducible repeat (refine farS ?_));intro k hk;with_reducible exact Eq.refl _))).out (fun _ hk=>hk.2),Kd.R_mono (rowStay HO448 BK422 (by decide) (by ((with_reducible repeat (refine farS ?_));intro k hk;with_reducible exact Eq.refl _))).out (fun _ hk=>hk.2),Kd.R_mono (rowStay HO451 BK422 (by decide) (by ((with_reducible repeat (refine farS ?_));intro k hk;with_reducible exact Eq.refl _))).out (fun _ hk=>trivial),bG⟩
  ·obtain rfl:=bF c7
   have H1:(some (0,0,0,0,false,([]:List (S95)),([]:List Int),0,0,0,0,([]:List Int),([]:List (S83)),false))=some (r1,r2,r3,r4,r5,r6,r7,r8,r9,r10,r11,r12,r13,r14):=by rw [if_neg nF] at H;exact H
   clear H
   have H:=H1
   clear H1
   simp only [Option.some.injEq,Prod.mk.injEq] at H
   obtain ⟨rfl,rfl,rfl,rfl,rfl,rfl,rfl,rfl,rfl,rfl,rfl,rfl,rfl,rfl⟩:=H
   go_enter Try.func46,Try.ntmps46
   go_wp2_with (first|((with_reducible refine gate_dst (N:=3) rfl ?_);refine boxE 3 (#[.int .i64 a0_0,.int .i64 a0_1,.int .i64 a0_2,.int .i64 a0_3,.bool a0_4,.slice A0_5 l0_5.length c0_5,.slice A0_6 l0_6.length c0_6,.int .i64 a0_7,.int .i64 a0_8,.int .i64 a0_9,.int .i64 a0_10,.slice A0_11 l0_11.length c0_11,.slice A0_12 l0_12.length c0_12]) 37 ?_;intro gb421 hg w29 hbox hb;have BK421:=Aside0.mk hbox;have GW421:=(gwH (w:=w) hg);have GE421:=(gwH (w:=w) hg);replace HB:=Aside0.mk (below_step bH hb);clear hb hbox hg)|((with_reducible refine gate_dst (N:=6) rfl ?_);refine boxE 6 (#[.int .i64 0,.int .i64 0,.int .i64 0,.int .i64 0,.bool false,.slice none 0 0,.slice none 0 0,.int .i64 0,.int .i64 0,.int .i64 0,.int .i64 0,.slice none 0 0,.slice none 0 0]) 37 ?_;intro gb422 hg w30 hbox hb;have n0_:=Aside0.mk (bkb BK421 hb);have n1_:=Aside0.mk (below_step bG hb);have n2_:=Aside0.mk hbox;have n3_:=(gwG (w:=w) hg);have n4_:=(gwG (w:=w) hg);have n5_:=(nbl BK421 hg);have n6_:=(nbg BK421 hg);clear BK421;clear HB;have BK421:=n0_;have HB:=n1_;have BK422:=n2_;have GW422:=n3_;have GE422:=n4_;have NB421_422:=n5_;have NB422_421:=n6_;clear n0_ n1_ n2_ n3_ n4_ n5_ n6_;clear hb hbox hg;have hnb31:=NB421_422.out;have hnc31:=NB422_421.out;obtain ⟨z32_0,z32_1,z32_2,z32_3,z32_4,z32_5,z32_6,z32_7,z32_8,z32_9,z32_10,z32_11,z32_12,y32_0,y32_1,y32_2,y32_3,y32_4,y32_5,y32_6,y32_7,y32_8,y32_9,y32_10,y32_11,y32_12⟩:=blk13f BK421)|((with_reducible refine gate_callee (f:=91) rfl ?_);refine gL (some 18) Try.func91 #[.slice A0_11 l0_11.length c0_11,.int .i64 a2] ?_;(with_reducible refine (impl_divided.calls k _ _ l0_11 a2 t423 true _ (cB HR0_11) HC0_11.out A4.out).mono ?_);rintro e w33 ⟨v425,rfl,ho0,hb⟩;refine ⟨_,rfl,?_⟩;have HO426:=Aside0.mk (Kd.R_lower ho0 (below_size bG));replace BK421:=Aside0.mk (bkb BK421 hb);replace BK422:=Aside0.mk (bkb BK422 hb);replace HB:=Aside0.mk (below_step bG hb);(try clear hb);(try clear ho0);obtain ⟨z34_0,z34_1,z34_2,z34_3,z34_4,z34_5,z34_6,z34_7,z34_8,z34_9,z34_10,z34_11,z34_12,y34_0,y34_1,y34_2,y34_3,y34_4,y34_5,y34_6,y34_7,y34_8,y34_9,y34_10,y34_11,y34_12⟩:=blk13f BK421)|((with_reducible refine gate_callee (f:=91) rfl ?_);refine gL (some 25) Try.func91 #[.slice A0_6 l0_6.length c0_6,.int .i64 a2] ?_;(with_reducible refine (impl_divided.calls k _ _ l0_6 a2 t427 false _ (cB HR0_6) HC0_6.out A5.out).mono ?_);rintro e w35 ⟨v429,rfl,ho0,hb⟩;refine ⟨_,rfl,?_⟩;have n0_:=Aside0.mk (Kd.R_elder' (rS HO426) (Kd.R_base ho0) hb);have n1_:=Aside0.mk (Kd.R_lower (Kd.R_new' ho0 (Kd.R_lt (rS HO426))) (below_size bG));have n2_:=Aside0.mk (bkb BK421 hb);have n3_:=Aside0.mk (bkb BK422 hb);have n4_:=Aside0.mk (below_step bG hb);clear HO426;clear BK421;clear BK422;clear HB;have HO426:=n0_;have HO430:=n1_;have BK421:=n2_;have BK422:=n3_;have HB:=n4_;clear n0_ n1_ n2_ n3_ n4_;(try clear hb);(try clear ho0);obtain ⟨z36_0,z36_1,z36_2,z36_3,z36_4,z36_5,z36_6,z36_7,z36_8,z36_9,z36_10,z36_11,z36_12,y36_0,y36_1,y36_2,y36_3,y36_4,y36_5,y36_6,y36_7,y36_8,y36_9,y36_10,y36_11,y36_12⟩:=blk13f BK422))
   refine bodyPost_ret (results_ct rfl _ _ gb422 37 #[.int .i64 0,.int .i64 0,.int .i64 0,.int .i64 0,.bool false,.slice none 0 0,.slice none 0 0,.int .i64 0,.int .i64 0,.int .i64 0,.int .i64 0,.slice none 0 0,.slice none 0 0] (0,0) _ rfl (by refine bP (cs:=?_) ?_ 12 ?_;rotate_left;refine bP (cs:=?_) ?_ 11 ?_;rotate_left;refine bP (cs:=?_) ?_ 10 ?_;rotate_left;refine bP (cs:=?_) ?_ 9 ?_;rotate_left;refine bP (cs:=?_) ?_ 8 ?_;rotate_left;refine bP (cs:=?_) ?_ 7 ?_;rotate_left;refine bP (cs:=?_) ?_ 6 ?_;rotate_left;refine bP (cs:=?_) ?_ 5 ?_;rotate_left;refine bP (cs:=?_) ?_ 4 ?_;rotate_left;refine bP (cs:=?_) ?_ 3 ?_;rotate_left;refine bP (cs:=?_) ?_ 2 ?_;rotate_left;refine bP (cs:=?_) ?_ 1 ?_;rotate_left;refine bP (cs:=?_) ?_ 0 ?_;rotate_left;exact BK422.out;all_goals ((try simp only [sA,sZ,sC]);first|done|rfl)) Try.underlying37 rfl (by kernel_rfl)) rfl ?_
   exact ⟨_,_,_,_,fE,by first|exact Kd.R_nil _ _ _ _ _|exact Kd.N_nil _ _ _ _ _|exact Kd.V_nil _ _ _ _ _|exact Kd.Q_nil _ _ _ _ _|exact Kd.S_nil _ _ _ _ _,by first|exact Kd.R_nil _ _ _ _ _|exact Kd.N_nil _ _ _ _ _|exact Kd.V_nil _ _ _ _ _|exact Kd.Q_nil _ _ _ _ _|exact Kd.S_nil _ _ _ _ _,by first|exact Kd.R_nil _ _ _ _ _|exact Kd.N_nil _ _ _ _ _|exact Kd.V_nil _ _ _ _ _|exact Kd.Q_nil _ _ _ _ _|exact Kd.S_nil _ _ _ _ _,by first|exact Kd.R_nil _ _ _ _ _|exact Kd.N_nil _ _ _ _ _|exact Kd.V_nil _ _ _ _ _|exact Kd.Q_nil _ _ _ _ _|exact Kd.S_nil _ _ _ _ _,bG⟩
 ·obtain rfl:=bF c6
  have H1:(some (0,0,0,0,false,([]:List (S95)),([]:List Int),0,0,0,0,([]:List Int),([]:List (S83)),false))=some (r1,r2,r3,r4,r5,r6,r7,r8,r9,r10,r11,r12,r13,r14):=by rw [if_neg nF] at H;exact H
  clear H
  have H:=H1
  clear H1
  simp only [Option.some.injEq,Prod.mk.injEq] at H
  obtain ⟨rfl,rfl,rfl,rfl,rfl,rfl,rfl,rfl,rfl,rfl,rfl,rfl,rfl,rfl⟩:=H
  go_enter Try.func46,Try.ntmps46
  go_wp2_with (first|((with_reducible refine gate_dst (N:=3) rfl ?_);refine boxE 3 (#[.int .i64 a0_0,.int .i64 a0_1,.int .i64 a0_2,.int .i64 a0_3,.bool a0_4,.slice A0_5 l0_5.length c0_5,.slice A0_6 l0_6.length c0_6,.int .i64 a0_7,.int .i64 a0_8,.int .i64 a0_9,.int .i64 a0_10,.slice A0_11 l0_11.length c0_11,.slice A0_12 l0_12.length c0_12]) 37 ?_;intro gb421 hg w37 hbox hb;have BK421:=Aside0.mk hbox;have GW421:=(gwH (w:=w) hg);have GE421:=(gwH (w:=w) hg);replace HB:=Aside0.mk (below_step bH hb);clear hb hbox hg)|((with_reducible refine gate_dst (N:=6) rfl ?_);refine boxE 6 (#[.int .i64 0,.int .i64 0,.int .i64 0,.int .i64 0,.bool false,.slice none 0 0,.slice none 0 0,.int .i64 0,.int .i64 0,.int .i64 0,.int .i64 0,.slice none 0 0,.slice none 0 0]) 37 ?_;intro gb422 hg w38 hbox hb;have n0_:=Aside0.mk (bkb BK421 hb);have n1_:=Aside0.mk (below_step bG hb);have n2_:=Aside0.mk hbox;have n3_:=(gwG (w:=w) hg);have n4_:=(gwG (w:=w) hg);have n5_:=(nbl BK421 hg);have n6_:=(nbg BK421 hg);clear BK421;clear HB;have BK421:=n0_;have HB:=n1_;have BK422:=n2_;have GW422:=n3_;have GE422:=n4_;have NB421_422:=n5_;have NB422_421:=n6_;clear n0_ n1_ n2_ n3_ n4_ n5_ n6_;clear hb hbox hg;have hnb39:=NB421_422.out;have hnc39:=NB422_421.out;obtain ⟨z40_0,z40_1,z40_2,z40_3,z40_4,z40_5,z40_6,z40_7,z40_8,z40_9,z40_10,z40_11,z40_12,y40_0,y40_1,y40_2,y40_3,y40_4,y40_5,y40_6,y40_7,y40_8,y40_9,y40_10,y40_11,y40_12⟩:=blk13f BK421)|((with_reducible refine gate_callee (f:=91) rfl ?_);refine gL (some 18) Try.func91 #[.slice A0_11 l0_11.length c0_11,.int .i64 a2] ?_;(with_reducible refine (impl_divided.calls k _ _ l0_11 a2 t423 false _ (cB HR0_11) HC0_11.out A4.out).mono ?_);rintro e w41 ⟨v425,rfl,ho0,hb⟩;refine ⟨_,rfl,?_⟩;have HO426:=Aside0.mk (Kd.R_lower ho0 (below_size bG));replace BK421:=Aside0.mk (bkb BK421 hb);replace BK422:=Aside0.mk (bkb BK422 hb);replace HB:=Aside0.mk (below_step bG hb);(try clear hb);(try clear ho0);obtain ⟨z42_0,z42_1,z42_2,z42_3,z42_4,z42_5,z42_6,z42_7,z42_8,z42_9,z42_10,z42_11,z42_12,y42_0,y42_1,y42_2,y42_3,y42_4,y42_5,y42_6,y42_7,y42_8,y42_9,y42_10,y42_11,y42_12⟩:=blk13f BK421)|((with_reducible refine gate_callee (f:=91) rfl ?_);refine gL (some 25) Try.func91 #[.slice A0_6 l0_6.length c0_6,.int .i64 a2] ?_;(with_reducible refine (impl_divided.calls k _ _ l0_6 a2 t427 t428 _ (cB HR0_6) HC0_6.out A5.out).mono ?_);rintro e w43 ⟨v429,rfl,ho0,hb⟩;refine ⟨_,rfl,?_⟩;have n0_:=Aside0.mk (Kd.R_elder' (rS HO426) (Kd.R_base ho0) hb);have n1_:=Aside0.mk (Kd.R_lower (Kd.R_new' ho0 (Kd.R_lt (rS HO426))) (below_size bG));have n2_:=Aside0.mk (bkb BK421 hb);have n3_:=Aside0.mk (bkb BK422 hb);have n4_:=Aside0.mk (below_step bG hb);clear HO426;clear BK421;clear BK422;clear HB;have HO426:=n0_;have HO430:=n1_;have BK421:=n2_;have BK422:=n3_;have HB:=n4_;clear n0_ n1_ n2_ n3_ n4_;(try clear hb);(try clear ho0);obtain ⟨z44_0,z44_1,z44_2,z44_3,z44_4,z44_5,z44_6,z44_7,z44_8,z44_9,z44_10,z44_11,z44_12,y44_0,y44_1,y44_2,y44_3,y44_4,y44_5,y44_6,y44_7,y44_8,y44_9,y44_10,y44_11,y44_12⟩:=blk13f BK422))
  refine bodyPost_ret (results_ct rfl _ _ gb422 37 #[.int .i64 0,.int .i64 0,.int .i64 0,.int .i64 0,.bool false,.slice none 0 0,.slice none 0 0,.int .i64 0,.int .i64 0,.int .i64 0,.int .i64 0,.slice none 0 0,.slice none 0 0] (0,0) _ rfl (by refine bP (cs:=?_) ?_ 12 ?_;rotate_left;refine bP (cs:=?_) ?_ 11 ?_;rotate_left;refine bP (cs:=?_) ?_ 10 ?_;rotate_left;refine bP (cs:=?_) ?_ 9 ?_;rotate_left;refine bP (cs:=?_) ?_ 8 ?_;rotate_left;refine bP (cs:=?_) ?_ 7 ?_;rotate_left;refine bP (cs:=?_) ?_ 6 ?_;rotate_left;refine bP (cs:=?_) ?_ 5 ?_;rotate_left;refine bP (cs:=?_) ?_ 4 ?_;rotate_left;refine bP (cs:=?_) ?_ 3 ?_;rotate_left;refine bP (cs:=?_) ?_ 2 ?_;rotate_left;refine bP (cs:=?_) ?_ 1 ?_;rotate_left;refine bP (cs:=?_) ?_ 0 ?_;rotate_left;exact BK422.out;all_goals ((try simp only [sA,sZ,sC]);first|done|rfl)) Try.underlying37 rfl (by kernel_rfl)) rfl ?_
  exact ⟨_,_,_,_,fE,by first|exact Kd.R_nil _ _ _ _ _|exact Kd.N_nil _ _ _ _ _|exact Kd.V_nil _ _ _ _ _|exact Kd.Q_nil _ _ _ _ _|exact Kd.S_nil _ _ _ _ _,by first|exact Kd.R_nil _ _ _ _ _|exact Kd.N_nil _ _ _ _ _|exact Kd.V_nil _ _ _ _ _|exact Kd.Q_nil _ _ _ _ _|exact Kd.S_nil _ _ _ _ _,by first|exact Kd.R_nil _ _ _ _ _|exact Kd.N_nil _ _ _ _ _|exact Kd.V_nil _ _ _ _ _|exact Kd.Q_nil _ _ _ _ _|exact Kd.S_nil _ _ _ _ _,by first|exact Kd.R_nil _ _ _ _ _|exact Kd.N_nil _ _ _ _ _|exact Kd.V_nil _ _ _ _ _|exact Kd.Q_nil _ _ _ _ _|exact Kd.S_nil _ _ _ _ _,bG⟩
end Go.Proofs.Ytjpfhldklbgdcaa.Ld
