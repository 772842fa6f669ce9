import Derived.Test.YtjpfhldklbgdcaaLdx0
import Derived.Test.YtjpfhldklbgdcaaLdx2
import Derived.Test.YtjpfhldklbgdcaaLdx4
import Derived.Test.YtjpfhldklbgdcaaLdx5
import Derived.Test.YtjpfhldklbgdcaaLdx6
set_option maxHeartbeats 8000000
set_option maxRecDepth 100000
namespace Go.Proofs.Ytjpfhldklbgdcaa.Ld
open Go.RowKit Go.Proofs.Ytjpfhldklbgdcaa.Sq Go.Proofs.YtjpfhldklbgdcaaW.PrintWords Go.Proofs.YtjpfhldklbgdcaaW.PrintLast Go.Proofs.YtjpfhldklbgdcaaW.PrintMore
attribute [local go_sem] max2_int min2_int max_two min_two max_three min_three max_four min_four   -- for this text's walks alone
set_option linter.unusedVariables false
set_option linter.unusedSimpArgs false
mutual
def spec_PngOk.j0:Nat→Bool→Int→Int→Int→Int→Bool→List (S95)→List Int→Int→Int→Int→Int→List Int→List (S83)→Option (Bool)
 | 0,_,_,_,_,_,_,_,_,_,_,_,_,_,_=>none
 | k+1,x51,x167000,x167001,x167002,x167003,x167004,x167005,x167006,x167007,x167008,x167009,x167010,x167011,x167012=>if x51=true then (some false) else ((spec_ClearOk.f k x167000 x167001 x167002 x167003 x167004 (x167005.length:Int) x167006).bind fun t169=>(if t169=true then ((spec_l18Kept.f k x167012).bind fun t170=>(spec_PngOk.j1 k (!t170) x167000 x167001 x167002 x167003 x167004 x167005 x167006 x167007 x167008 x167009 x167010 x167011 x167012)) else (spec_PngOk.j1 k true x167000 x167001 x167002 x167003 x167004 x167005 x167006 x167007 x167008 x167009 x167010 x167011 x167012)))
def spec_PngOk.j1:Nat→Bool→Int→Int→Int→Int→Bool→List (S95)→List Int→Int→Int→Int→Int→List Int→List (S83)→Option (Bool)
 | 0,_,_,_,_,_,_,_,_,_,_,_,_,_,_=>none
 | k+1,x66,x167000,x167001,x167002,x167003,x167004,x167005,x167006,x167007,x167008,x167009,x167010,x167011,x167012=>if x66=true then (some false) else (if x167003=3 then ((spec_TableText.f k x167005).bind fun bt171=>(if bt171.2=true then ((spec_l01Pow.f k x167002).bind fun t173=>(spec_PngOk.j2 k (decide ((x167005.length:Int) > t173)) x167000 x167001 x167002 x167003 x167004 x167005 x167006 x167007 x167008 x167009 x167010 x167011 x167012)) else (spec_PngOk.j2 k true x167000 x167001 x167002 x167003 x167004 x167005 x167006 x167007 x167008 x167009 x167010 x167011 x167012))) else (some ((x167005.length:Int) == 0)))
def spec_PngOk.j2:Nat→Bool→Int→Int→Int→Int→Bool→List (S95)→List Int→Int→Int→Int→Int→List Int→List (S83)→Option (Bool)
 | 0,_,_,_,_,_,_,_,_,_,_,_,_,_,_=>none
 | k+1,x92,x167000,x167001,x167002,x167003,x167004,x167005,x167006,x167007,x167008,x167009,x167010,x167011,x167012=>if x92=true then (some false) else (spec_PngOk.l0 k 0 x167000 x167001 x167002 x167003 x167004 x167005 x167006 x167007 x167008 x167009 x167010 x167011 x167012)
def spec_PngOk.l0:Nat→Int→Int→Int→Int→Int→Bool→List (S95)→List Int→Int→Int→Int→Int→List Int→List (S83)→Option (Bool)
 | 0,_,_,_,_,_,_,_,_,_,_,_,_,_,_=>none
 | k+1,x5,x167000,x167001,x167002,x167003,x167004,x167005,x167006,x167007,x167008,x167009,x167010,x167011,x167012=>if x5 < (x167011.length:Int) then (if 0≤x5 then (if (rd x167011 x5)≥(x167005.length:Int) then (some false) else (spec_PngOk.l0 k (wrap64 (x5+1)) x167000 x167001 x167002 x167003 x167004 x167005 x167006 x167007 x167008 x167009 x167010 x167011 x167012)) else (none)) else (some true)
end
def spec_PngOk.f (k:Nat) (a0_0:Int) (a0_1:Int) (a0_2:Int) (a0_3:Int) (a0_4:Bool) (l0_5:List (S95)) (l0_6:List Int) (a0_7:Int) (a0_8:Int) (a0_9:Int) (a0_10:Int) (l0_11:List Int) (l0_12:List (S83)):Option (Bool):=(spec_HeadOk.f k a0_0 a0_1 a0_2 a0_3 a0_4).bind fun t167=>(if t167=true then ((spec_RasterOk.f k a0_7 a0_8 a0_9 a0_10 l0_11).bind fun t168=>(if t168=true then (if a0_7=a0_0 then (if a0_8=a0_1 then (if a0_9=a0_3 then (spec_PngOk.j0 k (a0_10 != a0_2) a0_0 a0_1 a0_2 a0_3 a0_4 l0_5 l0_6 a0_7 a0_8 a0_9 a0_10 l0_11 l0_12) else (spec_PngOk.j0 k true a0_0 a0_1 a0_2 a0_3 a0_4 l0_5 l0_6 a0_7 a0_8 a0_9 a0_10 l0_11 l0_12)) else (spec_PngOk.j0 k true a0_0 a0_1 a0_2 a0_3 a0_4 l0_5 l0_6 a0_7 a0_8 a0_9 a0_10 l0_11 l0_12)) else (spec_PngOk.j0 k true a0_0 a0_1 a0_2 a0_3 a0_4 l0_5 l0_6 a0_7 a0_8 a0_9 a0_10 l0_11 l0_12)) else (spec_PngOk.j0 k true a0_0 a0_1 a0_2 a0_3 a0_4 l0_5 l0_6 a0_7 a0_8 a0_9 a0_10 l0_11 l0_12))) else (spec_PngOk.j0 k true a0_0 a0_1 a0_2 a0_3 a0_4 l0_5 l0_6 a0_7 a0_8 a0_9 a0_10 l0_11 l0_12))
theorem spec_PngOk.mono_l:∀ k,(∀ y0 y1 y2 y3 y4 y5 y6 y7 y8 y9 y10 y11 y12 y13,LeO (spec_PngOk.j0 k y0 y1 y2 y3 y4 y5 y6 y7 y8 y9 y10 y11 y12 y13) (spec_PngOk.j0 (k+1) y0 y1 y2 y3 y4 y5 y6 y7 y8 y9 y10 y11 y12 y13))∧(∀ y0 y1 y2 y3 y4 y5 y6 y7 y8 y9 y10 y11 y12 y13,LeO (spec_PngOk.j1 k y0 y1 y2 y3 y4 y5 y6 y7 y8 y9 y10 y11 y12 y13) (spec_PngOk.j1 (k+1) y0 y1 y2 y3 y4 y5 y6 y7 y8 y9 y10 y11 y12 y13))∧(∀ y0 y1 y2 y3 y4 y5 y6 y7 y8 y9 y10 y11 y12 y13,LeO (spec_PngOk.j2 k y0 y1 y2 y3 y4 y5 y6 y7 y8 y9 y10 y11 y12 y13) (spec_PngOk.j2 (k+1) y0 y1 y2 y3 y4 y5 y6 y7 y8 y9 y10 y11 y12 y13))∧(∀ y0 y1 y2 y3 y4 y5 y6 y7 y8 y9 y10 y11 y12 y13,LeO (spec_PngOk.l0 k y0 y1 y2 y3 y4 y5 y6 y7 y8 y9 y10 y11 y12 y13) (spec_PngOk.l0 (k+1) y0 y1 y2 y3 y4 y5 y6 y7 y8 y9 y10 y11 y12 y13))
 | 0=>⟨fun _ _ _ _ _ _ _ _ _ _ _ _ _ _ r h=>by simp [spec_PngOk.j0] at h,fun _ _ _ _ _ _ _ _ _ _ _ _ _ _ r h=>by simp [spec_PngOk.j1] at h,fun _ _ _ _ _ _ _ _ _ _ _ _ _ _ r h=>by simp [spec_PngOk.j2] at h,fun _ _ _ _ _ _ _ _ _ _ _ _ _ _ r h=>by simp [spec_PngOk.l0] at h⟩
 | k+1=>by
  obtain ⟨ih0,ih1,ih2,ih3⟩:=spec_PngOk.mono_l k
  refine ⟨?_,?_,?_,?_⟩
  ·intro y0 y1 y2 y3 y4 y5 y6 y7 y8 y9 y10 y11 y12 y13
   unfold spec_PngOk.j0
   repeat' first
   | (with_reducible exact ih0 _ _ _ _ _ _ _ _ _ _ _ _ _ _)
   | (with_reducible exact ih1 _ _ _ _ _ _ _ _ _ _ _ _ _ _)
   | (with_reducible exact ih2 _ _ _ _ _ _ _ _ _ _ _ _ _ _)
   | (with_reducible exact ih3 _ _ _ _ _ _ _ _ _ _ _ _ _ _)
   | (with_reducible exact spec_ClearOk.mono _ _ _ _ _ _ _ _)
   | (with_reducible exact spec_HeadOk.mono _ _ _ _ _ _)
   | (with_reducible exact spec_RasterOk.mono _ _ _ _ _ _)
   | (with_reducible exact spec_TableText.mono _ _)
   | (with_reducible exact spec_l01Pow.mono _ _)
   | (with_reducible exact spec_l18Kept.mono _ _)
   | (with_reducible exact LeO.refl _)
   | (with_reducible exact LeO.none _)
   | (with_reducible refine LeO.ite ?_ ?_)
   | (with_reducible refine LeO.bind ?_ (fun _=>?_))
   | exact ih0 _ _ _ _ _ _ _ _ _ _ _ _ _ _
   | exact ih1 _ _ _ _ _ _ _ _ _ _ _ _ _ _
   | exact ih2 _ _ _ _ _ _ _ _ _ _ _ _ _ _
   | exact ih3 _ _ _ _ _ _ _ _ _ _ _ _ _ _
   | exact spec_ClearOk.mono _ _ _ _ _ _ _ _
   | exact spec_HeadOk.mono _ _ _ _ _ _
   | exact spec_RasterOk.mono _ _ _ _ _ _
   | exact spec_TableText.mono _ _
   | exact spec_l01Pow.mono _ _
   | exact spec_l18Kept.mono _ _
   | exact LeO.none _
   | refine LeO.ite ?_ ?_
   | refine LeO.bind ?_ (fun _=>?_)
  ·intro y0 y1 y2 y3 y4 y5 y6 y7 y8 y9 y10 y11 y12 y13
   unfold spec_PngOk.j1
   repeat' first
   | (with_reducible exact ih0 _ _ _ _ _ _ _ _ _ _ _ _ _ _)
   | (with_reducible exact ih1 _ _ _ _ _ _ _ _ _ _ _ _ _ _)
   | (with_reducible exact ih2 _ _ _ _ _ _ _ _ _ _ _ _ _ _)
   | (with_reducible exact ih3 _ _ _ _ _ _ _ _ _ _ _ _ _ _)
   | (with_reducible exact spec_ClearOk.mono _ _ _ _ _ _ _ _)
   | (with_reducible exact spec_HeadOk.mono _ _ _ _ _ _)
   | (with_reducible exact spec_RasterOk.mono _ _ _ _ _ _)
   | (with_reducible exact spec_TableText.mono _ _)
   | (with_reducible exact spec_l01Pow.mono _ _)
   | (with_reducible exact spec_l18Kept.mono _ _)
   | (with_reducible exact LeO.refl _)
   | (with_reducible exact LeO.none _)
   | (with_reducible refine LeO.ite ?_ ?_)
   | (with_reducible refine LeO.bind ?_ (fun _=>?_))
   | exact ih0 _ _ _ _ _ _ _ _ _ _ _ _ _ _
   | exact ih1 _ _ _ _ _ _ _ _ _ _ _ _ _ _
   | exact ih2 _ _ _ _ _ _ _ _ _ _ _ _ _ _
   | exact ih3 _ _ _ _ _ _ _ _ _ _ _ _ _ _
   | exact spec_ClearOk.mono _ _ _ _ _ _ _ _
   | exact spec_HeadOk.mono _ _ _ _ _ _
   | exact spec_RasterOk.mono _ _ _ _ _ _
   | exact spec_TableText.mono _ _
   | exact spec_l01Pow.mono _ _
   | exact spec_l18Kept.mono _ _
   | exact LeO.none _
   | refine LeO.ite ?_ ?_
   | refine LeO.bind ?_ (fun _=>?_)
  ·intro y0 y1 y2 y3 y4 y5 y6 y7 y8 y9 y10 y11 y12 y13
   unfold spec_PngOk.j2
   repeat' first
   | (with_reducible exact ih0 _ _ _ _ _ _ _ _ _ _ _ _ _ _)
   | (with_reducible exact ih1 _ _ _ _ _ _ _ _ _ _ _ _ _ _)
   | (with_reducible exact ih2 _ _ _ _ _ _ _ _ _ _ _ _ _ _)
   | (with_reducible exact ih3 _ _ _ _ _ _ _ _ _ _ _ _ _ _)
   | (with_reducible exact spec_ClearOk.mono _ _ _ _ _ _ _ _)
   | (with_reducible exact spec_HeadOk.mono _ _ _ _ _ _)
   | (with_reducible exact spec_RasterOk.mono _ _ _ _ _ _)
   | (with_reducible exact spec_TableText.mono _ _)
   | (with_reducible exact spec_l01Pow.mono _ _)
   | (with_reducible exact spec_l18Kept.mono _ _)
   | (with_reducible exact LeO.refl _)
   | (with_reducible exact LeO.none _)
   | (with_reducible refine LeO.ite ?_ ?_)
   | (with_reducible refine LeO.bind ?_ (fun _=>?_))
   | exact ih0 _ _ _ _ _ _ _ _ _ _ _ _ _ _
   | exact ih1 _ _ _ _ _ _ _ _ _ _ _ _ _ _
   | exact ih2 _ _ _ _ _ _ _ _ _ _ _ _ _ _
   | exact ih3 _ _ _ _ _ _ _ _ _ _ _ _ _ _
   | exact spec_ClearOk.mono _ _ _ _ _ _ _ _
   | exact spec_HeadOk.mono _ _ _ _ _ _
   | exact spec_RasterOk.mono _ _ _ _ _ _
   | exact spec_TableText.mono _ _
   | exact spec_l01Pow.mono _ _
   | exact spec_l18Kept.mono _ _
   | exact LeO.none _
   | refine LeO.ite ?_ ?_
   | refine LeO.bind ?_ (fun _=>?_)
  ·intro y0 y1 y2 y3 y4 y5 y6 y7 y8 y9 y10 y11 y12 y13
   unfold spec_PngOk.l0
   repeat' first
   | (with_reducible exact ih0 _ _ _ _ _ _ _ _ _ _ _ _ _ _)
   | (with_reducible exact ih1 _ _ _ _ _ _ _ _ _ _ _ _ _ _)
   | (with_reducible exact ih2 _ _ _ _ _ _ _ _ _ _ _ _ _ _)
   | (with_reducible exact ih3 _ _ _ _ _ _ _ _ _ _ _ _ _ _)
   | (with_reducible exact spec_ClearOk.mono _ _ _ _ _ _ _ _)
   | (with_reducible exact spec_HeadOk.mono _ _ _ _ _ _)
   | (with_reducible exact spec_RasterOk.mono _ _ _ _ _ _)
   | (with_reducible exact spec_TableText.mono _ _)
   | (with_reducible exact spec_l01Pow.mono _ _)
   | (with_reducible exact spec_l18Kept.mono _ _)
   | (with_reducible exact LeO.refl _)
   | (with_reducible exact LeO.none _)
   | (with_reducible refine LeO.ite ?_ ?_)
   | (with_reducible refine LeO.bind ?_ (fun _=>?_))
   | exact ih0 _ _ _ _ _ _ _ _ _ _ _ _ _ _
   | exact ih1 _ _ _ _ _ _ _ _ _ _ _ _ _ _
   | exact ih2 _ _ _ _ _ _ _ _ _ _ _ _ _ _
   | exact ih3 _ _ _ _ _ _ _ _ _ _ _ _ _ _
   | exact spec_ClearOk.mono _ _ _ _ _ _ _ _
   | exact spec_HeadOk.mono _ _ _ _ _ _
   | exact spec_RasterOk.mono _ _ _ _ _ _
   | exact spec_TableText.mono _ _
   | exact spec_l01Pow.mono _ _
   | exact spec_l18Kept.mono _ _
   | exact LeO.none _
   | refine LeO.ite ?_ ?_
   | refine LeO.bind ?_ (fun _=>?_)
theorem spec_PngOk.mono:∀ a0 a1 a2 a3 a4 a5 a6 a7 a8 a9 a10 a11 a12 k,LeO (spec_PngOk.f k a0 a1 a2 a3 a4 a5 a6 a7 a8 a9 a10 a11 a12) (spec_PngOk.f (k+1) a0 a1 a2 a3 a4 a5 a6 a7 a8 a9 a10 a11 a12):=by
 intro a0 a1 a2 a3 a4 a5 a6 a7 a8 a9 a10 a11 a12 k
 obtain ⟨ih0,ih1,ih2,ih3⟩:=spec_PngOk.mono_l k
 unfold spec_PngOk.f
 repeat' first
   | (with_reducible exact ih0 _ _ _ _ _ _ _ _ _ _ _ _ _ _)
   | (with_reducible exact ih1 _ _ _ _ _ _ _ _ _ _ _ _ _ _)
   | (with_reducible exact ih2 _ _ _ _ _ _ _ _ _ _ _ _ _ _)
   | (with_reducible exact ih3 _ _ _ _ _ _ _ _ _ _ _ _ _ _)
   | (with_reducible exact spec_ClearOk.mono _ _ _ _ _ _ _ _)
   | (with_reducible exact spec_HeadOk.mono _ _ _ _ _ _)
   | (with_reducible exact spec_RasterOk.mono _ _ _ _ _ _)
   | (with_reducible exact spec_TableText.mono _ _)
   | (with_reducible exact spec_l01Pow.mono _ _)
   | (with_reducible exact spec_l18Kept.mono _ _)
   | (with_reducible exact LeO.refl _)
   | (with_reducible exact LeO.none _)
   | (with_reducible refine LeO.ite ?_ ?_)
   | (with_reducible refine LeO.bind ?_ (fun _=>?_))
   | exact ih0 _ _ _ _ _ _ _ _ _ _ _ _ _ _
   | exact ih1 _ _ _ _ _ _ _ _ _ _ _ _ _ _
   | exact ih2 _ _ _ _ _ _ _ _ _ _ _ _ _ _
   | exact ih3 _ _ _ _ _ _ _ _ _ _ _ _ _ _
   | exact spec_ClearOk.mono _ _ _ _ _ _ _ _
   | exact spec_HeadOk.mono _ _ _ _ _ _
   | exact spec_RasterOk.mono _ _ _ _ _ _
   | exact spec_TableText.mono _ _
   | exact spec_l01Pow.mono _ _
   | exact spec_l18Kept.mono _ _
   | exact LeO.none _
   | refine LeO.ite ?_ ?_
   | refine LeO.bind ?_ (fun _=>?_)
theorem spec_PngOk.calls (k:Nat) (a0_0:Int) (a0_1:Int) (a0_2:Int) (a0_3:Int) (a0_4:Bool) (A0_5:Option Addr) (c0_5:Nat) (l0_5:List (S95)) (A0_6:Option Addr) (c0_6:Nat) (l0_6:List Int) (a0_7:Int) (a0_8:Int) (a0_9:Int) (a0_10:Int) (A0_11:Option Addr) (c0_11:Nat) (l0_11:List Int) (A0_12:Option Addr) (c0_12:Nat) (l0_12:List (S83)) (r:Bool) (w:World) (hr0_5:Kd.C k95 w A0_5 l0_5.length l0_5) (hc0_5:l0_5.length≤c0_5) (hr0_6:Kd.C (Kd.int .i64) w A0_6 l0_6.length l0_6) (hc0_6:l0_6.length≤c0_6) (hr0_11:Kd.C (Kd.int .i64) w A0_11 l0_11.length l0_11) (hc0_11:l0_11.length≤c0_11) (hr0_12:Kd.C k83 w A0_12 l0_12.length l0_12) (hc0_12:l0_12.length≤c0_12) (h:spec_PngOk.f k a0_0 a0_1 a0_2 a0_3 a0_4 l0_5 l0_6 a0_7 a0_8 a0_9 a0_10 l0_11 l0_12=some r):
  Calls Try.prog 37 #[.agg #[.int .i64 a0_0,.int .i64 a0_1,.int .i64 a0_2,.int .i64 a0_3,.bool a0_4,.slice A0_5 l0_5.length c0_5,.slice A0_6 l0_6.length c0_6,.int .i64 a0_7,.int .i64 a0_8,.int .i64 a0_9,.int .i64 a0_10,.slice A0_11 l0_11.length c0_11,.slice A0_12 l0_12.length c0_12]] w fun e w'=>e=.returned (.bool r)∧Below w.heap.size w w':=by
 have hu37:=Try.underlying37
 have hu32:=Try.underlying32
 have hu34:=Try.underlying34
 have HR0_5:=Aside0.mk hr0_5
 have HC0_5:=Aside0.mk hc0_5
 clear hr0_5 hc0_5
 have HR0_6:=Aside0.mk hr0_6
 have HC0_6:=Aside0.mk hc0_6
 clear hr0_6 hc0_6
 have HR0_11:=Aside0.mk hr0_11
 have HC0_11:=Aside0.mk hc0_11
 clear hr0_11 hc0_11
 have HR0_12:=Aside0.mk hr0_12
 have HC0_12:=Aside0.mk hc0_12
 clear hr0_12 hc0_12
 have HB:=Aside0.mk (Below.refl w.heap.size w)
 have H:=h
 clear h
 unfold spec_PngOk.f at H
 have HC2:=Aside0.mk H
 clear H
 go_enter Try.func37,Try.ntmps37
 go_upto_region 1 with (first|((with_reducible refine gate_dst (N:=1) rfl ?_);(try (refine gate_guard (by rfl) ?_;dsimp only));refine boxE 1 (#[.int .i64 a0_0,.int .i64 a0_1,.int .i64 a0_2,.int .i64 a0_3,.bool a0_4,.slice A0_5 l0_5.length c0_5,.slice A0_6 l0_6.length c0_6,.int .i64 a0_7,.int .i64 a0_8,.int .i64 a0_9,.int .i64 a0_10,.slice A0_11 l0_11.length c0_11,.slice A0_12 l0_12.length c0_12]) 37 ?_;intro gb166 hg w3 hbox hb;have BK166:=Aside0.mk hbox;have GW166:=(gwH (w:=w) hg);have GE166:=(gwH (w:=w) hg);replace HB:=Aside0.mk (below_step bH hb);clear hb hbox hg))
 repeat (go_quiet (first|((with_reducible refine gate_dst (N:=1) rfl ?_);(try (refine gate_guard (by rfl) ?_;dsimp only));refine boxE 1 (#[.int .i64 a0_0,.int .i64 a0_1,.int .i64 a0_2,.int .i64 a0_3,.bool a0_4,.slice A0_5 l0_5.length c0_5,.slice A0_6 l0_6.length c0_6,.int .i64 a0_7,.int .i64 a0_8,.int .i64 a0_9,.int .i64 a0_10,.slice A0_11 l0_11.length c0_11,.slice A0_12 l0_12.length c0_12]) 37 ?_;intro gb166 hg w3 hbox hb;have BK166:=Aside0.mk hbox;have GW166:=(gwH (w:=w) hg);have GE166:=(gwH (w:=w) hg);replace HB:=Aside0.mk (below_step bH hb);clear hb hbox hg));go_upto_region 1 with (first|((with_reducible refine gate_dst (N:=1) rfl ?_);(try (refine gate_guard (by rfl) ?_;dsimp only));refine boxE 1 (#[.int .i64 a0_0,.int .i64 a0_1,.int .i64 a0_2,.int .i64 a0_3,.bool a0_4,.slice A0_5 l0_5.length c0_5,.slice A0_6 l0_6.length c0_6,.int .i64 a0_7,.int .i64 a0_8,.int .i64 a0_9,.int .i64 a0_10,.slice A0_11 l0_11.length c0_11,.slice A0_12 l0_12.length c0_12]) 37 ?_;intro gb166 hg w3 hbox hb;have BK166:=Aside0.mk hbox;have GW166:=(gwH (w:=w) hg);have GE166:=(gwH (w:=w) hg);replace HB:=Aside0.mk (below_step bH hb);clear hb hbox hg)))
 (try simp only [Act.put,sA,sZ,sC])
 go_cut [51] (fun v51 wc=>∃ (kq:Nat) (x51_1:Bool),v51=.bool x51_1∧Aside0 (spec_PngOk.j0 kq x51_1 a0_0 a0_1 a0_2 a0_3 a0_4 l0_5 l0_6 a0_7 a0_8 a0_9 a0_10 l0_11 l0_12=some r)∧Aside0 (kq≤k)∧Aside0 (wc.heap[gb166]?=some (.cells #[.int .i64 a0_0,.int .i64 a0_1,.int .i64 a0_2,.int .i64 a0_3,.bool a0_4,(.slice A0_5 l0_5.length c0_5),(.slice A0_6 l0_6.length c0_6),.int .i64 a0_7,.int .i64 a0_8,.int .i64 a0_9,.int .i64 a0_10,(.slice A0_11 l0_11.length c0_11),(.slice A0_12 l0_12.length c0_12)] 37 (0,0)))∧Aside0 (Below w.heap.size w wc))
 case first =>
  have H:=HC2.out
  clear HC2
  obtain ⟨t167,A4,H⟩:=bS H
  try dsimp only at H
  by_cases c5:t167=true
  ·subst c5
   rw [if_pos rfl] at H
   obtain ⟨t168,A6,H⟩:=bS H
   try dsimp only at H
   by_cases c7:t168=true
   ·subst c7
    rw [if_pos rfl] at H
    by_cases c8:a0_7=a0_0
    ·rw [if_pos c8] at H
     have c8b0:(a0_7 == a0_0)=true:=beq_iff_eq.mpr c8
     have c8b1:(a0_7 != a0_0)=false:=bne_eq_false_iff_eq.mpr c8
     clear c8
     (first|rw [c8b0]|(simp only [i64_w,i32_w];rw [c8b0])|skip)
     by_cases c9:a0_8=a0_1
     ·rw [if_pos c9] at H
      have c9b0:(a0_8 == a0_1)=true:=beq_iff_eq.mpr c9
      have c9b1:(a0_8 != a0_1)=false:=bne_eq_false_iff_eq.mpr c9
      clear c9
      by_cases c10:a0_9=a0_3
      ·rw [if_pos c10] at H
       have c10b0:(a0_9 == a0_3)=true:=beq_iff_eq.mpr c10
       have c10b1:(a0_9 != a0_3)=false:=bne_eq_false_iff_eq.mpr c10
       clear c10
       have H':=Aside0.mk H
       clear H
       obtain ⟨z11_0,z11_1,z11_2,z11_3,z11_4,z11_5,z11_6,z11_7,z11_8,z11_9,z11_10,z11_11,z11_12,y11_0,y11_1,y11_2,y11_3,y11_4,y11_5,y11_6,y11_7,y11_8,y11_9,y11_10,y11_11,y11_12⟩:=blk13f BK166
       go_wp2_with (first|(go_at_call 84;(with_reducible refine (spec_HeadOk.calls k a0_0 a0_1 a0_2 a0_3 a0_4 true _ A4.out).mono ?_);rintro e w12 ⟨rfl,hb⟩;replace BK166:=Aside0.mk (bkb BK166 hb);replace HB:=Aside0.mk (below_step bG hb);(try clear hb);obtain ⟨z13_0,z13_1,z13_2,z13_3,z13_4,z13_5,z13_6,z13_7,z13_8,z13_9,z13_10,z13_11,z13_12,y13_0,y13_1,y13_2,y13_3,y13_4,y13_5,y13_6,y13_7,y13_8,y13_9,y13_10,y13_11,y13_12⟩:=blk13f BK166)|(go_at_call 85;(with_reducible refine (spec_RasterOk.calls k a0_7 a0_8 a0_9 a0_10 _ _ l0_11 true _ (cB HR0_11) HC0_11.out A6.out).mono ?_);rintro e w14 ⟨rfl,hb⟩;replace BK166:=Aside0.mk (bkb BK166 hb);replace HB:=Aside0.mk (below_step bG hb);(try clear hb);obtain ⟨z15_0,z15_1,z15_2,z15_3,z15_4,z15_5,z15_6,z15_7,z15_8,z15_9,z15_10,z15_11,z15_12,y15_0,y15_1,y15_2,y15_3,y15_4,y15_5,y15_6,y15_7,y15_8,y15_9,y15_10,y15_11,y15_12⟩:=blk13f BK166))
       repeat (go_quiet (first|(go_at_call 84;(with_reducible refine (spec_HeadOk.calls k a0_0 a0_1 a0_2 a0_3 a0_4 true _ A4.out).mono ?_);rintro e w12 ⟨rfl,hb⟩;replace BK166:=Aside0.mk (bkb BK166 hb);replace HB:=Aside0.mk (below_step bG hb);(try clear hb);obtain ⟨z13_0,z13_1,z13_2,z13_3,z13_4,z13_5,z13_6,z13_7,z13_8,z13_9,z13_10,z13_11,z13_12,y13_0,y13_1,y13_2,y13_3,y13_4,y13_5,y13_6,y13_7,y13_8,y13_9,y13_10,y13_11,y13_12⟩:=blk13f BK166)|(go_at_call 85;(with_reducible refine (spec_RasterOk.calls k a0_7 a0_8 a0_9 a0_10 _ _ l0_11 true _ (cB HR0_11) HC0_11.out A6.out).mono ?_);rintro e w14 ⟨rfl,hb⟩;replace BK166:=Aside0.mk (bkb BK166 hb);replace HB:=Aside0.mk (below_step bG hb);(try clear hb);obtain ⟨z15_0,z15_1,z15_2,z15_3,z15_4,z15_5,z15_6,z15_7,z15_8,z15_9,z15_10,z15_11,z15_12,y15_0,y15_1,y15_2,y15_3,y15_4,y15_5,y15_6,y15_7,y15_8,y15_9,y15_10,y15_11,y15_12⟩:=blk13f BK166));try go_wp2_with (first|(go_at_call 84;(with_reducible refine (spec_HeadOk.calls k a0_0 a0_1 a0_2 a0_3 a0_4 true _ A4.out).mono ?_);rintro e w12 ⟨rfl,hb⟩;replace BK166:=Aside0.mk (bkb BK166 hb);replace HB:=Aside0.mk (below_step bG hb);(try clear hb);obtain ⟨z13_0,z13_1,z13_2,z13_3,z13_4,z13_5,z13_6,z13_7,z13_8,z13_9,z13_10,z13_11,z13_12,y13_0,y13_1,y13_2,y13_3,y13_4,y13_5,y13_6,y13_7,y13_8,y13_9,y13_10,y13_11,y13_12⟩:=blk13f BK166)|(go_at_call 85;(with_reducible refine (spec_RasterOk.calls k a0_7 a0_8 a0_9 a0_10 _ _ l0_11 true _ (cB HR0_11) HC0_11.out A6.out).mono ?_);rintro e w14 ⟨rfl,hb⟩;replace BK166:=Aside0.mk (bkb BK166 hb);replace HB:=Aside0.mk (below_step bG hb);(try clear hb);obtain ⟨z15_0,z15_1,z15_2,z15_3,z15_4,z15_5,z15_6,z15_7,z15_8,z15_9,z15_10,z15_11,z15_12,y15_0,y15_1,y15_2,y15_3,y15_4,y15_5,y15_6,y15_7,y15_8,y15_9,y15_10,y15_11,y15_12⟩:=blk13f BK166)))
       go_meet
       case rel=>exact ⟨_,((a0_10 != a0_2)),fS,H',⟨by first|omega|exact Nat.le_refl _⟩,⟨by (with_reducible repeat (first|refine blk_drewN ?_ _|refine blk_drew ?_|refine blk_alloc ?_ _));exact BK166.out⟩,⟨bG⟩⟩
      ·rw [if_neg c10] at H
       have c10b0:(a0_9 == a0_3)=false:=beq_eq_false_iff_ne.mpr c10
       have c10b1:(a0_9 != a0_3)=true:=bne_iff_ne.mpr c10
       have H':=Aside0.mk H
       clear H
       obtain ⟨z16_0,z16_1,z16_2,z16_3,z16_4,z16_5,z16_6,z16_7,z16_8,z16_9,z16_10,z16_11,z16_12,y16_0,y16_1,y16_2,y16_3,y16_4,y16_5,y16_6,y16_7,y16_8,y16_9,y16_10,y16_11,y16_12⟩:=blk13f BK166
       go_wp2_with (first|(go_at_call 84;(with_reducible refine (spec_HeadOk.calls k a0_0 a0_1 a0_2 a0_3 a0_4 true _ A4.out).mono ?_);rintro e w17 ⟨rfl,hb⟩;replace BK166:=Aside0.mk (bkb BK166 hb);replace HB:=Aside0.mk (below_step bG hb);(try clear hb);obtain ⟨z18_0,z18_1,z18_2,z18_3,z18_4,z18_5,z18_6,z18_7,z18_8,z18_9,z18_10,z18_11,z18_12,y18_0,y18_1,y18_2,y18_3,y18_4,y18_5,y18_6,y18_7,y18_8,y18_9,y18_10,y18_11,y18_12⟩:=blk13f BK166)|(go_at_call 85;(with_reducible refine (spec_RasterOk.calls k a0_7 a0_8 a0_9 a0_10 _ _ l0_11 true _ (cB HR0_11) HC0_11.out A6.out).mono ?_);rintro e w19 ⟨rfl,hb⟩;replace BK166:=Aside0.mk (bkb BK166 hb);replace HB:=Aside0.mk (below_step bG hb);(try clear hb);obtain ⟨z20_0,z20_1,z20_2,z20_3,z20_4,z20_5,z20_6,z20_7,z20_8,z20_9,z20_10,z20_11,z20_12,y20_0,y20_1,y20_2,y20_3,y20_4,y20_5,y20_6,y20_7,y20_8,y20_9,y20_10,y20_11,y20_12⟩:=blk13f BK166))
       repeat (go_quiet (first|(go_at_call 84;(with_reducible refine (spec_HeadOk.calls k a0_0 a0_1 a0_2 a0_3 a0_4 true _ A4.out).mono ?_);rintro e w17 ⟨rfl,hb⟩;replace BK166:=Aside0.mk (bkb BK166 hb);replace HB:=Aside0.mk (below_step bG hb);(try clear hb);obtain ⟨z18_0,z18_1,z18_2,z18_3,z18_4,z18_5,z18_6,z18_7,z18_8,z18_9,z18_10,z18_11,z18_12,y18_0,y18_1,y18_2,y18_3,y18_4,y18_5,y18_6,y18_7,y18_8,y18_9,y18_10,y18_11,y18_12⟩:=blk13f BK166)|(go_at_call 85;(with_reducible refine (spec_RasterOk.calls k a0_7 a0_8 a0_9 a0_10 _ _ l0_11 true _ (cB HR0_11) HC0_11.out A6.out).mono ?_);rintro e w19 ⟨rfl,hb⟩;replace BK166:=Aside0.mk (bkb BK166 hb);replace HB:=Aside0.mk (below_step bG hb);(try clear hb);obtain ⟨z20_0,z20_1,z20_2,z20_3,z20_4,z20_5,z20_6,z20_7,z20_8,z20_9,z20_10,z20_11,z20_12,y20_0,y20_1,y20_2,y20_3,y20_4,y20_5,y20_6,y20_7,y20_8,y20_9,y20_10,y20_11,y20_12⟩:=blk13f BK166));try go_wp2_with (first|(go_at_call 84;(with_reducible refine (spec_HeadOk.calls k a0_0 a0_1 a0_2 a0_3 a0_4 true _ A4.out).mono ?_);rintro e w17 ⟨rfl,hb⟩;replace BK166:=Aside0.mk (bkb BK166 hb);replace HB:=Aside0.mk (below_step bG hb);(try clear hb);obtain ⟨z18_0,z18_1,z18_2,z18_3,z18_4,z18_5,z18_6,z18_7,z18_8,z18_9,z18_10,z18_11,z18_12,y18_0,y18_1,y18_2,y18_3,y18_4,y18_5,y18_6,y18_7,y18_8,y18_9,y18_10,y18_11,y18_12⟩:=blk13f BK166)|(go_at_call 85;(with_reducible refine (spec_RasterOk.calls k a0_7 a0_8 a0_9 a0_10 _ _ l0_11 true _ (cB HR0_11) HC0_11.out A6.out).mono ?_);rintro e w19 ⟨rfl,hb⟩;replace BK166:=Aside0.mk (bkb BK166 hb);replace HB:=Aside0.mk (below_step bG hb);(try clear hb);obtain ⟨z20_0,z20_1,z20_2,z20_3,z20_4,z20_5,z20_6,z20_7,z20_8,z20_9,z20_10,z20_11,z20_12,y20_0,y20_1,y20_2,y20_3,y20_4,y20_5,y20_6,y20_7,y20_8,y20_9,y20_10,y20_11,y20_12⟩:=blk13f BK166)))
       go_meet
       case rel=>exact ⟨_,(true),fS,H',⟨by first|omega|exact Nat.le_refl _⟩,⟨by (with_reducible repeat (first|refine blk_drewN ?_ _|refine blk_drew ?_|refine blk_alloc ?_ _));exact BK166.out⟩,⟨bG⟩⟩
     ·rw [if_neg c9] at H
      have c9b0:(a0_8 == a0_1)=false:=beq_eq_false_iff_ne.mpr c9
      have c9b1:(a0_8 != a0_1)=true:=bne_iff_ne.mpr c9
      have H':=Aside0.mk H
      clear H
      obtain ⟨z21_0,z21_1,z21_2,z21_3,z21_4,z21_5,z21_6,z21_7,z21_8,z21_9,z21_10,z21_11,z21_12,y21_0,y21_1,y21_2,y21_3,y21_4,y21_5,y21_6,y21_7,y21_8,y21_9,y21_10,y21_11,y21_12⟩:=blk13f BK166
      go_wp2_with (first|(go_at_call 84;(with_reducible refine (spec_HeadOk.calls k a0_0 a0_1 a0_2 a0_3 a0_4 true _ A4.out).mono ?_);rintro e w22 ⟨rfl,hb⟩;replace BK166:=Aside0.mk (bkb BK166 hb);replace HB:=Aside0.mk (below_step bG hb);(try clear hb);obtain ⟨z23_0,z23_1,z23_2,z23_3,z23_4,z23_5,z23_6,z23_7,z23_8,z23_9,z23_10,z23_11,z23_12,y23_0,y23_1,y23_2,y23_3,y23_4,y23_5,y23_6,y23_7,y23_8,y23_9,y23_10,y23_11,y23_12⟩:=blk13f BK166)|(go_at_call 85;(with_reducible refine (spec_RasterOk.calls k a0_7 a0_8 a0_9 a0_10 _ _ l0_11 true _ (cB HR0_11) HC0_11.out A6.out).mono ?_);rintro e w24 ⟨rfl,hb⟩;replace BK166:=Aside0.mk (bkb BK166 hb);replace HB:=Aside0.mk (below_step bG hb);(try clear hb);obtain ⟨z25_0,z25_1,z25_2,z25_3,z25_4,z25_5,z25_6,z25_7,z25_8,z25_9,z25_10,z25_11,z25_12,y25_0,y25_1,y25_2,y25_3,y25_4,y25_5,y25_6,y25_7,y25_8,y25_9,y25_10,y25_11,y25_12⟩:=blk13f BK166))
      repeat (go_quiet (first|(go_at_call 84;(with_reducible refine (spec_HeadOk.calls k a0_0 a0_1 a0_2 a0_3 a0_4 true _ A4.out).mono ?_);rintro e w22 ⟨rfl,hb⟩;replace BK166:=Aside0.mk (bkb BK166 hb);replace HB:=Aside0.mk (below_step bG hb);(try clear hb);obtain ⟨z23_0,z23_1,z23_2,z23_3,z23_4,z23_5,z23_6,z23_7,z23_8,z23_9,z23_10,z23_11,z23_12,y23_0,y23_1,y23_2,y23_3,y23_4,y23_5,y23_6,y23_7,y23_8,y23_9,y23_10,y23_11,y23_12⟩:=blk13f BK166)|(go_at_call 85;(with_reducible refine (spec_RasterOk.calls k a0_7 a0_8 a0_9 a0_10 _ _ l0_11 true _ (cB HR0_11) HC0_11.out A6.out).mono ?_);rintro e w24 ⟨rfl,hb⟩;replace BK166:=Aside0.mk (bkb BK166 hb);replace HB:=Aside0.mk (below_step bG hb);(try clear hb);obtain ⟨z25_0,z25_1,z25_2,z25_3,z25_4,z25_5,z25_6,z25_7,z25_8,z25_9,z25_10,z25_11,z25_12,y25_0,y25_1,y25_2,y25_3,y25_4,y25_5,y25_6,y25_7,y25_8,y25_9,y25_10,y25_11,y25_12⟩:=blk13f BK166));try go_wp2_with (first|(go_at_call 84;(with_reducible refine (spec_HeadOk.calls k a0_0 a0_1 a0_2 a0_3 a0_4 true _ A4.out).mono ?_);rintro e w22 ⟨rfl,hb⟩;replace BK166:=Aside0.mk (bkb BK166 hb);replace HB:=Aside0.mk (below_step bG hb);(try clear hb);obtain ⟨z23_0,z23_1,z23_2,z23_3,z23_4,z23_5,z23_6,z23_7,z23_8,z23_9,z23_10,z23_11,z23_12,y23_0,y23_1,y23_2,y23_3,y23_4,y23_5,y23_6,y23_7,y23_8,y23_9,y23_10,y23_11,y23_12⟩:=blk13f BK166)|(go_at_call 85;(with_reducible refine (spec_RasterOk.calls k a0_7 a0_8 a0_9 a0_10 _ _ l0_11 true _ (cB HR0_11) HC0_11.out A6.out).mono ?_);rintro e w24 ⟨rfl,hb⟩;replace BK166:=Aside0.mk (bkb BK166 hb);replace HB:=Aside0.mk (below_step bG hb);(try clear hb);obtain ⟨z25_0,z25_1,z25_2,z25_3,z25_4,z25_5,z25_6,z25_7,z25_8,z25_9,z25_10,z25_11,z25_12,y25_0,y25_1,y25_2,y25_3,y25_4,y25_5,y25_6,y25_7,y25_8,y25_9,y25_10,y25_11,y25_12⟩:=blk13f BK166)))
      go_meet
      case rel=>exact ⟨_,(true),fS,H',⟨by first|omega|exact Nat.le_refl _⟩,⟨by (with_reducible repeat (first|refine blk_drewN ?_ _|refine blk_drew ?_|refine blk_alloc ?_ _));exact BK166.out⟩,⟨bG⟩⟩
    ·rw [if_neg c8] at H
     have c8b0:(a0_7 == a0_0)=false:=beq_eq_false_iff_ne.mpr c8
     have c8b1:(a0_7 != a0_0)=true:=bne_iff_ne.mpr c8
     (first|rw [c8b0]|(simp only [i64_w,i32_w];rw [c8b0])|skip)
     have H':=Aside0.mk H
     clear H
     obtain ⟨z26_0,z26_1,z26_2,z26_3,z26_4,z26_5,z26_6,z26_7,z26_8,z26_9,z26_10,z26_11,z26_12,y26_0,y26_1,y26_2,y26_3,y26_4,y26_5,y26_6,y26_7,y26_8,y26_9,y26_10,y26_11,y26_12⟩:=blk13f BK166
     go_wp2_with (first|(go_at_call 84;(with_reducible refine (spec_HeadOk.calls k a0_0 a0_1 a0_2 a0_3 a0_4 true _ A4.out).mono ?_);rintro e w27 ⟨rfl,hb⟩;replace BK166:=Aside0.mk (bkb BK166 hb);replace HB:=Aside0.mk (below_step bG hb);(try clear hb);obtain ⟨z28_0,z28_1,z28_2,z28_3,z28_4,z28_5,z28_6,z28_7,z28_8,z28_9,z28_10,z28_11,z28_12,y28_0,y28_1,y28_2,y28_3,y28_4,y28_5,y28_6,y28_7,y28_8,y28_9,y28_10,y28_11,y28_12⟩:=blk13f BK166)|(go_at_call 85;(with_reducible refine (spec_RasterOk.calls k a0_7 a0_8 a0_9 a0_10 _ _ l0_11 true _ (cB HR0_11) HC0_11.out A6.out).mono ?_);rintro e w29 ⟨rfl,hb⟩;replace BK166:=Aside0.mk (bkb BK166 hb);replace HB:=Aside0.mk (below_step bG hb);(try clear hb);obtain ⟨z30_0,z30_1,z30_2,z30_3,z30_4,z30_5,z30_6,z30_7,z30_8,z30_9,z30_10,z30_11,z30_12,y30_0,y30_1,y30_2,y30_3,y30_4,y30_5,y30_6,y30_7,y30_8,y30_9,y30_10,y30_11,y30_12⟩:=blk13f BK166))
     repeat (go_quiet (first|(go_at_call 84;(with_reducible refine (spec_HeadOk.calls k a0_0 a0_1 a0_2 a0_3 a0_4 true _ A4.out).mono ?_);rintro e w27 ⟨rfl,hb⟩;replace BK166:=Aside0.mk (bkb BK166 hb);replace HB:=Aside0.mk (below_step bG hb);(try clear hb);obtain ⟨z28_0,z28_1,z28_2,z28_3,z28_4,z28_5,z28_6,z28_7,z28_8,z28_9,z28_10,z28_11,z28_12,y28_0,y28_1,y28_2,y28_3,y28_4,y28_5,y28_6,y28_7,y28_8,y28_9,y28_10,y28_11,y28_12⟩:=blk13f BK166)|(go_at_call 85;(with_reducible refine (spec_RasterOk.calls k a0_7 a0_8 a0_9 a0_10 _ _ l0_11 true _ (cB HR0_11) HC0_11.out A6.out).mono ?_);rintro e w29 ⟨rfl,hb⟩;replace BK166:=Aside0.mk (bkb BK166 hb);replace HB:=Aside0.mk (below_step bG hb);(try clear hb);obtain ⟨z30_0,z30_1,z30_2,z30_3,z30_4,z30_5,z30_6,z30_7,z30_8,z30_9,z30_10,z30_11,z30_12,y30_0,y30_1,y30_2,y30_3,y30_4,y30_5,y30_6,y30_7,y30_8,y30_9,y30_10,y30_11,y30_12⟩:=blk13f BK166));try go_wp2_with (first|(go_at_call 84;(with_reducible refine (spec_HeadOk.calls k a0_0 a0_1 a0_2 a0_3 a0_4 true _ A4.out).mono ?_);rintro e w27 ⟨rfl,hb⟩;replace BK166:=Aside0.mk (bkb BK166 hb);replace HB:=Aside0.mk (below_step bG hb);(try clear hb);obtain ⟨z28_0,z28_1,z28_2,z28_3,z28_4,z28_5,z28_6,z28_7,z28_8,z28_9,z28_10,z28_11,z28_12,y28_0,y28_1,y28_2,y28_3,y28_4,y28_5,y28_6,y28_7,y28_8,y28_9,y28_10,y28_11,y28_12⟩:=blk13f BK166)|(go_at_call 85;(with_reducible refine (spec_RasterOk.calls k a0_7 a0_8 a0_9 a0_10 _ _ l0_11 true _ (cB HR0_11) HC0_11.out A6.out).mono ?_);rintro e w29 ⟨rfl,hb⟩;replace BK166:=Aside0.mk (bkb BK166 hb);replace HB:=Aside0.mk (below_step bG hb);(try clear hb);obtain ⟨z30_0,z30_1,z30_2,z30_3,z30_4,z30_5,z30_6,z30_7,z30_8,z30_9,z30_10,z30_11,z30_12,y30_0,y30_1,y30_2,y30_3,y30_4,y30_5,y30_6,y30_7,y30_8,y30_9,y30_10,y30_11,y30_12⟩:=blk13f BK166)))
     go_meet
     case rel=>exact ⟨_,(true),fS,H',⟨by first|omega|exact Nat.le_refl _⟩,⟨by (with_reducible repeat (first|refine blk_drewN ?_ _|refine blk_drew ?_|refine blk_alloc ?_ _));exact BK166.out⟩,⟨bG⟩⟩
   ·obtain rfl:=bF c7
    rw [if_neg nF] at H
    have H':=Aside0.mk H
    clear H
    obtain ⟨z31_0,z31_1,z31_2,z31_3,z31_4,z31_5,z31_6,z31_7,z31_8,z31_9,z31_10,z31_11,z31_12,y31_0,y31_1,y31_2,y31_3,y31_4,y31_5,y31_6,y31_7,y31_8,y31_9,y31_10,y31_11,y31_12⟩:=blk13f BK166
    go_wp2_with (first|(go_at_call 84;(with_reducible refine (spec_HeadOk.calls k a0_0 a0_1 a0_2 a0_3 a0_4 true _ A4.out).mono ?_);rintro e w32 ⟨rfl,hb⟩;replace BK166:=Aside0.mk (bkb BK166 hb);replace HB:=Aside0.mk (below_step bG hb);(try clear hb);obtain ⟨z33_0,z33_1,z33_2,z33_3,z33_4,z33_5,z33_6,z33_7,z33_8,z33_9,z33_10,z33_11,z33_12,y33_0,y33_1,y33_2,y33_3,y33_4,y33_5,y33_6,y33_7,y33_8,y33_9,y33_10,y33_11,y33_12⟩:=blk13f BK166)|(go_at_call 85;(with_reducible refine (spec_RasterOk.calls k a0_7 a0_8 a0_9 a0_10 _ _ l0_11 false _ (cB HR0_11) HC0_11.out A6.out).mono ?_);rintro e w34 ⟨rfl,hb⟩;replace BK166:=Aside0.mk (bkb BK166 hb);replace HB:=Aside0.mk (below_step bG hb);(try clear hb)))
    repeat (go_quiet (first|(go_at_call 84;(with_reducible refine (spec_HeadOk.calls k a0_0 a0_1 a0_2 a0_3 a0_4 true _ A4.out).mono ?_);rintro e w32 ⟨rfl,hb⟩;replace BK166:=Aside0.mk (bkb BK166 hb);replace HB:=Aside0.mk (below_step bG hb);(try clear hb);obtain ⟨z33_0,z33_1,z33_2,z33_3,z33_4,z33_5,z33_6,z33_7,z33_8,z33_9,z33_10,z33_11,z33_12,y33_0,y33_1,y33_2,y33_3,y33_4,y33_5,y33_6,y33_7,y33_8,y33_9,y33_10,y33_11,y33_12⟩:=blk13f BK166)|(go_at_call 85;(with_reducible refine (spec_RasterOk.calls k a0_7 a0_8 a0_9 a0_10 _ _ l0_11 false _ (cB HR0_11) HC0_11.out A6.out).mono ?_);rintro e w34 ⟨rfl,hb⟩;replace BK166:=Aside0.mk (bkb BK166 hb);replace HB:=Aside0.mk (below_step bG hb);(try clear hb)));try go_wp2_with (first|(go_at_call 84;(with_reducible refine (spec_HeadOk.calls k a0_0 a0_1 a0_2 a0_3 a0_4 true _ A4.out).mono ?_);rintro e w32 ⟨rfl,hb⟩;replace BK166:=Aside0.mk (bkb BK166 hb);replace HB:=Aside0.mk (below_step bG hb);(try clear hb);obtain ⟨z33_0,z33_1,z33_2,z33_3,z33_4,z33_5,z33_6,z33_7,z33_8,z33_9,z33_10,z33_11,z33_12,y33_0,y33_1,y33_2,y33_3,y33_4,y33_5,y33_6,y33_7,y33_8,y33_9,y33_10,y33_11,y33_12⟩:=blk13f BK166)|(go_at_call 85;(with_reducible refine (spec_RasterOk.calls k a0_7 a0_8 a0_9 a0_10 _ _ l0_11 false _ (cB HR0_11) HC0_11.out A6.out).mono ?_);rintro e w34 ⟨rfl,hb⟩;replace BK166:=Aside0.mk (bkb BK166 hb);replace HB:=Aside0.mk (below_step bG hb);(try clear hb))))
    go_meet
    case rel=>exact ⟨_,(true),fS,H',⟨by first|omega|exact Nat.le_refl _⟩,⟨by (with_reducible repeat (first|refine blk_drewN ?_ _|refine blk_drew ?_|refine blk_alloc ?_ _));exact BK166.out⟩,⟨bG⟩⟩
  ·obtain rfl:=bF c5
   rw [if_neg nF] at H
   have H':=Aside0.mk H
   clear H
   obtain ⟨z35_0,z35_1,z35_2,z35_3,z35_4,z35_5,z35_6,z35_7,z35_8,z35_9,z35_10,z35_11,z35_12,y35_0,y35_1,y35_2,y35_3,y35_4,y35_5,y35_6,y35_7,y35_8,y35_9,y35_10,y35_11,y35_12⟩:=blk13f BK166
   go_wp2_with (first|(go_at_call 84;(with_reducible refine (spec_HeadOk.calls k a0_0 a0_1 a0_2 a0_3 a0_4 false _ A4.out).mono ?_);rintro e w36 ⟨rfl,hb⟩;replace BK166:=Aside0.mk (bkb BK166 hb);replace HB:=Aside0.mk (below_step bG hb);(try clear hb)))
   repeat (go_quiet (first|(go_at_call 84;(with_reducible refine (spec_HeadOk.calls k a0_0 a0_1 a0_2 a0_3 a0_4 false _ A4.out).mono ?_);rintro e w36 ⟨rfl,hb⟩;replace BK166:=Aside0.mk (bkb BK166 hb);replace HB:=Aside0.mk (below_step bG hb);(try clear hb)));try go_wp2_with (first|(go_at_call 84;(with_reducible refine (spec_HeadOk.calls k a0_0 a0_1 a0_2 a0_3 a0_4 false _ A4.out).mono ?_);rintro e w36 ⟨rfl,hb⟩;replace BK166:=Aside0.mk (bkb BK166 hb);replace HB:=Aside0.mk (below_step bG hb);(try clear hb))))
   go_meet
   case rel=>exact ⟨_,(true),fS,H',⟨by first|omega|exact Nat.le_refl _⟩,⟨by (with_reducible repeat (first|refine blk_drewN ?_ _|refine blk_drew ?_|refine blk_alloc ?_ _));exact BK166.out⟩,⟨bG⟩⟩
 case rest =>
  clear HC2
  obtain ⟨kq,x51_1,rfl,HA,HJ1,BK166,HB⟩:=hcut
  cases kq with
  | zero=>exact absurd HA.out (by simp [spec_PngOk.j0])
  | succ kj1 =>
   have H:=HA.out
   clear HA
   simp only [spec_PngOk.j0] at H
   by_cases c37:x51_1=true
   ·subst c37
    rw [if_pos rfl] at H
    obtain rfl:=sI H
    go_wp2
    repeat (go_quiet (fail);try go_wp2)
    go_ret
    exact ⟨fE,bG⟩
   ·obtain rfl:=bF c37
    rw [if_neg nF] at H
    have HC38:=Aside0.mk H
    clear H
    go_upto_region 3 with (fail)
    repeat (go_quiet (fail);go_upto_region 3 with (fail))
    go_cut [66] (fun v66 wc=>∃ (kq:Nat) (x66_37:Bool),v66=.bool x66_37∧Aside0 (spec_PngOk.j1 kq x66_37 a0_0 a0_1 a0_2 a0_3 a0_4 l0_5 l0_6 a0_7 a0_8 a0_9 a0_10 l0_11 l0_12=some r)∧Aside0 (kq≤kj1)∧Aside0 (wc.heap[gb166]?=some (.cells #[.int .i64 a0_0,.int .i64 a0_1,.int .i64 a0_2,.int .i64 a0_3,.bool a0_4,(.slice A0_5 l0_5.length c0_5),(.slice A0_6 l0_6.length c0_6),.int .i64 a0_7,.int .i64 a0_8,.int .i64 a0_9,.int .i64 a0_10,(.slice A0_11 l0_11.length c0_11),(.slice A0_12 l0_12.length c0_12)] 37 (0,0)))∧Aside0 (Below w.heap.size w wc))
    case first =>
     have H:=HC38.out
     clear HC38
     obtain ⟨t169,A39,H⟩:=bS H
     try dsimp only at H
     by_cases c40:t169=true
     ·subst c40
      rw [if_pos rfl] at H
      obtain ⟨t170,A41,H⟩:=bS H
      try dsimp only at H
      have H':=Aside0.mk H
      clear H
      obtain ⟨z42_0,z42_1,z42_2,z42_3,z42_4,z42_5,z42_6,z42_7,z42_8,z42_9,z42_10,z42_11,z42_12,y42_0,y42_1,y42_2,y42_3,y42_4,y42_5,y42_6,y42_7,y42_8,y42_9,y42_10,y42_11,y42_12⟩:=blk13f BK166
      go_wp2_with (first|(go_at_call 86;(with_reducible refine (spec_ClearOk.calls kj1 a0_0 a0_1 a0_2 a0_3 a0_4 (l0_5.length:Int) _ _ l0_6 true _ (cB HR0_6) HC0_6.out A39.out).mono ?_);rintro e w43 ⟨rfl,hb⟩;replace BK166:=Aside0.mk (bkb BK166 hb);replace HB:=Aside0.mk (below_step bG hb);(try clear hb);obtain ⟨z44_0,z44_1,z44_2,z44_3,z44_4,z44_5,z44_6,z44_7,z44_8,z44_9,z44_10,z44_11,z44_12,y44_0,y44_1,y44_2,y44_3,y44_4,y44_5,y44_6,y44_7,y44_8,y44_9,y44_10,y44_11,y44_12⟩:=blk13f BK166)|(go_at_call 87;(with_reducible refine (spec_l18Kept.calls kj1 _ _ l0_12 t170 _ (cB HR0_12) HC0_12.out A41.out).mono ?_);rintro e w' ⟨rfl,⟨nd,rfl⟩⟩;(try first|exact ⟨rfl,_,World.drewN_drewN _ _ _⟩|exact ⟨rfl,_,Eq.trans (World.drewN_drewN _ _ _) (congrArg (World.drewN _) (Nat.add_assoc _ _ _))⟩)))
      repeat (go_quiet (first|(go_at_call 86;(with_reducible refine (spec_ClearOk.calls kj1 a0_0 a0_1 a0_2 a0_3 a0_4 (l0_5.length:Int) _ _ l0_6 true _ (cB HR0_6) HC0_6.out A39.out).mono ?_);rintro e w43 ⟨rfl,hb⟩;replace BK166:=Aside0.mk (bkb BK166 hb);replace HB:=Aside0.mk (below_step bG hb);(try clear hb);obtain ⟨z44_0,z44_1,z44_2,z44_3,z44_4,z44_5,z44_6,z44_7,z44_8,z44_9,z44_10,z44_11,z44_12,y44_0,y44_1,y44_2,y44_3,y44_4,y44_5,y44_6,y44_7,y44_8,y44_9,y44_10,y44_11,y44_12⟩:=blk13f BK166)|(go_at_call 87;(with_reducible refine (spec_l18Kept.calls kj1 _ _ l0_12 t170 _ (cB HR0_12) HC0_12.out A41.out).mono ?_);rintro e w' ⟨rfl,⟨nd,rfl⟩⟩;(try first|exact ⟨rfl,_,World.drewN_drewN _ _ _⟩|exact ⟨rfl,_,Eq.trans (World.drewN_drewN _ _ _) (congrArg (World.drewN _) (Nat.add_assoc _ _ _))⟩)));try go_wp2_with (first|(go_at_call 86;(with_reducible refine (spec_ClearOk.calls kj1 a0_0 a0_1 a0_2 a0_3 a0_4 (l0_5.length:Int) _ _ l0_6 true _ (cB HR0_6) HC0_6.out A39.out).mono ?_);rintro e w43 ⟨rfl,hb⟩;replace BK166:=Aside0.mk (bkb BK166 hb);replace HB:=Aside0.mk (below_step bG hb);(try clear hb);obtain ⟨z44_0,z44_1,z44_2,z44_3,z44_4,z44_5,z44_6,z44_7,z44_8,z44_9,z44_10,z44_11,z44_12,y44_0,y44_1,y44_2,y44_3,y44_4,y44_5,y44_6,y44_7,y44_8,y44_9,y44_10,y44_11,y44_12⟩:=blk13f BK166)|(go_at_call 87;(with_reducible refine (spec_l18Kept.calls kj1 _ _ l0_12 t170 _ (cB HR0_12) HC0_12.out A41.out).mono ?_);rintro e w' ⟨rfl,⟨nd,rfl⟩⟩;(try first|exact ⟨rfl,_,World.drewN_drewN _ _ _⟩|exact ⟨rfl,_,Eq.trans (World.drewN_drewN _ _ _) (congrArg (World.drewN _) (Nat.add_assoc _ _ _))⟩))))
      go_meet
      case rel=>exact ⟨_,(!t170),fS,H',⟨by have:=HJ1.out;first|omega|exact Nat.le_refl _⟩,⟨by (with_reducible repeat (first|refine blk_drewN ?_ _|refine blk_drew ?_|refine blk_alloc ?_ _));exact BK166.out⟩,⟨bG⟩⟩
     ·obtain rfl:=bF c40
      rw [if_neg nF] at H
      have H':=Aside0.mk H
      clear H
      obtain ⟨z45_0,z45_1,z45_2,z45_3,z45_4,z45_5,z45_6,z45_7,z45_8,z45_9,z45_10,z45_11,z45_12,y45_0,y45_1,y45_2,y45_3,y45_4,y45_5,y45_6,y45_7,y45_8,y45_9,y45_10,y45_11,y45_12⟩:=blk13f BK166
      go_wp2_with (first|(go_at_call 86;(with_reducible refine (spec_ClearOk.calls kj1 a0_0 a0_1 a0_2 a0_3 a0_4 (l0_5.length:Int) _ _ l0_6 false _ (cB HR0_6) HC0_6.out A39.out).mono ?_);rintro e w46 ⟨rfl,hb⟩;replace BK166:=Aside0.mk (bkb BK166 hb);replace HB:=Aside0.mk (below_step bG hb);(try clear hb)))
      repeat (go_quiet (first|(go_at_call 86;(with_reducible refine (spec_ClearOk.calls kj1 a0_0 a0_1 a0_2 a0_3 a0_4 (l0_5.length:Int) _ _ l0_6 false _ (cB HR0_6) HC0_6.out A39.out).mono ?_);rintro e w46 ⟨rfl,hb⟩;replace BK166:=Aside0.mk (bkb BK166 hb);replace HB:=Aside0.mk (below_step bG hb);(try clear hb)));try go_wp2_with (first|(go_at_call 86;(with_reducible refine (spec_ClearOk.calls kj1 a0_0 a0_1 a0_2 a0_3 a0_4 (l0_5.length:Int) _ _ l0_6 false _ (cB HR0_6) HC0_6.out A39.out).mono ?_);rintro e w46 ⟨rfl,hb⟩;replace BK166:=Aside0.mk (bkb BK166 hb);replace HB:=Aside0.mk (below_step bG hb);(try clear hb))))
      go_meet
      case rel=>exact ⟨_,(true),fS,H',⟨by have:=HJ1.out;first|omega|exact Nat.le_refl _⟩,⟨by (with_reducible repeat (first|refine blk_drewN ?_ _|refine blk_drew ?_|refine blk_alloc ?_ _));exact BK166.out⟩,⟨bG⟩⟩
    case rest =>
     clear HC38
     obtain ⟨kq,x66_37,rfl,HA,HJ37,BK166,HB⟩:=hcut
     cases kq with
     | zero=>exact absurd HA.out (by simp [spec_PngOk.j1])
     | succ kj37 =>
      have H:=HA.out
      clear HA
      simp only [spec_PngOk.j1] at H
      by_cases c47:x66_37=true
      ·subst c47
       rw [if_pos rfl] at H
       obtain rfl:=sI H
       go_wp2
       repeat (go_quiet (fail);try go_wp2)
       go_ret
       exact ⟨fE,bG⟩
      ·obtain rfl:=bF c47
       rw [if_neg nF] at H
       by_cases c48:a0_3=3
       ·rw [if_pos c48] at H
        have c48b0:(a0_3 == 3)=true:=beq_iff_eq.mpr c48
        have c48b1:(a0_3 != 3)=false:=bne_eq_false_iff_eq.mpr c48
        clear c48
        replace H:=Option.bind_eq_some_iff.mp H
        obtain ⟨⟨t171,t172⟩,A490,H⟩:=H
        try dsimp only at H
        have A49:=Aside0.mk A490
        clear A490
        have HC50:=Aside0.mk H
        clear H
        obtain ⟨z51_0,z51_1,z51_2,z51_3,z51_4,z51_5,z51_6,z51_7,z51_8,z51_9,z51_10,z51_11,z51_12,y51_0,y51_1,y51_2,y51_3,y51_4,y51_5,y51_6,y51_7,y51_8,y51_9,y51_10,y51_11,y51_12⟩:=blk13f BK166
        go_upto_region 8 with (first|(go_at_call 88;(with_reducible refine (spec_TableText.calls kj37 _ _ l0_5 t171 t172 _ (cB HR0_5) HC0_5.out A49.out).mono ?_);rintro e w52 ⟨rfl,hb⟩;replace BK166:=Aside0.mk (bkb BK166 hb);replace HB:=Aside0.mk (below_step bG hb);(try clear hb)))
        repeat (go_quiet (first|(go_at_call 88;(with_reducible refine (spec_TableText.calls kj37 _ _ l0_5 t171 t172 _ (cB HR0_5) HC0_5.out A49.out).mono ?_);rintro e w52 ⟨rfl,hb⟩;replace BK166:=Aside0.mk (bkb BK166 hb);replace HB:=Aside0.mk (below_step bG hb);(try clear hb)));go_upto_region 8 with (first|(go_at_call 88;(with_reducible refine (spec_TableText.calls kj37 _ _ l0_5 t171 t172 _ (cB HR0_5) HC0_5.out A49.out).mono ?_);rintro e w52 ⟨rfl,hb⟩;replace BK166:=Aside0.mk (bkb BK166 hb);replace HB:=Aside0.mk (below_step bG hb);(try clear hb))))
        (try simp only [Act.put,sA,sZ,sC])
        go_cut [92] (fun v92 wc=>∃ (kq:Nat) (x92_49:Bool),v92=.bool x92_49∧Aside0 (spec_PngOk.j2 kq x92_49 a0_0 a0_1 a0_2 a0_3 a0_4 l0_5 l0_6 a0_7 a0_8 a0_9 a0_10 l0_11 l0_12=some r)∧Aside0 (kq≤kj37)∧Aside0 (wc.heap[gb166]?=some (.cells #[.int .i64 a0_0,.int .i64 a0_1,.int .i64 a0_2,.int .i64 a0_3,.bool a0_4,(.slice A0_5 l0_5.length c0_5),(.slice A0_6 l0_6.length c0_6),.int .i64 a0_7,.int .i64 a0_8,.int .i64 a0_9,.int .i64 a0_10,(.slice A0_11 l0_11.length c0_11),(.slice A0_12 l0_12.length c0_12)] 37 (0,0)))∧Aside0 (Below w.heap.size w wc))
        case first =>
         have H:=HC50.out
         clear HC50
         by_cases c53:t172=true
         ·subst c53
          rw [if_pos rfl] at H
          obtain ⟨t173,A54,H⟩:=bS H
          try dsimp only at H
          have H':=Aside0.mk H
          clear H
          obtain ⟨z55_0,z55_1,z55_2,z55_3,z55_4,z55_5,z55_6,z55_7,z55_8,z55_9,z55_10,z55_11,z55_12,y55_0,y55_1,y55_2,y55_3,y55_4,y55_5,y55_6,y55_7,y55_8,y55_9,y55_10,y55_11,y55_12⟩:=blk13f BK166
          go_wp2_with (first|(go_at_call 82;(with_reducible refine (spec_l01Pow.calls kj37 a0_2 t173 _ A54.out).mono ?_);rintro e w' ⟨rfl,⟨nd,rfl⟩⟩;(try first|exact ⟨rfl,_,World.drewN_drewN _ _ _⟩|exact ⟨rfl,_,Eq.trans (World.drewN_drewN _ _ _) (congrArg (World.drewN _) (Nat.add_assoc _ _ _))⟩)))
          repeat (go_quiet (first|(go_at_call 82;(with_reducible refine (spec_l01Pow.calls kj37 a0_2 t173 _ A54.out).mono ?_);rintro e w' ⟨rfl,⟨nd,rfl⟩⟩;(try first|exact ⟨rfl,_,World.drewN_drewN _ _ _⟩|exact ⟨rfl,_,Eq.trans (World.drewN_drewN _ _ _) (congrArg (World.drewN _) (Nat.add_assoc _ _ _))⟩)));try go_wp2_with (first|(go_at_call 82;(with_reducible refine (spec_l01Pow.calls kj37 a0_2 t173 _ A54.out).mono ?_);rintro e w' ⟨rfl,⟨nd,rfl⟩⟩;(try first|exact ⟨rfl,_,World.drewN_drewN _ _ _⟩|exact ⟨rfl,_,Eq.trans (World.drewN_drewN _ _ _) (congrArg (World.drewN _) (Nat.add_assoc _ _ _))⟩))))
          go_meet
          case rel=>exact ⟨_,(decide ((l0_5.length:Int) > t173)),fS,H',⟨by have:=HJ1.out;have:=HJ37.out;first|omega|exact Nat.le_refl _⟩,⟨by (with_reducible repeat (first|refine blk_drewN ?_ _|refine blk_drew ?_|refine blk_alloc ?_ _));exact BK166.out⟩,⟨bG⟩⟩
         ·obtain rfl:=bF c53
          rw [if_neg nF] at H
          have H':=Aside0.mk H
          clear H
          go_wp2
          repeat (go_quiet (fail);try go_wp2)
          go_meet
          case rel=>exact ⟨_,(true),fS,H',⟨by have:=HJ1.out;have:=HJ37.out;first|omega|exact Nat.le_refl _⟩,⟨by (with_reducible repeat (first|refine blk_drewN ?_ _|refine blk_drew ?_|refine blk_alloc ?_ _));exact BK166.out⟩,⟨bG⟩⟩
        case rest =>
         clear HC50
         clear c48b0 c48b1 z51_0 z51_1 z51_10 z51_11 z51_12 z51_2 z51_3 z51_4 z51_5 z51_6 z51_7 z51_8 z51_9 y51_0 y51_1 y51_10 y51_11 y51_12 y51_2 y51_3 y51_4 y51_5 y51_6 y51_7 y51_8 y51_9
         obtain ⟨kq,x92_49,rfl,HA,HJ49,BK166,HB⟩:=hcut
         cases kq with
         | zero=>exact absurd HA.out (by simp [spec_PngOk.j2])
         | succ kj49 =>
          have H:=HA.out
          clear HA
          simp only [spec_PngOk.j2] at H
          by_cases c56:x92_49=true
          ·subst c56
           rw [if_pos rfl] at H
           obtain rfl:=sI H
           go_wp2
           repeat (go_quiet (fail);try go_wp2)
           go_ret
           exact ⟨fE,bG⟩
          ·obtain rfl:=bF c56
           rw [if_neg nF] at H
           have H':=Aside0.mk H
           clear H
           go_wp2
           repeat (go_quiet (fail);try go_wp2)
           go_loopg [5] kj49 (fun kq v5 w'=>∃ (x5_4:Int),v5=.int .i64 x5_4∧Aside0 (spec_PngOk.l0 kq x5_4 a0_0 a0_1 a0_2 a0_3 a0_4 l0_5 l0_6 a0_7 a0_8 a0_9 a0_10 l0_11 l0_12=some r)∧Aside0 (kq≤kj49)∧Aside0 (w'.heap[gb166]?=some (.cells #[.int .i64 a0_0,.int .i64 a0_1,.int .i64 a0_2,.int .i64 a0_3,.bool a0_4,(.slice A0_5 l0_5.length c0_5),(.slice A0_6 l0_6.length c0_6),.int .i64 a0_7,.int .i64 a0_8,.int .i64 a0_9,.int .i64 a0_10,(.slice A0_11 l0_11.length c0_11),(.slice A0_12 l0_12.length c0_12)] 37 (0,0)))∧Aside0 (Below w.heap.size w w'))
           case atStart=>exact ⟨(0),fS,H',⟨Nat.le_refl _⟩,⟨by (with_reducible repeat (first|refine blk_drewN ?_ _|refine blk_drew ?_|refine blk_alloc ?_ _));exact BK166.out⟩,⟨bG⟩⟩
           case round =>
            clear H'
            obtain ⟨x5_4,rfl,HA,HK4,BK166,HB⟩:=hrel
            cases gk with
            | zero=>exact absurd HA.out (by simp [spec_PngOk.l0])
            | succ k4 =>
             have H:=HA.out
             clear HA
             simp only [spec_PngOk.l0] at H
             by_cases c57:x5_4 < (l0_11.length:Int)
             ·rw [if_pos c57] at H
              have c57b0:decide (x5_4 < (l0_11.length:Int))=true:=decide_eq_true c57
              clear c57
              by_cases c58:0≤x5_4
              ·rw [if_pos c58] at H
               have c58b0:decide (0≤x5_4)=true:=decide_eq_true c58
               clear c58
               by_cases c59:(rd l0_11 x5_4)≥(l0_5.length:Int)
               ·rw [if_pos c59] at H
                have c59b0:decide ((l0_5.length:Int)≤(rd l0_11 x5_4))=true:=decide_eq_true c59
                clear c59
                obtain rfl:=sI H
                obtain ⟨z60_0,z60_1,z60_2,z60_3,z60_4,z60_5,z60_6,z60_7,z60_8,z60_9,z60_10,z60_11,z60_12,y60_0,y60_1,y60_2,y60_3,y60_4,y60_5,y60_6,y60_7,y60_8,y60_9,y60_10,y60_11,y60_12⟩:=blk13f BK166
                have p174:0≤(x5_4:Int):=oD
                have q174:x5_4 < (l0_11.length:Int):=oD
                obtain ⟨ad174,e174,hx174_0⟩:=Kd.at_int HR0_11.out x5_4 p174 q174
                cases e174
                replace hx174_0:=(HB.out.cell (World.block_lt_of_cell? w _ hx174_0)).trans hx174_0
                replace p174:=eq_true p174
                replace q174:=eq_true q174
                go_wp2
                repeat (go_quiet (fail);try go_wp2)
                go_ret
                exact ⟨fE,bG⟩
               ·rw [if_neg c59] at H
                have c59b0:decide ((l0_5.length:Int)≤(rd l0_11 x5_4))=false:=decide_eq_false c59
                clear c59
                have H':=Aside0.mk H
                clear H
                obtain ⟨z61_0,z61_1,z61_2,z61_3,z61_4,z61_5,z61_6,z61_7,z61_8,z61_9,z61_10,z61_11,z61_12,y61_0,y61_1,y61_2,y61_3,y61_4,y61_5,y61_6,y61_7,y61_8,y61_9,y61_10,y61_11,y61_12⟩:=blk13f BK166
                have p174:0≤(x5_4:Int):=oD
                have q174:x5_4 < (l0_11.length:Int):=oD
                obtain ⟨ad174,e174,hx174_0⟩:=Kd.at_int HR0_11.out x5_4 p174 q174
                cases e174
                replace hx174_0:=(HB.out.cell (World.block_lt_of_cell? w _ hx174_0)).trans hx174_0
                replace p174:=eq_true p174
                replace q174:=eq_true q174
                go_wp2
                repeat (go_quiet (fail);try go_wp2)
                go_roundg k4
                case measure=>have:=HJ1.out;have:=HJ37.out;have:=HJ49.out;have:=HK4.out;omega
                case rel=>exact ⟨(wrap64 (x5_4+1)),fS,H',⟨by have:=HJ1.out;have:=HJ37.out;have:=HJ49.out;have:=HK4.out;omega⟩,⟨by (with_reducible repeat (first|refine blk_drewN ?_ _|refine blk_drew ?_|refine blk_alloc ?_ _));exact BK166.out⟩,⟨bG⟩⟩
              ·rw [if_neg c58] at H
               exact absurd H (by simp)
             ·rw [if_neg c57] at H
              have c57b0:decide (x5_4 < (l0_11.length:Int))=false:=decide_eq_false c57
              clear c57
              obtain rfl:=sI H
              obtain ⟨z62_0,z62_1,z62_2,z62_3,z62_4,z62_5,z62_6,z62_7,z62_8,z62_9,z62_10,z62_11,z62_12,y62_0,y62_1,y62_2,y62_3,y62_4,y62_5,y62_6,y62_7,y62_8,y62_9,y62_10,y62_11,y62_12⟩:=blk13f BK166
              go_wp2
              repeat (go_quiet (fail);try go_wp2)
              go_ret
              exact ⟨fE,bG⟩
       ·rw [if_neg c48] at H
        have c48b0:(a0_3 == 3)=false:=beq_eq_false_iff_ne.mpr c48
        have c48b1:(a0_3 != 3)=true:=bne_iff_ne.mpr c48
        obtain rfl:=sI H
        obtain ⟨z63_0,z63_1,z63_2,z63_3,z63_4,z63_5,z63_6,z63_7,z63_8,z63_9,z63_10,z63_11,z63_12,y63_0,y63_1,y63_2,y63_3,y63_4,y63_5,y63_6,y63_7,y63_8,y63_9,y63_10,y63_11,y63_12⟩:=blk13f BK166
        go_wp2
        repeat (go_quiet (fail);try go_wp2)
        go_ret
        exact ⟨fE,bG⟩
end Go.Proofs.Ytjpfhldklbgdcaa.Ld
