import Derived.Test.YtjpfhldklbgdcaaLdx0
import Derived.Test.YtjpfhldklbgdcaaLdx2
import Derived.Test.YtjpfhldklbgdcaaLdx7
import Derived.Test.YtjpfhldklbgdcaaLdx8
set_option maxHeartbeats 8000000
set_option maxRecDepth 100000
namespace Go.Proofs.Ytjpfhldklbgdcaa.Ld
open Go.RowKit Go.Proofs.Ytjpfhldklbgdcaa.Sq Go.Proofs.YtjpfhldklbgdcaaW.PrintWords Go.Proofs.YtjpfhldklbgdcaaW.PrintLast Go.Proofs.YtjpfhldklbgdcaaW.PrintMore
attribute [local go_sem] max2_int min2_int max_two min_two max_three min_three max_four min_four   -- for this text's walks alone
set_option linter.unusedVariables false
set_option linter.unusedSimpArgs false
def spec_LessDepth.j0:Nat→Bool→Int→Int→Int→Int→Bool→List (S95)→List Int→Int→Int→Int→Int→List Int→List (S83)→Option (Int×Int×Int×Int×Bool×(List (S95))×List Int×Int×Int×Int×Int×List Int×(List (S83))×Bool)
 | 0,_,_,_,_,_,_,_,_,_,_,_,_,_,_=>none
 | k+1,x20,x199000,x199001,x199002,x199003,x199004,x199005,x199006,x199007,x199008,x199009,x199010,x199011,x199012=>if x20=true then (some (0,0,0,0,false,([]:List (S95)),([]:List Int),0,0,0,0,([]:List Int),([]:List (S83)),false)) else ((spec_l19Divided.f k x199011 257).bind fun bt202=>((spec_l19Divided.f k x199006 257).bind fun bt206=>(if bt202.2=true then (if bt206.2=true then ((spec_l19With.f x199000 x199001 x199002 x199003 x199004 x199005 x199006 x199007 x199008 x199009 x199010 x199011 x199012 x199003 8 bt202.1 bt206.1).bind fun bt210=>(some (bt210.1,bt210.2.1,bt210.2.2.1,bt210.2.2.2.1,bt210.2.2.2.2.1,bt210.2.2.2.2.2.1,bt210.2.2.2.2.2.2.1,bt210.2.2.2.2.2.2.2.1,bt210.2.2.2.2.2.2.2.2.1,bt210.2.2.2.2.2.2.2.2.2.1,bt210.2.2.2.2.2.2.2.2.2.2.1,bt210.2.2.2.2.2.2.2.2.2.2.2.1,bt210.2.2.2.2.2.2.2.2.2.2.2.2,true))) else (some (0,0,0,0,false,([]:List (S95)),([]:List Int),0,0,0,0,([]:List Int),([]:List (S83)),false))) else (some (0,0,0,0,false,([]:List (S95)),([]:List Int),0,0,0,0,([]:List Int),([]:List (S83)),false)))))
def spec_LessDepth.f (k:Nat) (a0_0:Int) (a0_1:Int) (a0_2:Int) (a0_3:Int) (a0_4:Bool) (l0_5:List (S95)) (l0_6:List Int) (a0_7:Int) (a0_8:Int) (a0_9:Int) (a0_10:Int) (l0_11:List Int) (l0_12:List (S83)):Option (Int×Int×Int×Int×Bool×(List (S95))×List Int×Int×Int×Int×Int×List Int×(List (S83))×Bool):=(spec_PngOk.f k a0_0 a0_1 a0_2 a0_3 a0_4 l0_5 l0_6 a0_7 a0_8 a0_9 a0_10 l0_11 l0_12).bind fun t200=>(if t200=true then ((spec_Touchy.f k a0_0 a0_1 a0_2 a0_3 a0_4 l0_5 l0_6 a0_7 a0_8 a0_9 a0_10 l0_11 l0_12).bind fun t201=>(if t201=true then (spec_LessDepth.j0 k true a0_0 a0_1 a0_2 a0_3 a0_4 l0_5 l0_6 a0_7 a0_8 a0_9 a0_10 l0_11 l0_12) else (spec_LessDepth.j0 k (a0_2 != 16) a0_0 a0_1 a0_2 a0_3 a0_4 l0_5 l0_6 a0_7 a0_8 a0_9 a0_10 l0_11 l0_12))) else (spec_LessDepth.j0 k true a0_0 a0_1 a0_2 a0_3 a0_4 l0_5 l0_6 a0_7 a0_8 a0_9 a0_10 l0_11 l0_12))
theorem spec_LessDepth.mono_l:∀ k,(∀ y0 y1 y2 y3 y4 y5 y6 y7 y8 y9 y10 y11 y12 y13,LeO (spec_LessDepth.j0 k y0 y1 y2 y3 y4 y5 y6 y7 y8 y9 y10 y11 y12 y13) (spec_LessDepth.j0 (k+1) y0 y1 y2 y3 y4 y5 y6 y7 y8 y9 y10 y11 y12 y13))
 | 0=>fun _ _ _ _ _ _ _ _ _ _ _ _ _ _ r h=>by simp [spec_LessDepth.j0] at h
 | k+1=>by
  have ih0:=spec_LessDepth.mono_l k
  ·intro y0 y1 y2 y3 y4 y5 y6 y7 y8 y9 y10 y11 y12 y13
   unfold spec_LessDepth.j0
   repeat' first
   | (with_reducible exact ih0 _ _ _ _ _ _ _ _ _ _ _ _ _ _)
   | (with_reducible exact spec_PngOk.mono _ _ _ _ _ _ _ _ _ _ _ _ _ _)
   | (with_reducible exact spec_Touchy.mono _ _ _ _ _ _ _ _ _ _ _ _ _ _)
   | (with_reducible exact spec_l19Divided.mono _ _ _)
   | (with_reducible exact LeO.refl _)
   | (with_reducible exact LeO.none _)
   | (with_reducible refine LeO.ite ?_ ?_)
   | (with_reducible refine LeO.bind ?_ (fun _=>?_))
   | exact ih0 _ _ _ _ _ _ _ _ _ _ _ _ _ _
   | exact spec_PngOk.mono _ _ _ _ _ _ _ _ _ _ _ _ _ _
   | exact spec_Touchy.mono _ _ _ _ _ _ _ _ _ _ _ _ _ _
   | exact spec_l19Divided.mono _ _ _
   | exact LeO.none _
   | refine LeO.ite ?_ ?_
   | refine LeO.bind ?_ (fun _=>?_)
theorem spec_LessDepth.mono:∀ a0 a1 a2 a3 a4 a5 a6 a7 a8 a9 a10 a11 a12 k,LeO (spec_LessDepth.f k a0 a1 a2 a3 a4 a5 a6 a7 a8 a9 a10 a11 a12) (spec_LessDepth.f (k+1) a0 a1 a2 a3 a4 a5 a6 a7 a8 a9 a10 a11 a12):=by
 intro a0 a1 a2 a3 a4 a5 a6 a7 a8 a9 a10 a11 a12 k
 have ih0:=spec_LessDepth.mono_l k
 unfold spec_LessDepth.f
 repeat' first
   | (with_reducible exact ih0 _ _ _ _ _ _ _ _ _ _ _ _ _ _)
   | (with_reducible exact spec_PngOk.mono _ _ _ _ _ _ _ _ _ _ _ _ _ _)
   | (with_reducible exact spec_Touchy.mono _ _ _ _ _ _ _ _ _ _ _ _ _ _)
   | (with_reducible exact spec_l19Divided.mono _ _ _)
   | (with_reducible exact LeO.refl _)
   | (with_reducible exact LeO.none _)
   | (with_reducible refine LeO.ite ?_ ?_)
   | (with_reducible refine LeO.bind ?_ (fun _=>?_))
   | exact ih0 _ _ _ _ _ _ _ _ _ _ _ _ _ _
   | exact spec_PngOk.mono _ _ _ _ _ _ _ _ _ _ _ _ _ _
   | exact spec_Touchy.mono _ _ _ _ _ _ _ _ _ _ _ _ _ _
   | exact spec_l19Divided.mono _ _ _
   | exact LeO.none _
   | refine LeO.ite ?_ ?_
   | refine LeO.bind ?_ (fun _=>?_)
theorem spec_LessDepth.calls (k:Nat) (a0_0:Int) (a0_1:Int) (a0_2:Int) (a0_3:Int) (a0_4:Bool) (A0_5:Option Addr) (c0_5:Nat) (l0_5:List (S95)) (A0_6:Option Addr) (c0_6:Nat) (l0_6:List Int) (a0_7:Int) (a0_8:Int) (a0_9:Int) (a0_10:Int) (A0_11:Option Addr) (c0_11:Nat) (l0_11:List Int) (A0_12:Option Addr) (c0_12:Nat) (l0_12:List (S83)) (r1:Int) (r2:Int) (r3:Int) (r4:Int) (r5:Bool) (r6:List (S95)) (r7:List Int) (r8:Int) (r9:Int) (r10:Int) (r11:Int) (r12:List Int) (r13:List (S83)) (r14:Bool) (w:World) (hr0_5:Kd.C k95 w A0_5 l0_5.length l0_5) (hc0_5:l0_5.length≤c0_5) (hr0_6:Kd.C (Kd.int .i64) w A0_6 l0_6.length l0_6) (hc0_6:l0_6.length≤c0_6) (hr0_11:Kd.C (Kd.int .i64) w A0_11 l0_11.length l0_11) (hc0_11:l0_11.length≤c0_11) (hr0_12:Kd.C k83 w A0_12 l0_12.length l0_12) (hc0_12:l0_12.length≤c0_12) (h:spec_LessDepth.f k a0_0 a0_1 a0_2 a0_3 a0_4 l0_5 l0_6 a0_7 a0_8 a0_9 a0_10 l0_11 l0_12=some (r1,r2,r3,r4,r5,r6,r7,r8,r9,r10,r11,r12,r13,r14)):
  Calls Try.prog 10 #[.agg #[.int .i64 a0_0,.int .i64 a0_1,.int .i64 a0_2,.int .i64 a0_3,.bool a0_4,.slice A0_5 l0_5.length c0_5,.slice A0_6 l0_6.length c0_6,.int .i64 a0_7,.int .i64 a0_8,.int .i64 a0_9,.int .i64 a0_10,.slice A0_11 l0_11.length c0_11,.slice A0_12 l0_12.length c0_12]] w fun e w'=>∃ v5_ v6_ v11_ v12_:Value,e=.returned (.tuple #[.agg #[.int .i64 r1,.int .i64 r2,.int .i64 r3,.int .i64 r4,.bool r5,v5_,v6_,.int .i64 r8,.int .i64 r9,.int .i64 r10,.int .i64 r11,v11_,v12_],.bool r14])∧Kd.R k95 95 w' w.heap.size (fun _=>True) v5_ r6∧Kd.R (Kd.int .i64) 3 w' w.heap.size (fun k_=>some k_≠(v11_:Value).ownBlock) v6_ r7∧Kd.R (Kd.int .i64) 3 w' w.heap.size (fun k_=>some k_≠(v6_:Value).ownBlock) v11_ r12∧Kd.R k83 83 w' w.heap.size (fun _=>True) v12_ r13∧Below w.heap.size w w':=by
 have hu37:=Try.underlying37
 have HR0_5:=Aside0.mk hr0_5
 have HC0_5:=Aside0.mk hc0_5
 clear hr0_5 hc0_5
 have HR0_6:=Aside0.mk hr0_6
 have HC0_6:=Aside0.mk hc0_6
 clear hr0_6 hc0_6
 have HR0_11:=Aside0.mk hr0_11
 have HC0_11:=Aside0.mk hc0_11
 clear hr0_11 hc0_11
 have HR0_12:=Aside0.mk hr0_12
 have HC0_12:=Aside0.mk hc0_12
 clear hr0_12 hc0_12
 have HB:=Aside0.mk (Below.refl w.heap.size w)
 have H:((spec_PngOk.f k a0_0 a0_1 a0_2 a0_3 a0_4 l0_5 l0_6 a0_7 a0_8 a0_9 a0_10 l0_11 l0_12).bind fun t200=>(if t200=true then ((spec_Touchy.f k a0_0 a0_1 a0_2 a0_3 a0_4 l0_5 l0_6 a0_7 a0_8 a0_9 a0_10 l0_11 l0_12).bind fun t201=>(if t201=true then (spec_LessDepth.j0 k true a0_0 a0_1 a0_2 a0_3 a0_4 l0_5 l0_6 a0_7 a0_8 a0_9 a0_10 l0_11 l0_12) else (spec_LessDepth.j0 k (a0_2 != 16) a0_0 a0_1 a0_2 a0_3 a0_4 l0_5 l0_6 a0_7 a0_8 a0_9 a0_10 l0_11 l0_12))) else (spec_LessDepth.j0 k true a0_0 a0_1 a0_2 a0_3 a0_4 l0_5 l0_6 a0_7 a0_8 a0_9 a0_10 l0_11 l0_12)))=some (r1,r2,r3,r4,r5,r6,r7,r8,r9,r10,r11,r12,r13,r14):=h
 clear h
 have HC2:=Aside0.mk H
 clear H
 go_enter Try.func10,Try.ntmps10
 go_upto_region 1 with (first|((with_reducible refine gate_dst (N:=1) rfl ?_);refine boxE 1 (#[.int .i64 a0_0,.int .i64 a0_1,.int .i64 a0_2,.int .i64 a0_3,.bool a0_4,.slice A0_5 l0_5.length c0_5,.slice A0_6 l0_6.length c0_6,.int .i64 a0_7,.int .i64 a0_8,.int .i64 a0_9,.int .i64 a0_10,.slice A0_11 l0_11.length c0_11,.slice A0_12 l0_12.length c0_12]) 37 ?_;intro gb198 hg w3 hbox hb;have BK198:=Aside0.mk hbox;have GW198:=(gwH (w:=w) hg);have GE198:=(gwH (w:=w) hg);replace HB:=Aside0.mk (below_step bH hb);clear hb hbox hg)|((with_reducible refine gate_dst (N:=2) rfl ?_);refine boxE 2 (#[.int .i64 0,.int .i64 0,.int .i64 0,.int .i64 0,.bool false,.slice none 0 0,.slice none 0 0,.int .i64 0,.int .i64 0,.int .i64 0,.int .i64 0,.slice none 0 0,.slice none 0 0]) 37 ?_;intro gb199 hg w4 hbox hb;have n0_:=Aside0.mk (bkb BK198 hb);have n1_:=Aside0.mk (below_step bG hb);have n2_:=Aside0.mk hbox;have n3_:=(gwG (w:=w) hg);have n4_:=(gwG (w:=w) hg);have n5_:=(nbl BK198 hg);have n6_:=(nbg BK198 hg);clear BK198;clear HB;have BK198:=n0_;have HB:=n1_;have BK199:=n2_;have GW199:=n3_;have GE199:=n4_;have NB198_199:=n5_;have NB199_198:=n6_;clear n0_ n1_ n2_ n3_ n4_ n5_ n6_;clear hb hbox hg))
 (try simp only [Act.put,sA,sZ,sC])
 go_cut [20] (fun v20 wc=>∃ (kq:Nat) (x20_1:Bool),v20=.bool x20_1∧Aside0 (spec_LessDepth.j0 kq x20_1 a0_0 a0_1 a0_2 a0_3 a0_4 l0_5 l0_6 a0_7 a0_8 a0_9 a0_10 l0_11 l0_12=some (r1,r2,r3,r4,r5,r6,r7,r8,r9,r10,r11,r12,r13,r14))∧Aside0 (kq≤k)∧Aside0 (wc.heap[gb198]?=some (.cells #[.int .i64 a0_0,.int .i64 a0_1,.int .i64 a0_2,.int .i64 a0_3,.bool a0_4,(.slice A0_5 l0_5.length c0_5),(.slice A0_6 l0_6.length c0_6),.int .i64 a0_7,.int .i64 a0_8,.int .i64 a0_9,.int .i64 a0_10,(.slice A0_11 l0_11.length c0_11),(.slice A0_12 l0_12.length c0_12)] 37 (0,0)))∧Aside0 (wc.heap[gb199]?=some (.cells #[.int .i64 0,.int .i64 0,.int .i64 0,.int .i64 0,.bool false,(.slice none 0 0),(.slice none 0 0),.int .i64 0,.int .i64 0,.int .i64 0,.int .i64 0,(.slice none 0 0),(.slice none 0 0)] 37 (0,0)))∧Aside0 (Below w.heap.size w wc))
 case first =>
  have H:=HC2.out
  clear HC2
  replace H:=Option.bind_eq_some_iff.mp H
  obtain ⟨t200,A50,H⟩:=H
  replace H:(if t200=true then ((spec_Touchy.f k a0_0 a0_1 a0_2 a0_3 a0_4 l0_5 l0_6 a0_7 a0_8 a0_9 a0_10 l0_11 l0_12).bind fun t201=>(if t201=true then (spec_LessDepth.j0 k true a0_0 a0_1 a0_2 a0_3 a0_4 l0_5 l0_6 a0_7 a0_8 a0_9 a0_10 l0_11 l0_12) else (spec_LessDepth.j0 k (a0_2 != 16) a0_0 a0_1 a0_2 a0_3 a0_4 l0_5 l0_6 a0_7 a0_8 a0_9 a0_10 l0_11 l0_12))) else (spec_LessDepth.j0 k true a0_0 a0_1 a0_2 a0_3 a0_4 l0_5 l0_6 a0_7 a0_8 a0_9 a0_10 l0_11 l0_12))=some (r1,r2,r3,r4,r5,r6,r7,r8,r9,r10,r11,r12,r13,r14):=H
  have A5:=Aside0.mk A50
  clear A50
  by_cases c6:t200=true
  ·subst c6
   have H1:((spec_Touchy.f k a0_0 a0_1 a0_2 a0_3 a0_4 l0_5 l0_6 a0_7 a0_8 a0_9 a0_10 l0_11 l0_12).bind fun t201=>(if t201=true then (spec_LessDepth.j0 k true a0_0 a0_1 a0_2 a0_3 a0_4 l0_5 l0_6 a0_7 a0_8 a0_9 a0_10 l0_11 l0_12) else (spec_LessDepth.j0 k (a0_2 != 16) a0_0 a0_1 a0_2 a0_3 a0_4 l0_5 l0_6 a0_7 a0_8 a0_9 a0_10 l0_11 l0_12)))=some (r1,r2,r3,r4,r5,r6,r7,r8,r9,r10,r11,r12,r13,r14):=by rw [if_pos rfl] at H;exact H
   clear H
   have H:=H1
   clear H1
   replace H:=Option.bind_eq_some_iff.mp H
   obtain ⟨t201,A70,H⟩:=H
   replace H:(if t201=true then (spec_LessDepth.j0 k true a0_0 a0_1 a0_2 a0_3 a0_4 l0_5 l0_6 a0_7 a0_8 a0_9 a0_10 l0_11 l0_12) else (spec_LessDepth.j0 k (a0_2 != 16) a0_0 a0_1 a0_2 a0_3 a0_4 l0_5 l0_6 a0_7 a0_8 a0_9 a0_10 l0_11 l0_12))=some (r1,r2,r3,r4,r5,r6,r7,r8,r9,r10,r11,r12,r13,r14):=H
   have A7:=Aside0.mk A70
   clear A70
   by_cases c8:t201=true
   ·subst c8
    have H1:(spec_LessDepth.j0 k true a0_0 a0_1 a0_2 a0_3 a0_4 l0_5 l0_6 a0_7 a0_8 a0_9 a0_10 l0_11 l0_12)=some (r1,r2,r3,r4,r5,r6,r7,r8,r9,r10,r11,r12,r13,r14):=by rw [if_pos rfl] at H;exact H
    clear H
    have H:=H1
    clear H1
    have H':=Aside0.mk H
    clear H
    have hnb9:=NB198_199.out
    have hnc9:=NB199_198.out
    obtain ⟨z10_0,z10_1,z10_2,z10_3,z10_4,z10_5,z10_6,z10_7,z10_8,z10_9,z10_10,z10_11,z10_12,y10_0,y10_1,y10_2,y10_3,y10_4,y10_5,y10_6,y10_7,y10_8,y10_9,y10_10,y10_11,y10_12⟩:=blk13f BK198
    go_wp2_with (first|((with_reducible refine gate_callee (f:=37) rfl ?_);refine gL (some 9) Try.func37 #[.agg #[.int .i64 a0_0,.int .i64 a0_1,.int .i64 a0_2,.int .i64 a0_3,.bool a0_4,.slice A0_5 l0_5.length c0_5,.slice A0_6 l0_6.length c0_6,.int .i64 a0_7,.int .i64 a0_8,.int .i64 a0_9,.int .i64 a0_10,.slice A0_11 l0_11.length c0_11,.slice A0_12 l0_12.length c0_12]] ?_;(with_reducible refine (spec_PngOk.calls k a0_0 a0_1 a0_2 a0_3 a0_4 _ _ l0_5 _ _ l0_6 a0_7 a0_8 a0_9 a0_10 _ _ l0_11 _ _ l0_12 true _ (cB HR0_5) HC0_5.out (cB HR0_6) HC0_6.out (cB HR0_11) HC0_11.out (cB HR0_12) HC0_12.out A5.out).mono ?_);rintro e w11 ⟨rfl,hb⟩;refine ⟨_,rfl,?_⟩;replace BK198:=Aside0.mk (bkb BK198 hb);replace BK199:=Aside0.mk (bkb BK199 hb);replace HB:=Aside0.mk (below_step bG hb);(try clear hb);obtain ⟨z12_0,z12_1,z12_2,z12_3,z12_4,z12_5,z12_6,z12_7,z12_8,z12_9,z12_10,z12_11,z12_12,y12_0,y12_1,y12_2,y12_3,y12_4,y12_5,y12_6,y12_7,y12_8,y12_9,y12_10,y12_11,y12_12⟩:=blk13f BK198)|(go_at_call 28;(with_reducible refine (spec_Touchy.calls k a0_0 a0_1 a0_2 a0_3 a0_4 _ _ l0_5 _ _ l0_6 a0_7 a0_8 a0_9 a0_10 _ _ l0_11 _ _ l0_12 true _ (cB HR0_5) HC0_5.out (cB HR0_6) HC0_6.out (cB HR0_11) HC0_11.out (cB HR0_12) HC0_12.out A7.out).mono ?_);rintro e w13 ⟨rfl,hb⟩;replace BK198:=Aside0.mk (bkb BK198 hb);replace BK199:=Aside0.mk (bkb BK199 hb);replace HB:=Aside0.mk (below_step bG hb);(try clear hb)))
    go_meet
    case rel=>exact ⟨_,(true),fS,H',⟨by first|omega|exact Nat.le_refl _⟩,⟨by (with_reducible repeat (first|refine blk_drewN ?_ _|refine blk_drew ?_|refine blk_alloc ?_ _));exact BK198.out⟩,⟨by (with_reducible repeat (first|refine blk_drewN ?_ _|refine blk_drew ?_|refine blk_alloc ?_ _));exact BK199.out⟩,⟨bG⟩⟩
   ·obtain rfl:=bF c8
    have H1:(spec_LessDepth.j0 k (a0_2 != 16) a0_0 a0_1 a0_2 a0_3 a0_4 l0_5 l0_6 a0_7 a0_8 a0_9 a0_10 l0_11 l0_12)=some (r1,r2,r3,r4,r5,r6,r7,r8,r9,r10,r11,r12,r13,r14):=by rw [if_neg nF] at H;exact H
    clear H
    have H:=H1
    clear H1
    have H':=Aside0.mk H
    clear H
    have hnb14:=NB198_199.out
    have hnc14:=NB199_198.out
    obtain ⟨z15_0,z15_1,z15_2,z15_3,z15_4,z15_5,z15_6,z15_7,z15_8,z15_9,z15_10,z15_11,z15_12,y15_0,y15_1,y15_2,y15_3,y15_4,y15_5,y15_6,y15_7,y15_8,y15_9,y15_10,y15_11,y15_12⟩:=blk13f BK198
    go_wp2_with (first|((with_reducible refine gate_callee (f:=37) rfl ?_);refine gL (some 9) Try.func37 #[.agg #[.int .i64 a0_0,.int .i64 a0_1,.int .i64 a0_2,.int .i64 a0_3,.bool a0_4,.slice A0_5 l0_5.length c0_5,.slice A0_6 l0_6.length c0_6,.int .i64 a0_7,.int .i64 a0_8,.int .i64 a0_9,.int .i64 a0_10,.slice A0_11 l0_11.length c0_11,.slice A0_12 l0_12.length c0_12]] ?_;(with_reducible refine (spec_PngOk.calls k a0_0 a0_1 a0_2 a0_3 a0_4 _ _ l0_5 _ _ l0_6 a0_7 a0_8 a0_9 a0_10 _ _ l0_11 _ _ l0_12 true _ (cB HR0_5) HC0_5.out (cB HR0_6) HC0_6.out (cB HR0_11) HC0_11.out (cB HR0_12) HC0_12.out A5.out).mono ?_);rintro e w16 ⟨rfl,hb⟩;refine ⟨_,rfl,?_⟩;replace BK198:=Aside0.mk (bkb BK198 hb);replace BK199:=Aside0.mk (bkb BK199 hb);replace HB:=Aside0.mk (below_step bG hb);(try clear hb);obtain ⟨z17_0,z17_1,z17_2,z17_3,z17_4,z17_5,z17_6,z17_7,z17_8,z17_9,z17_10,z17_11,z17_12,y17_0,y17_1,y17_2,y17_3,y17_4,y17_5,y17_6,y17_7,y17_8,y17_9,y17_10,y17_11,y17_12⟩:=blk13f BK198)|(go_at_call 28;(with_reducible refine (spec_Touchy.calls k a0_0 a0_1 a0_2 a0_3 a0_4 _ _ l0_5 _ _ l0_6 a0_7 a0_8 a0_9 a0_10 _ _ l0_11 _ _ l0_12 false _ (cB HR0_5) HC0_5.out (cB HR0_6) HC0_6.out (cB HR0_11) HC0_11.out (cB HR0_12) HC0_12.out A7.out).mono ?_);rintro e w18 ⟨rfl,hb⟩;replace BK198:=Aside0.mk (bkb BK198 hb);replace BK199:=Aside0.mk (bkb BK199 hb);replace HB:=Aside0.mk (below_step bG hb);(try clear hb);obtain ⟨z19_0,z19_1,z19_2,z19_3,z19_4,z19_5,z19_6,z19_7,z19_8,z19_9,z19_10,z19_11,z19_12,y19_0,y19_1,y19_2,y19_3,y19_4,y19_5,y19_6,y19_7,y19_8,y19_9,y19_10,y19_11,y19_12⟩:=blk13f BK198))
    go_meet
    case rel=>exact ⟨_,((a0_2 != 16)),fS,H',⟨by first|omega|exact Nat.le_refl _⟩,⟨by (with_reducible repeat (first|refine blk_drewN ?_ _|refine blk_drew ?_|refine blk_alloc ?_ _));exact BK198.out⟩,⟨by (with_reducible repeat (first|refine blk_drewN ?_ _|refine blk_drew ?_|refine blk_alloc ?_ _));exact BK199.out⟩,⟨bG⟩⟩
  ·obtain rfl:=bF c6
   have H1:(spec_LessDepth.j0 k true a0_0 a0_1 a0_2 a0_3 a0_4 l0_5 l0_6 a0_7 a0_8 a0_9 a0_10 l0_11 l0_12)=some (r1,r2,r3,r4,r5,r6,r7,r8,r9,r10,r11,r12,r13,r14):=by rw [if_neg nF] at H;exact H
   clear H
   have H:=H1
   clear H1
   have H':=Aside0.mk H
   clear H
   have hnb20:=NB198_199.out
   have hnc20:=NB199_198.out
   obtain ⟨z21_0,z21_1,z21_2,z21_3,z21_4,z21_5,z21_6,z21_7,z21_8,z21_9,z21_10,z21_11,z21_12,y21_0,y21_1,y21_2,y21_3,y21_4,y21_5,y21_6,y21_7,y21_8,y21_9,y21_10,y21_11,y21_12⟩:=blk13f BK198
   go_wp2_with (first|((with_reducible refine gate_callee (f:=37) rfl ?_);refine gL (some 9) Try.func37 #[.agg #[.int .i64 a0_0,.int .i64 a0_1,.int .i64 a0_2,.int .i64 a0_3,.bool a0_4,.slice A0_5 l0_5.length c0_5,.slice A0_6 l0_6.length c0_6,.int .i64 a0_7,.int .i64 a0_8,.int .i64 a0_9,.int .i64 a0_10,.slice A0_11 l0_11.length c0_11,.slice A0_12 l0_12.length c0_12]] ?_;(with_reducible refine (spec_PngOk.calls k a0_0 a0_1 a0_2 a0_3 a0_4 _ _ l0_5 _ _ l0_6 a0_7 a0_8 a0_9 a0_10 _ _ l0_11 _ _ l0_12 false _ (cB HR0_5) HC0_5.out (cB HR0_6) HC0_6.out (cB HR0_11) HC0_11.out (cB HR0_12) HC0_12.out A5.out).mono ?_);rintro e w22 ⟨rfl,hb⟩;refine ⟨_,rfl,?_⟩;replace BK198:=Aside0.mk (bkb BK198 hb);replace BK199:=Aside0.mk (bkb BK199 hb);replace HB:=Aside0.mk (below_step bG hb);(try clear hb)))
   go_meet
   case rel=>exact ⟨_,(true),fS,H',⟨by first|omega|exact Nat.le_refl _⟩,⟨by (with_reducible repeat (first|refine blk_drewN ?_ _|refine blk_drew ?_|refine blk_alloc ?_ _));exact BK198.out⟩,⟨by (with_reducible repeat (first|refine blk_drewN ?_ _|refine blk_drew ?_|refine blk_alloc ?_ _));exact BK199.out⟩,⟨bG⟩⟩
 case rest =>
  clear HC2
  obtain ⟨kq,x20_1,rfl,HA,HJ1,BK198,BK199,HB⟩:=hcut
  cases kq with
  | zero=>exact absurd HA.out (by simp [spec_LessDepth.j0])
  | succ kj1 =>
   have H:=HA.out
   clear HA
   simp only [spec_LessDepth.j0] at H
   by_cases c23:x20_1=true
   ·subst c23
    have H1:(some (0,0,0,0,false,([]:List (S95)),([]:List Int),0,0,0,0,([]:List Int),([]:List (S83)),false))=some (r1,r2,r3,r4,r5,r6,r7,r8,r9,r10,r11,r12,r13,r14):=by rw [if_pos rfl] at H;exact H
    clear H
    have H:=H1
    clear H1
    simp only [Option.some.injEq,Prod.mk.injEq] at H
    obtain ⟨rfl,rfl,rfl,rfl,rfl,rfl,rfl,rfl,rfl,rfl,rfl,rfl,rfl,rfl⟩:=H
    have hnb24:=NB199_198.out
    have hnc24:=NB198_199.out
    obtain ⟨z25_0,z25_1,z25_2,z25_3,z25_4,z25_5,z25_6,z25_7,z25_8,z25_9,z25_10,z25_11,z25_12,y25_0,y25_1,y25_2,y25_3,y25_4,y25_5,y25_6,y25_7,y25_8,y25_9,y25_10,y25_11,y25_12⟩:=blk13f BK199
    go_wp2
    refine bodyPost_ret (results_ct rfl _ _ gb199 37 #[.int .i64 0,.int .i64 0,.int .i64 0,.int .i64 0,.bool false,.slice none 0 0,.slice none 0 0,.int .i64 0,.int .i64 0,.int .i64 0,.int .i64 0,.slice none 0 0,.slice none 0 0] (0,0) _ rfl (by refine bP (cs:=?_) ?_ 12 ?_;rotate_left;refine bP (cs:=?_) ?_ 11 ?_;rotate_left;refine bP (cs:=?_) ?_ 10 ?_;rotate_left;refine bP (cs:=?_) ?_ 9 ?_;rotate_left;refine bP (cs:=?_) ?_ 8 ?_;rotate_left;refine bP (cs:=?_) ?_ 7 ?_;rotate_left;refine bP (cs:=?_) ?_ 6 ?_;rotate_left;refine bP (cs:=?_) ?_ 5 ?_;rotate_left;refine bP (cs:=?_) ?_ 4 ?_;rotate_left;refine bP (cs:=?_) ?_ 3 ?_;rotate_left;refine bP (cs:=?_) ?_ 2 ?_;rotate_left;refine bP (cs:=?_) ?_ 1 ?_;rotate_left;refine bP (cs:=?_) ?_ 0 ?_;rotate_left;exact BK199.out;all_goals ((try simp only [sA,sZ,sC]);first|done|rfl)) Try.underlying37 rfl (by kernel_rfl)) rfl ?_
    exact ⟨_,_,_,_,fE,by first|exact Kd.R_nil _ _ _ _ _|exact Kd.N_nil _ _ _ _ _|exact Kd.V_nil _ _ _ _ _|exact Kd.Q_nil _ _ _ _ _|exact Kd.S_nil _ _ _ _ _,by first|exact Kd.R_nil _ _ _ _ _|exact Kd.N_nil _ _ _ _ _|exact Kd.V_nil _ _ _ _ _|exact Kd.Q_nil _ _ _ _ _|exact Kd.S_nil _ _ _ _ _,by first|exact Kd.R_nil _ _ _ _ _|exact Kd.N_nil _ _ _ _ _|exact Kd.V_nil _ _ _ _ _|exact Kd.Q_nil _ _ _ _ _|exact Kd.S_nil _ _ _ _ _,by first|exact Kd.R_nil _ _ _ _ _|exact Kd.N_nil _ _ _ _ _|exact Kd.V_nil _ _ _ _ _|exact Kd.Q_nil _ _ _ _ _|exact Kd.S_nil _ _ _ _ _,bG⟩
   ·obtain rfl:=bF c23
    have H1:((spec_l19Divided.f kj1 l0_11 257).bind fun bt202=>((spec_l19Divided.f kj1 l0_6 257).bind fun bt206=>(if bt202.2=true then (if bt206.2=true then ((spec_l19With.f a0_0 a0_1 a0_2 a0_3 a0_4 l0_5 l0_6 a0_7 a0_8 a0_9 a0_10 l0_11 l0_12 a0_3 8 bt202.1 bt206.1).bind fun bt210=>(some (bt210.1,bt210.2.1,bt210.2.2.1,bt210.2.2.2.1,bt210.2.2.2.2.1,bt210.2.2.2.2.2.1,bt210.2.2.2.2.2.2.1,bt210.2.2.2.2.2.2.2.1,bt210.2.2.2.2.2.2.2.2.1,bt210.2.2.2.2.2.2.2.2.2.1,bt210.2.2.2.2.2.2.2.2.2.2.1,bt210.2.2.2.2.2.2.2.2.2.2.2.1,bt210.2.2.2.2.2.2.2.2.2.2.2.2,true))) else (some (0,0,0,0,false,([]:List (S95)),([]:List Int),0,0,0,0,([]:List Int),([]:List (S83)),false))) else (some (0,0,0,0,false,([]:List (S95)),([]:List Int),0,0,0,0,([]:List Int),([]:List (S83)),false)))))=some (r1,r2,r3,r4,r5,r6,r7,r8,r9,r10,r11,r12,r13,r14):=by rw [if_neg nF] at H;exact H
    clear H
    have H:=H1
    clear H1
    replace H:=Option.bind_eq_some_iff.mp H
    obtain ⟨⟨t202,t203⟩,A260,H⟩:=H
    replace H:((spec_l19Divided.f kj1 l0_6 257).bind fun bt206=>(if t203=true then (if bt206.2=true then ((spec_l19With.f a0_0 a0_1 a0_2 a0_3 a0_4 l0_5 l0_6 a0_7 a0_8 a0_9 a0_10 l0_11 l0_12 a0_3 8 t202 bt206.1).bind fun bt210=>(some (bt210.1,bt210.2.1,bt210.2.2.1,bt210.2.2.2.1,bt210.2.2.2.2.1,bt210.2.2.2.2.2.1,bt210.2.2.2.2.2.2.1,bt210.2.2.2.2.2.2.2.1,bt210.2.2.2.2.2.2.2.2.1,bt210.2.2.2.2.2.2.2.2.2.1,bt210.2.2.2.2.2.2.2.2.2.2.1,bt210.2.2.2.2.2.2.2.2.2.2.2.1,bt210.2.2.2.2.2.2.2.2.2.2.2.2,true))) else (some (0,0,0,0,false,([]:List (S95)),([]:List Int),0,0,0,0,([]:List Int),([]:List (S83)),false))) else (some (0,0,0,0,false,([]:List (S95)),([]:List Int),0,0,0,0,([]:List Int),([]:List (S83)),false))))=some (r1,r2,r3,r4,r5,r6,r7,r8,r9,r10,r11,r12,r13,r14):=H
    have A26:=Aside0.mk A260
    clear A260
    replace H:=Option.bind_eq_some_iff.mp H
    obtain ⟨⟨t206,t207⟩,A270,H⟩:=H
    replace H:(if t203=true then (if t207=true then ((spec_l19With.f a0_0 a0_1 a0_2 a0_3 a0_4 l0_5 l0_6 a0_7 a0_8 a0_9 a0_10 l0_11 l0_12 a0_3 8 t202 t206).bind fun bt210=>(some (bt210.1,bt210.2.1,bt210.2.2.1,bt210.2.2.2.1,bt210.2.2.2.2.1,bt210.2.2.2.2.2.1,bt210.2.2.2.2.2.2.1,bt210.2.2.2.2.2.2.2.1,bt210.2.2.2.2.2.2.2.2.1,bt210.2.2.2.2.2.2.2.2.2.1,bt210.2.2.2.2.2.2.2.2.2.2.1,bt210.2.2.2.2.2.2.2.2.2.2.2.1,bt210.2.2.2.2.2.2.2.2.2.2.2.2,true))) else (some (0,0,0,0,false,([]:List (S95)),([]:List Int),0,0,0,0,([]:List Int),([]:List (S83)),false))) else (some (0,0,0,0,false,([]:List (S95)),([]:List Int),0,0,0,0,([]:List Int),([]:List (S83)),false)))=some (r1,r2,r3,r4,r5,r6,r7,r8,r9,r10,r11,r12,r13,r14):=H
    have A27:=Aside0.mk A270
    clear A270
    by_cases c28:t203=true
    ·subst c28
     have H1:(if t207=true then ((spec_l19With.f a0_0 a0_1 a0_2 a0_3 a0_4 l0_5 l0_6 a0_7 a0_8 a0_9 a0_10 l0_11 l0_12 a0_3 8 t202 t206).bind fun bt210=>(some (bt210.1,bt210.2.1,bt210.2.2.1,bt210.2.2.2.1,bt210.2.2.2.2.1,bt210.2.2.2.2.2.1,bt210.2.2.2.2.2.2.1,bt210.2.2.2.2.2.2.2.1,bt210.2.2.2.2.2.2.2.2.1,bt210.2.2.2.2.2.2.2.2.2.1,bt210.2.2.2.2.2.2.2.2.2.2.1,bt210.2.2.2.2.2.2.2.2.2.2.2.1,bt210.2.2.2.2.2.2.2.2.2.2.2.2,true))) else (some (0,0,0,0,false,([]:List (S95)),([]:List Int),0,0,0,0,([]:List Int),([]:List (S83)),false)))=some (r1,r2,r3,r4,r5,r6,r7,r8,r9,r10,r11,r12,r13,r14):=by rw [if_pos rfl] at H;exact H
     clear H
     have H:=H1
     clear H1
     by_cases c29:t207=true
     ·subst c29
      have H1:((spec_l19With.f a0_0 a0_1 a0_2 a0_3 a0_4 l0_5 l0_6 a0_7 a0_8 a0_9 a0_10 l0_11 l0_12 a0_3 8 t202 t206).bind fun bt210=>(some (bt210.1,bt210.2.1,bt210.2.2.1,bt210.2.2.2.1,bt210.2.2.2.2.1,bt210.2.2.2.2.2.1,bt210.2.2.2.2.2.2.1,bt210.2.2.2.2.2.2.2.1,bt210.2.2.2.2.2.2.2.2.1,bt210.2.2.2.2.2.2.2.2.2.1,bt210.2.2.2.2.2.2.2.2.2.2.1,bt210.2.2.2.2.2.2.2.2.2.2.2.1,bt210.2.2.2.2.2.2.2.2.2.2.2.2,true)))=some (r1,r2,r3,r4,r5,r6,r7,r8,r9,r10,r11,r12,r13,r14):=by rw [if_pos rfl] at H;exact H
      clear H
      have H:=H1
      clear H1
      replace H:=Option.bind_eq_some_iff.mp H
      obtain ⟨⟨t210,t211,t212,t213,t214,t215,t218,t221,t222,t223,t224,t225,t228⟩,A300,H⟩:=H
      replace H:(some (t210,t211,t212,t213,t214,t215,t218,t221,t222,t223,t224,t225,t228,true))=some (r1,r2,r3,r4,r5,r6,r7,r8,r9,r10,r11,r12,r13,r14):=H
      have A30:=Aside0.mk A300
      clear A300
      simp only [Option.some.injEq,Prod.mk.injEq] at H
      obtain ⟨rfl,rfl,rfl,rfl,rfl,rfl,rfl,rfl,rfl,rfl,rfl,rfl,rfl,rfl⟩:=H
      have hnb31:=NB198_199.out
      have hnc31:=NB199_198.out
      obtain ⟨z32_0,z32_1,z32_2,z32_3,z32_4,z32_5,z32_6,z32_7,z32_8,z32_9,z32_10,z32_11,z32_12,y32_0,y32_1,y32_2,y32_3,y32_4,y32_5,y32_6,y32_7,y32_8,y32_9,y32_10,y32_11,y32_12⟩:=blk13f BK198
      go_wp2_with (first|((with_reducible refine gate_callee (f:=38) rfl ?_);refine gL (some 26) Try.func38 #[.slice A0_11 l0_11.length c0_11,.int .i64 257] ?_;(with_reducible refine (spec_l19Divided.calls kj1 _ _ l0_11 257 t202 true _ (cB HR0_11) HC0_11.out A26.out).mono ?_);rintro e w33 ⟨v204,rfl,ho0,hb⟩;refine ⟨_,rfl,?_⟩;have HO205:=Aside0.mk (Kd.R_lower ho0 (below_size bG));replace BK198:=Aside0.mk (bkb BK198 hb);replace BK199:=Aside0.mk (bkb BK199 hb);replace HB:=Aside0.mk (below_step bG hb);(try clear hb);(try clear ho0);obtain ⟨z34_0,z34_1,z34_2,z34_3,z34_4,z34_5,z34_6,z34_7,z34_8,z34_9,z34_10,z34_11,z34_12,y34_0,y34_1,y34_2,y34_3,y34_4,y34_5,y34_6,y34_7,y34_8,y34_9,y34_10,y34_11,y34_12⟩:=blk13f BK198)|((with_reducible refine gate_callee (f:=38) rfl ?_);refine gL (some 32) Try.func38 #[.slice A0_6 l0_6.length c0_6,.int .i64 257] ?_;(with_reducible refine (spec_l19Divided.calls kj1 _ _ l0_6 257 t206 true _ (cB HR0_6) HC0_6.out A27.out).mono ?_);rintro e w35 ⟨v208,rfl,ho0,hb⟩;refine ⟨_,rfl,?_⟩;have n0_:=Aside0.mk (Kd.R_elder' (rS HO205) (Kd.R_base ho0) hb);have n1_:=Aside0.mk (Kd.R_lower (Kd.R_new' ho0 (Kd.R_lt (rS HO205))) (below_size bG));have n2_:=Aside0.mk (bkb BK198 hb);have n3_:=Aside0.mk (bkb BK199 hb);have n4_:=Aside0.mk (below_step bG hb);clear HO205;clear BK198;clear BK199;clear HB;have HO205:=n0_;have HO209:=n1_;have BK198:=n2_;have BK199:=n3_;have HB:=n4_;clear n0_ n1_ n2_ n3_ n4_;(try clear hb);(try clear ho0);obtain ⟨z36_0,z36_1,z36_2,z36_3,z36_4,z36_5,z36_6,z36_7,z36_8,z36_9,z36_10,z36_11,z36_12,y36_0,y36_1,y36_2,y36_3,y36_4,y36_5,y36_6,y36_7,y36_8,y36_9,y36_10,y36_11,y36_12⟩:=blk13f BK198;obtain ⟨Ao37,co37,eo37⟩:=Kd.R_slice HO205.out;subst eo37;obtain ⟨Ao38,co38,eo38⟩:=Kd.R_slice HO209.out;subst eo38)|((with_reducible refine gate_callee (f:=39) rfl ?_);refine gL (some 48) Try.func39 #[.agg #[.int .i64 a0_0,.int .i64 a0_1,.int .i64 a0_2,.int .i64 a0_3,.bool a0_4,.slice A0_5 l0_5.length c0_5,.slice A0_6 l0_6.length c0_6,.int .i64 a0_7,.int .i64 a0_8,.int .i64 a0_9,.int .i64 a0_10,.slice A0_11 l0_11.length c0_11,.slice A0_12 l0_12.length c0_12],.int .i64 a0_3,.int .i64 8,.slice Ao37 t202.length co37,.slice Ao38 t206.length co38] ?_;(with_reducible refine (spec_l19With.calls a0_0 a0_1 a0_2 a0_3 a0_4 _ _ l0_5 _ _ l0_6 a0_7 a0_8 a0_9 a0_10 _ _ l0_11 _ _ l0_12 a0_3 8 (fun k_=>some k_=(.slice Ao37 t202.length co37:Value).ownBlock) (.slice Ao37 t202.length co37) t202 (fun k_=>some k_=(.slice Ao38 t206.length co38:Value).ownBlock) (.slice Ao38 t206.length co38) t206 t210 t211 t212 t213 t214 t215 t218 t221 t222 t223 t224 t225 t228 w _ ?side1 ?side2 HC0_5.out ?side4 HC0_6.out ?side6 HC0_11.out ?side8 HC0_12.out ?side10 ?side11 ?side12 ?side13 A30.out).mono ?_);(case side1=>repeat (first|(with_reducible first|exact HB.out|apply below_alloc|apply pw_below_drewN|apply below_drew1|refine below_set ?_ GE198.out|refine below_set ?_ GE199.out)|exact HB.out));(case side2=>exact Kd.C_kept_came k95_heap HR0_5.out bG (fun k_ hs_=>Or.elim hs_ (fun e_=>(fun e_=>Kd.R_base HO205.out k_ e_.symm) e_) (fun e_=>(fun e_=>Kd.R_base HO209.out k_ e_.symm) e_)));(case side4=>exact Kd.C_kept_came (Kd.heap_int .i64) HR0_6.out bG (fun k_ hs_=>Or.elim hs_ (fun e_=>(fun e_=>Kd.R_base HO205.out k_ e_.symm) e_) (fun e_=>(fun e_=>Kd.R_base HO209.out k_ e_.symm) e_)));(case side6=>exact Kd.C_kept_came (Kd.heap_int .i64) HR0_11.out bG (fun k_ hs_=>Or.elim hs_ (fun e_=>(fun e_=>Kd.R_base HO205.out k_ e_.symm) e_) (fun e_=>(fun e_=>Kd.R_base HO209.out k_ e_.symm) e_)));(case side8=>exact Kd.C_kept_came k83_heap HR0_12.out bG (fun k_ hs_=>Or.elim hs_ (fun e_=>(fun e_=>Kd.R_base HO205.out k_ e_.symm) e_) (fun e_=>(fun e_=>Kd.R_base HO209.out k_ e_.symm) e_)));(case side10=>exact Kd.R_tight rfl HO205.out);(case side11=>exact fun k_ e_=>(HO205.out.1 k_ e_.symm).2);(case side12=>exact Kd.R_tight rfl HO209.out);(case side13=>exact fun k_ e_=>(HO209.out.1 k_ e_.symm).2);rintro e w39 ⟨v216,v219,v226,v229,rfl,ho0,ho1,ho2,ho3,hb,hkp⟩;refine ⟨_,rfl,?_⟩;replace BK198:=Aside0.mk (blk_kept (bk BK198) hkp (fun hs_=>Or.elim hs_ (fun e_=>(fun e_=>(Kd.R_ne HO205.out BK198.out (by decide)) e_) e_) (fun e_=>(fun e_=>(Kd.R_ne HO209.out BK198.out (by decide)) e_) e_)));replace BK199:=Aside0.mk (blk_kept (bk BK199) hkp (fun hs_=>Or.elim hs_ (fun e_=>(fun e_=>(Kd.R_ne HO205.out BK199.out (by decide)) e_) e_) (fun e_=>(fun e_=>(Kd.R_ne HO209.out BK199.out (by decide)) e_) e_)));have HO217:=Aside0.mk (Kd.R_mono (ok':=fun k_=>True) ho0 (fun k_ hk_=>trivial));have HO220:=Aside0.mk (Kd.R_mono (ok':=fun k_=>some k_≠(v226:Value).ownBlock) ho1 (fun k_ hk_=>hk_.2));have HO227:=Aside0.mk (Kd.R_mono (ok':=fun k_=>some k_≠(v219:Value).ownBlock) ho2 (fun k_ hk_=>hk_.2));have HO230:=Aside0.mk (Kd.R_mono (ok':=fun k_=>True) ho3 (fun k_ hk_=>trivial));replace HB:=Aside0.mk hb;clear HO205 HO209;(try clear hb);(try clear hkp);(try clear ho0);(try clear ho1);(try clear ho2);(try clear ho3);obtain ⟨z40_0,z40_1,z40_2,z40_3,z40_4,z40_5,z40_6,z40_7,z40_8,z40_9,z40_10,z40_11,z40_12,y40_0,y40_1,y40_2,y40_3,y40_4,y40_5,y40_6,y40_7,y40_8,y40_9,y40_10,y40_11,y40_12⟩:=blk13f BK199;obtain ⟨Ao41,co41,eo41⟩:=Kd.R_slice HO217.out;subst eo41;obtain ⟨Ao42,co42,eo42⟩:=Kd.R_slice HO220.out;subst eo42;obtain ⟨Ao43,co43,eo43⟩:=Kd.R_slice HO227.out;subst eo43;obtain ⟨Ao44,co44,eo44⟩:=Kd.R_slice HO230.out;subst eo44))
      refine bodyPost_ret (results_ct rfl _ _ gb199 37 #[.int .i64 t210,.int .i64 t211,.int .i64 t212,.int .i64 t213,.bool t214,.slice Ao41 t215.length co41,.slice Ao42 t218.length co42,.int .i64 t221,.int .i64 t222,.int .i64 t223,.int .i64 t224,.slice Ao43 t225.length co43,.slice Ao44 t228.length co44] (0,0) _ rfl (by refine bP (cs:=?_) ?_ 12 ?_;rotate_left;refine bP (cs:=?_) ?_ 11 ?_;rotate_left;refine bP (cs:=?_) ?_ 10 ?_;rotate_left;refine bP (cs:=?_) ?_ 9 ?_;rotate_left;refine bP (cs:=?_) ?_ 8 ?_;rotate_left;refine bP (cs:=?_) ?_ 7 ?_;rotate_left;refine bP (cs:=?_) ?_ 6 ?_;rotate_left;refine bP (cs:=?_) ?_ 5 ?_;rotate_left;refine bP (cs:=?_) ?_ 4 ?_;rotate_left;refine bP (cs:=?_) ?_ 3 ?_;rotate_left;refine bP (cs:=?_) ?_ 2 ?_;rotate_left;refine bP (cs:=?_) ?_ 1 ?_;rotate_left;refine bP (cs:=?_) ?_ 0 ?_;rotate_left;exact BK199.out;all_goals ((try simp only [sA,sZ,sC]);first|done|rfl)) Try.underlying37 rfl (by kernel_rfl)) rfl ?_
      exact ⟨_,_,_,_,fE,by (with_reducible repeat (first|apply Kd.R_alloc|apply Kd.R_drewN|apply Kd.R_drew));exact Kd.R_mono (rf (rf (rf (rf (rf (rf (rf (rf (rf (rf (rf (rf (rf (Kd.R_types HO217.out BK199.out (by decide))))))))))))))) (fun _ hk=>trivial),by (with_reducible repeat (first|apply Kd.R_alloc|apply Kd.R_drewN|apply Kd.R_drew));exact Kd.R_mono (rf (rf (rf (rf (rf (rf (rf (rf (rf (rf (rf (rf (rf (Kd.R_types HO220.out BK199.out (by decide))))))))))))))) (fun _ hk=>hk.1),by (with_reducible repeat (first|apply Kd.R_alloc|apply Kd.R_drewN|apply Kd.R_drew));exact Kd.R_mono (rf (rf (rf (rf (rf (rf (rf (rf (rf (rf (rf (rf (rf (Kd.R_types HO227.out BK199.out (by decide))))))))))))))) (fun _ hk=>hk.1),by (with_reducible repeat (first|apply Kd.R_alloc|apply Kd.R_drewN|apply Kd.R_drew));exact Kd.R_mono (rf (rf (rf (rf (rf (rf (rf (rf (rf (rf (rf (rf (rf (Kd.R_types HO230.out BK199.out (by decide))))))))))))))) (fun _ hk=>trivial),bG⟩
     ·obtain rfl:=bF c29
      have H1:(some (0,0,0,0,false,([]:List (S95)),([]:List Int),0,0,0,0,([]:List Int),([]:List (S83)),false))=some (r1,r2,r3,r4,r5,r6,r7,r8,r9,r10,r11,r12,r13,r14):=by rw [if_neg nF] at H;exact H
      clear H
      have H:=H1
      clear H1
      simp only [Option.some.injEq,Prod.mk.injEq] at H
      obtain ⟨rfl,rfl,rfl,rfl,rfl,rfl,rfl,rfl,rfl,rfl,rfl,rfl,rfl,rfl⟩:=H
      have hnb45:=NB198_199.out
      have hnc45:=NB199_198.out
      obtain ⟨z46_0,z46_1,z46_2,z46_3,z46_4,z46_5,z46_6,z46_7,z46_8,z46_9,z46_10,z46_11,z46_12,y46_0,y46_1,y46_2,y46_3,y46_4,y46_5,y46_6,y46_7,y46_8,y46_9,y46_10,y46_11,y46_12⟩:=blk13f BK198
      go_wp2_with (first|((with_reducible refine gate_callee (f:=38) rfl ?_);refine gL (some 26) Try.func38 #[.slice A0_11 l0_11.length c0_11,.int .i64 257] ?_;(with_reducible refine (spec_l19Divided.calls kj1 _ _ l0_11 257 t202 true _ (cB HR0_11) HC0_11.out A26.out).mono ?_);rintro e w47 ⟨v204,rfl,ho0,hb⟩;refine ⟨_,rfl,?_⟩;have HO205:=Aside0.mk (Kd.R_lower ho0 (below_size bG));replace BK198:=Aside0.mk (bkb BK198 hb);replace BK199:=Aside0.mk (bkb BK199 hb);replace HB:=Aside0.mk (below_step bG hb);(try clear hb);(try clear ho0);obtain ⟨z48_0,z48_1,z48_2,z48_3,z48_4,z48_5,z48_6,z48_7,z48_8,z48_9,z48_10,z48_11,z48_12,y48_0,y48_1,y48_2,y48_3,y48_4,y48_5,y48_6,y48_7,y48_8,y48_9,y48_10,y48_11,y48_12⟩:=blk13f BK198)|((with_reducible refine gate_callee (f:=38) rfl ?_);refine gL (some 32) Try.func38 #[.slice A0_6 l0_6.length c0_6,.int .i64 257] ?_;(with_reducible refine (spec_l19Divided.calls kj1 _ _ l0_6 257 t206 false _ (cB HR0_6) HC0_6.out A27.out).mono ?_);rintro e w49 ⟨v208,rfl,ho0,hb⟩;refine ⟨_,rfl,?_⟩;have n0_:=Aside0.mk (Kd.R_elder' (rS HO205) (Kd.R_base ho0) hb);have n1_:=Aside0.mk (Kd.R_lower (Kd.R_new' ho0 (Kd.R_lt (rS HO205))) (below_size bG));have n2_:=Aside0.mk (bkb BK198 hb);have n3_:=Aside0.mk (bkb BK199 hb);have n4_:=Aside0.mk (below_step bG hb);clear HO205;clear BK198;clear BK199;clear HB;have HO205:=n0_;have HO209:=n1_;have BK198:=n2_;have BK199:=n3_;have HB:=n4_;clear n0_ n1_ n2_ n3_ n4_;(try clear hb);(try clear ho0);obtain ⟨z50_0,z50_1,z50_2,z50_3,z50_4,z50_5,z50_6,z50_7,z50_8,z50_9,z50_10,z50_11,z50_12,y50_0,y50_1,y50_2,y50_3,y50_4,y50_5,y50_6,y50_7,y50_8,y50_9,y50_10,y50_11,y50_12⟩:=blk13f BK199))
      refine bodyPost_ret (results_ct rfl _ _ gb199 37 #[.int .i64 0,.int .i64 0,.int .i64 0,.int .i64 0,.bool false,.slice none 0 0,.slice none 0 0,.int .i64 0,.int .i64 0,.int .i64 0,.int .i64 0,.slice none 0 0,.slice none 0 0] (0,0) _ rfl (by refine bP (cs:=?_) ?_ 12 ?_;rotate_left;refine bP (cs:=?_) ?_ 11 ?_;rotate_left;refine bP (cs:=?_) ?_ 10 ?_;rotate_left;refine bP (cs:=?_) ?_ 9 ?_;rotate_left;refine bP (cs:=?_) ?_ 8 ?_;rotate_left;refine bP (cs:=?_) ?_ 7 ?_;rotate_left;refine bP (cs:=?_) ?_ 6 ?_;rotate_left;refine bP (cs:=?_) ?_ 5 ?_;rotate_left;refine bP (cs:=?_) ?_ 4 ?_;rotate_left;refine bP (cs:=?_) ?_ 3 ?_;rotate_left;refine bP (cs:=?_) ?_ 2 ?_;rotate_left;refine bP (cs:=?_) ?_ 1 ?_;rotate_left;refine bP (cs:=?_) ?_ 0 ?_;rotate_left;exact BK199.out;all_goals ((try simp only [sA,sZ,sC]);first|done|rfl)) Try.underlying37 rfl (by kernel_rfl)) rfl ?_
      exact ⟨_,_,_,_,fE,by first|exact Kd.R_nil _ _ _ _ _|exact Kd.N_nil _ _ _ _ _|exact Kd.V_nil _ _ _ _ _|exact Kd.Q_nil _ _ _ _ _|exact Kd.S_nil _ _ _ _ _,by first|exact Kd.R_nil _ _ _ _ _|exact Kd.N_nil _ _ _ _ _|exact Kd.V_nil _ _ _ _ _|exact Kd.Q_nil _ _ _ _ _|exact Kd.S_nil _ _ _ _ _,by first|exact Kd.R_nil _ _ _ _ _|exact Kd.N_nil _ _ _ _ _|exact Kd.V_nil _ _ _ _ _|exact Kd.Q_nil _ _ _ _ _|exact Kd.S_nil _ _ _ _ _,by first|exact Kd.R_nil _ _ _ _ _|exact Kd.N_nil _ _ _ _ _|exact Kd.V_nil _ _ _ _ _|exact Kd.Q_nil _ _ _ _ _|exact Kd.S_nil _ _ _ _ _,bG⟩
    ·obtain rfl:=bF c28
     have H1:(some (0,0,0,0,false,([]:List (S95)),([]:List Int),0,0,0,0,([]:List Int),([]:List (S83)),false))=some (r1,r2,r3,r4,r5,r6,r7,r8,r9,r10,r11,r12,r13,r14):=by rw [if_neg nF] at H;exact H
     clear H
     have H:=H1
     clear H1
     simp only [Option.some.injEq,Prod.mk.injEq] at H
     obtain ⟨rfl,rfl,rfl,rfl,rfl,rfl,rfl,rfl,rfl,rfl,rfl,rfl,rfl,rfl⟩:=H
     have hnb51:=NB198_199.out
     have hnc51:=NB199_198.out
     obtain ⟨z52_0,z52_1,z52_2,z52_3,z52_4,z52_5,z52_6,z52_7,z52_8,z52_9,z52_10,z52_11,z52_12,y52_0,y52_1,y52_2,y52_3,y52_4,y52_5,y52_6,y52_7,y52_8,y52_9,y52_10,y52_11,y52_12⟩:=blk13f BK198
     go_wp2_with (first|((with_reducible refine gate_callee (f:=38) rfl ?_);refine gL (some 26) Try.func38 #[.slice A0_11 l0_11.length c0_11,.int .i64 257] ?_;(with_reducible refine (spec_l19Divided.calls kj1 _ _ l0_11 257 t202 false _ (cB HR0_11) HC0_11.out A26.out).mono ?_);rintro e w53 ⟨v204,rfl,ho0,hb⟩;refine ⟨_,rfl,?_⟩;have HO205:=Aside0.mk (Kd.R_lower ho0 (below_size bG));replace BK198:=Aside0.mk (bkb BK198 hb);replace BK199:=Aside0.mk (bkb BK199 hb);replace HB:=Aside0.mk (below_step bG hb);(try clear hb);(try clear ho0);obtain ⟨z54_0,z54_1,z54_2,z54_3,z54_4,z54_5,z54_6,z54_7,z54_8,z54_9,z54_10,z54_11,z54_12,y54_0,y54_1,y54_2,y54_3,y54_4,y54_5,y54_6,y54_7,y54_8,y54_9,y54_10,y54_11,y54_12⟩:=blk13f BK198)|((with_reducible refine gate_callee (f:=38) rfl ?_);refine gL (some 32) Try.func38 #[.slice A0_6 l0_6.length c0_6,.int .i64 257] ?_;(with_reducible refine (spec_l19Divided.calls kj1 _ _ l0_6 257 t206 t207 _ (cB HR0_6) HC0_6.out A27.out).mono ?_);rintro e w55 ⟨v208,rfl,ho0,hb⟩;refine ⟨_,rfl,?_⟩;have n0_:=Aside0.mk (Kd.R_elder' (rS HO205) (Kd.R_base ho0) hb);have n1_:=Aside0.mk (Kd.R_lower (Kd.R_new' ho0 (Kd.R_lt (rS HO205))) (below_size bG));have n2_:=Aside0.mk (bkb BK198 hb);have n3_:=Aside0.mk (bkb BK199 hb);have n4_:=Aside0.mk (below_step bG hb);clear HO205;clear BK198;clear BK199;clear HB;have HO205:=n0_;have HO209:=n1_;have BK198:=n2_;have BK199:=n3_;have HB:=n4_;clear n0_ n1_ n2_ n3_ n4_;(try clear hb);(try clear ho0);obtain ⟨z56_0,z56_1,z56_2,z56_3,z56_4,z56_5,z56_6,z56_7,z56_8,z56_9,z56_10,z56_11,z56_12,y56_0,y56_1,y56_2,y56_3,y56_4,y56_5,y56_6,y56_7,y56_8,y56_9,y56_10,y56_11,y56_12⟩:=blk13f BK199))
     refine bodyPost_ret (results_ct rfl _ _ gb199 37 #[.int .i64 0,.int .i64 0,.int .i64 0,.int .i64 0,.bool false,.slice none 0 0,.slice none 0 0,.int .i64 0,.int .i64 0,.int .i64 0,.int .i64 0,.slice none 0 0,.slice none 0 0] (0,0) _ rfl (by refine bP (cs:=?_) ?_ 12 ?_;rotate_left;refine bP (cs:=?_) ?_ 11 ?_;rotate_left;refine bP (cs:=?_) ?_ 10 ?_;rotate_left;refine bP (cs:=?_) ?_ 9 ?_;rotate_left;refine bP (cs:=?_) ?_ 8 ?_;rotate_left;refine bP (cs:=?_) ?_ 7 ?_;rotate_left;refine bP (cs:=?_) ?_ 6 ?_;rotate_left;refine bP (cs:=?_) ?_ 5 ?_;rotate_left;refine bP (cs:=?_) ?_ 4 ?_;rotate_left;refine bP (cs:=?_) ?_ 3 ?_;rotate_left;refine bP (cs:=?_) ?_ 2 ?_;rotate_left;refine bP (cs:=?_) ?_ 1 ?_;rotate_left;refine bP (cs:=?_) ?_ 0 ?_;rotate_left;exact BK199.out;all_goals ((try simp only [sA,sZ,sC]);first|done|rfl)) Try.underlying37 rfl (by kernel_rfl)) rfl ?_
     exact ⟨_,_,_,_,fE,by first|exact Kd.R_nil _ _ _ _ _|exact Kd.N_nil _ _ _ _ _|exact Kd.V_nil _ _ _ _ _|exact Kd.Q_nil _ _ _ _ _|exact Kd.S_nil _ _ _ _ _,by first|exact Kd.R_nil _ _ _ _ _|exact Kd.N_nil _ _ _ _ _|exact Kd.V_nil _ _ _ _ _|exact Kd.Q_nil _ _ _ _ _|exact Kd.S_nil _ _ _ _ _,by first|exact Kd.R_nil _ _ _ _ _|exact Kd.N_nil _ _ _ _ _|exact Kd.V_nil _ _ _ _ _|exact Kd.Q_nil _ _ _ _ _|exact Kd.S_nil _ _ _ _ _,by first|exact Kd.R_nil _ _ _ _ _|exact Kd.N_nil _ _ _ _ _|exact Kd.V_nil _ _ _ _ _|exact Kd.Q_nil _ _ _ _ _|exact Kd.S_nil _ _ _ _ _,bG⟩
def laws_toHead.f (a0_0:Int) (a0_1:Int) (a0_2:Int) (a0_3:Int) (a0_4:Bool):Option (Int×Int×Int×Int×Bool):=some (a0_0,a0_1,a0_2,a0_3,a0_4)
theorem laws_toHead.calls (a0_0:Int) (a0_1:Int) (a0_2:Int) (a0_3:Int) (a0_4:Bool) (r1:Int) (r2:Int) (r3:Int) (r4:Int) (r5:Bool) (w:World) (h:laws_toHead.f a0_0 a0_1 a0_2 a0_3 a0_4=some (r1,r2,r3,r4,r5)):
  Calls Try.prog 40 #[.agg #[.int .i64 a0_0,.int .i64 a0_1,.int .i64 a0_2,.int .i64 a0_3,.bool a0_4]] w fun e w'=>e=.returned (.agg #[.int .i64 r1,.int .i64 r2,.int .i64 r3,.int .i64 r4,.bool r5])∧Below w.heap.size w w':=by
 have hu23:=Try.underlying23
 have hu32:=Try.underlying32
 have HB:=Aside0.mk (Below.refl w.heap.size w)
 have H:(some (a0_0,a0_1,a0_2,a0_3,a0_4))=some (r1,r2,r3,r4,r5):=h
 clear h
 simp only [Option.some.injEq,Prod.mk.injEq] at H
 obtain ⟨rfl,rfl,rfl,rfl,rfl⟩:=H
 go_enter Try.func40,Try.ntmps40
 go_wp2_with (first|((with_reducible refine gate_dst (N:=1) rfl ?_);refine boxE 1 (#[.int .i64 a0_0,.int .i64 a0_1,.int .i64 a0_2,.int .i64 a0_3,.bool a0_4]) 23 ?_;intro gb231 hg w2 hbox hb;have BK231:=Aside0.mk hbox;have GW231:=(gwH (w:=w) hg);have GE231:=(gwH (w:=w) hg);replace HB:=Aside0.mk (below_step bH hb);clear hb hbox hg)|((with_reducible refine gate_dst (N:=2) rfl ?_);refine boxE 2 (#[.int .i64 0,.int .i64 0,.int .i64 0,.int .i64 0,.bool false]) 32 ?_;intro gb232 hg w3 hbox hb;have n0_:=Aside0.mk (bkb BK231 hb);have n1_:=Aside0.mk (below_step bG hb);have n2_:=Aside0.mk hbox;have n3_:=(gwG (w:=w) hg);have n4_:=(gwG (w:=w) hg);have n5_:=(nbl BK231 hg);have n6_:=(nbg BK231 hg);clear BK231;clear HB;have BK231:=n0_;have HB:=n1_;have BK232:=n2_;have GW232:=n3_;have GE232:=n4_;have NB231_232:=n5_;have NB232_231:=n6_;clear n0_ n1_ n2_ n3_ n4_ n5_ n6_;clear hb hbox hg)|((with_reducible refine gate_dst (N:=3) rfl ?_);refine boxE 3 (#[.int .i64 0,.int .i64 0,.int .i64 0,.int .i64 0,.bool false]) 32 ?_;intro gb233 hg w4 hbox hb;have n0_:=Aside0.mk (bkb BK231 hb);have n1_:=Aside0.mk (bkb BK232 hb);have n2_:=Aside0.mk (below_step bG hb);have n3_:=Aside0.mk hbox;have n4_:=(gwG (w:=w) hg);have n5_:=(gwG (w:=w) hg);have n6_:=(nbl BK231 hg);have n7_:=(nbg BK231 hg);have n8_:=(nbl BK232 hg);have n9_:=(nbg BK232 hg);clear BK231;clear BK232;clear HB;have BK231:=n0_;have BK232:=n1_;have HB:=n2_;have BK233:=n3_;have GW233:=n4_;have GE233:=n5_;have NB231_233:=n6_;have NB233_231:=n7_;have NB232_233:=n8_;have NB233_232:=n9_;clear n0_ n1_ n2_ n3_ n4_ n5_ n6_ n7_ n8_ n9_;clear hb hbox hg;have hnb5:=NB231_232.out;have hnc5:=NB232_231.out;have hnb6:=NB231_233.out;have hnc6:=NB233_231.out;obtain ⟨z7_0,z7_1,z7_2,z7_3,z7_4,y7_0,y7_1,y7_2,y7_3,y7_4⟩:=blk5f BK231;have hnb8:=NB233_232.out;have hnc8:=NB232_233.out;obtain ⟨z9_0,z9_1,z9_2,z9_3,z9_4,y9_0,y9_1,y9_2,y9_3,y9_4⟩:=blk5f BK233;obtain ⟨z10_0,z10_1,z10_2,z10_3,z10_4,y10_0,y10_1,y10_2,y10_3,y10_4⟩:=blk5f BK232))
 refine bodyPost_ret (results_cell_row rfl _ _ gb232 32 #[.int .i64 a0_0,.int .i64 a0_1,.int .i64 a0_2,.int .i64 a0_3,.bool a0_4] (0,0) _ rfl (by refine bP (cs:=?_) ?_ 4 ?_;rotate_left;refine bP (cs:=?_) ?_ 3 ?_;rotate_left;refine bP (cs:=?_) ?_ 2 ?_;rotate_left;refine bP (cs:=?_) ?_ 1 ?_;rotate_left;refine bP (cs:=?_) ?_ 0 ?_;rotate_left;refine blk_far ?_ NB232_233.out _;refine blk_far ?_ NB232_233.out _;refine blk_far ?_ NB232_233.out _;refine blk_far ?_ NB232_233.out _;refine blk_far ?_ NB232_233.out _;(with_reducible repeat (first|refine blk_drewN ?_ _|refine blk_drew ?_|refine blk_alloc ?_ _));exact BK232.out;all_goals ((try simp only [sA,sZ,sC]);first|done|rfl)) Try.underlying32 rfl (by kernel_rfl)) rfl ?_
 exact ⟨fE,bG⟩
def laws_toRgb.f (a0_0:Int) (a0_1:Int) (a0_2:Int):Option (Int×Int×Int):=some (a0_0,a0_1,a0_2)
theorem laws_toRgb.calls (a0_0:Int) (a0_1:Int) (a0_2:Int) (r1:Int) (r2:Int) (r3:Int) (w:World) (h:laws_toRgb.f a0_0 a0_1 a0_2=some (r1,r2,r3)):
  Calls Try.prog 89 #[.agg #[.int .i64 a0_0,.int .i64 a0_1,.int .i64 a0_2]] w fun e w'=>e=.returned (.agg #[.int .i64 r1,.int .i64 r2,.int .i64 r3])∧Below w.heap.size w w':=by
 have hu106:=Try.underlying106
 have hu95:=Try.underlying95
 have HB:=Aside0.mk (Below.refl w.heap.size w)
 have H:(some (a0_0,a0_1,a0_2))=some (r1,r2,r3):=h
 clear h
 simp only [Option.some.injEq,Prod.mk.injEq] at H
 obtain ⟨rfl,rfl,rfl⟩:=H
 go_enter Try.func89,Try.ntmps89
 go_wp2_with (first|((with_reducible refine gate_dst (N:=1) rfl ?_);refine boxE 1 (#[.int .i64 a0_0,.int .i64 a0_1,.int .i64 a0_2]) 106 ?_;intro gb234 hg w2 hbox hb;have BK234:=Aside0.mk hbox;have GW234:=(gwH (w:=w) hg);have GE234:=(gwH (w:=w) hg);replace HB:=Aside0.mk (below_step bH hb);clear hb hbox hg)|((with_reducible refine gate_dst (N:=2) rfl ?_);refine boxE 2 (#[.int .i64 0,.int .i64 0,.int .i64 0]) 95 ?_;intro gb235 hg w3 hbox hb;have n0_:=Aside0.mk (bkb BK234 hb);have n1_:=Aside0.mk (below_step bG hb);have n2_:=Aside0.mk hbox;have n3_:=(gwG (w:=w) hg);have n4_:=(gwG (w:=w) hg);have n5_:=(nbl BK234 hg);have n6_:=(nbg BK234 hg);clear BK234;clear HB;have BK234:=n0_;have HB:=n1_;have BK235:=n2_;have GW235:=n3_;have GE235:=n4_;have NB234_235:=n5_;have NB235_234:=n6_;clear n0_ n1_ n2_ n3_ n4_ n5_ n6_;clear hb hbox hg)|((with_reducible refine gate_dst (N:=3) rfl ?_);refine boxE 3 (#[.int .i64 0,.int .i64 0,.int .i64 0]) 95 ?_;intro gb236 hg w4 hbox hb;have n0_:=Aside0.mk (bkb BK234 hb);have n1_:=Aside0.mk (bkb BK235 hb);have n2_:=Aside0.mk (below_step bG hb);have n3_:=Aside0.mk hbox;have n4_:=(gwG (w:=w) hg);have n5_:=(gwG (w:=w) hg);have n6_:=(nbl BK234 hg);have n7_:=(nbg BK234 hg);have n8_:=(nbl BK235 hg);have n9_:=(nbg BK235 hg);clear BK234;clear BK235;clear HB;have BK234:=n0_;have BK235:=n1_;have HB:=n2_;have BK236:=n3_;have GW236:=n4_;have GE236:=n5_;have NB234_236:=n6_;have NB236_234:=n7_;have NB235_236:=n8_;have NB236_235:=n9_;clear n0_ n1_ n2_ n3_ n4_ n5_ n6_ n7_ n8_ n9_;clear hb hbox hg;have hnb5:=NB234_235.out;have hnc5:=NB235_234.out;have hnb6:=NB234_236.out;have hnc6:=NB236_234.out;obtain ⟨z7_0,z7_1,z7_2,y7_0,y7_1,y7_2⟩:=blk3f BK234;have hnb8:=NB236_235.out;have hnc8:=NB235_236.out;obtain ⟨z9_0,z9_1,z9_2,y9_0,y9_1,y9_2⟩:=blk3f BK236;obtain ⟨z10_0,z10_1,z10_2,y10_0,y10_1,y10_2⟩:=blk3f BK235))
 refine bodyPost_ret (results_cell_row rfl _ _ gb235 95 #[.int .i64 a0_0,.int .i64 a0_1,.int .i64 a0_2] (0,0) _ rfl (by refine bP (cs:=?_) ?_ 2 ?_;rotate_left;refine bP (cs:=?_) ?_ 1 ?_;rotate_left;refine bP (cs:=?_) ?_ 0 ?_;rotate_left;refine blk_far ?_ NB235_236.out _;refine blk_far ?_ NB235_236.out _;refine blk_far ?_ NB235_236.out _;(with_reducible repeat (first|refine blk_drewN ?_ _|refine blk_drew ?_|refine blk_alloc ?_ _));exact BK235.out;all_goals ((try simp only [sA,sZ,sC]);first|done|rfl)) Try.underlying95 rfl (by kernel_rfl)) rfl ?_
 exact ⟨fE,bG⟩
def laws_toRgbS.l0:Nat→List (S106)→List (S95)→Int→Option ((List (S95)))
 | 0,_,_,_=>none
 | k+1,x0,x3,x4=>if x4 < (x0.length:Int) then (if 0≤x4 then ((laws_toRgb.f ((rd_T106 x0 x4).f0) ((rd_T106 x0 x4).f1) ((rd_T106 x0 x4).f2)).bind fun bt241=>(if x4 < (x3.length:Int) then (laws_toRgbS.l0 k x0 (x3.set (x4:Int).toNat (⟨bt241.1,bt241.2.1,bt241.2.2⟩:S95)) (wrap64 (x4+1))) else (none))) else (none)) else (some x3)
def laws_toRgbS.f (k:Nat) (l0:List (S106)):Option ((List (S95))):=if 0≤(l0.length:Int) then (if ((l0.length:Int):Int).toNat≤11728124029610 then (laws_toRgbS.l0 k l0 (List.replicate ((l0.length:Int):Int).toNat z95) 0) else (none)) else (none)
theorem laws_toRgbS.mono_l:∀ k,(∀ y0 y1 y2,LeO (laws_toRgbS.l0 k y0 y1 y2) (laws_toRgbS.l0 (k+1) y0 y1 y2))
 | 0=>fun _ _ _ r h=>by simp [laws_toRgbS.l0] at h
 | k+1=>by
  have ih0:=laws_toRgbS.mono_l k
  ·intro y0 y1 y2
   unfold laws_toRgbS.l0
   repeat' first
   | (with_reducible exact ih0 _ _ _)
   | (with_reducible exact LeO.refl _)
   | (with_reducible exact LeO.none _)
   | (with_reducible refine LeO.ite ?_ ?_)
   | (with_reducible refine LeO.bind ?_ (fun _=>?_))
   | exact ih0 _ _ _
   | exact LeO.none _
   | refine LeO.ite ?_ ?_
   | refine LeO.bind ?_ (fun _=>?_)
theorem laws_toRgbS.mono:∀ a0 k,LeO (laws_toRgbS.f k a0) (laws_toRgbS.f (k+1) a0):=by
 intro a0 k
 have ih0:=laws_toRgbS.mono_l k
 unfold laws_toRgbS.f
 repeat' first
   | (with_reducible exact ih0 _ _ _)
   | (with_reducible exact LeO.refl _)
   | (with_reducible exact LeO.none _)
   | (with_reducible refine LeO.ite ?_ ?_)
   | (with_reducible refine LeO.bind ?_ (fun _=>?_))
   | exact ih0 _ _ _
   | exact LeO.none _
   | refine LeO.ite ?_ ?_
   | refine LeO.bind ?_ (fun _=>?_)
theorem laws_toRgbS.calls (k:Nat) (A0:Option Addr) (c0:Nat) (l0:List (S106)) (r:List (S95)) (w:World) (hr0:Kd.C k106 w A0 l0.length l0) (hc0:l0.length≤c0) (h:laws_toRgbS.f k l0=some r):
  Calls Try.prog 41 #[.slice A0 l0.length c0] w fun e w'=>∃ v0_:Value,e=.returned (v0_)∧Kd.R k95 95 w' w.heap.size (fun _=>True) v0_ r∧Below w.heap.size w w':=by
 have hu106:=Try.underlying106
 have hu95:=Try.underlying95
 have HR0:=Aside0.mk hr0
 have HC0:=Aside0.mk hc0
 clear hr0 hc0
 have HB:=Aside0.mk (Below.refl w.heap.size w)
 have H:=h
 clear h
 unfold laws_toRgbS.f at H
 by_cases c2:0≤(l0.length:Int)
 ·rw [if_pos c2] at H
  have c2b0:=eq_true c2
  have c2b1:decide (0≤(l0.length:Int))=true:=decide_eq_true c2
  clear c2
  by_cases c3:((l0.length:Int):Int).toNat≤11728124029610
  ·rw [if_pos c3] at H
   have c3b0:=eq_true c3
   have c3b1:decide (((l0.length:Int):Int).toNat≤11728124029610)=true:=decide_eq_true c3
   clear c3
   obtain ⟨y237,hy237⟩:∃ y_:List (S95),y_=(List.replicate ((l0.length:Int):Int).toNat z95):=⟨_,rfl⟩
   replace H:(laws_toRgbS.l0 k l0 y237 0)=some r:=by first|(rw [hy237];with_reducible exact H)|(have H2_:=(Option.bind_some _ _).symm.trans H;rw [hy237];with_reducible exact H2_)|(have H2_:=(Option.bind_some _ _).symm.trans H;with_reducible exact H2_)|with_reducible exact H|(rw [hy237];exact H)|exact H
   have Ny237:=Aside0.mk hy237
   clear hy237
   have H':=Aside0.mk H
   clear H
   go_enter Try.func41,Try.ntmps41
   go_wp2_with (first|((with_reducible refine gate_dst (N:=7) rfl ?_);refine Kd.R_make k95 _ 95 rfl (N:=7) rfl 33 _ _ rfl (l0.length:Int) rfl rfl Try.underlying33 (.agg #[(.int .i64 0),(.int .i64 0),(.int .i64 0)]) 24 info95 rfl (by decide) (by omega) z95 (ok:=fun _=>True) (okp:=fun _=>True) (k95_mkM _ _ _ z95 ) (fun _ hk=>hk) trivial (oD) (Nat.le_trans (Nat.mul_le_mul_right _ (oD:(l0.length:Int).toNat≤11728124029610)) (by omega)) (Below.refl _ _) (Nat.le_refl _) ?_;intro v238 w4 ho5 hb hg_ hnew_;clear hg_ hnew_;(first|rw [← Ny237.out] at ho5|(simp only [Int.reduceToNat] at ho5;rw [← Ny237.out] at ho5));have HO239:=Aside0.mk (Kd.R_lower ho5 (below_size bH));replace HB:=Aside0.mk (below_step bH hb);clear hb ho5))
   go_loopg [4] k (fun kq v4 w'=>∃ (x3_1:List (S95)) (x4_1:Int),v4=.int .i64 x4_1∧Aside0 (laws_toRgbS.l0 kq l0 x3_1 x4_1=some r)∧Aside0 (kq≤k)∧Aside0 (Kd.R k95 95 w' w.heap.size (fun _=>True) v238 x3_1)∧Aside0 (Below w.heap.size w w'))
   case atStart=>exact ⟨(y237),(0),fS,H',⟨Nat.le_refl _⟩,⟨rS HO239⟩,⟨bH⟩⟩
   case round =>
    clear H'
    clear c2b0 c2b1 c3b0 c3b1
    obtain ⟨x3_1,x4_1,rfl,HA,HK1,HO_3,HB⟩:=hrel
    cases gk with
    | zero=>exact absurd HA.out (by simp [laws_toRgbS.l0])
    | succ k1 =>
     have H:=HA.out
     clear HA
     simp only [laws_toRgbS.l0] at H
     by_cases c6:x4_1 < (l0.length:Int)
     ·rw [if_pos c6] at H
      have c6b0:decide (x4_1 < (l0.length:Int))=true:=decide_eq_true c6
      clear c6
      by_cases c7:0≤x4_1
      ·rw [if_pos c7] at H
       have c7b0:decide (0≤x4_1)=true:=decide_eq_true c7
       clear c7
       replace H:=Option.bind_eq_some_iff.mp H
       obtain ⟨⟨t241,t242,t243⟩,A80,H⟩:=H
       try dsimp only at H
       have A8:=Aside0.mk A80
       clear A80
       by_cases c9:x4_1 < (x3_1.length:Int)
       ·rw [if_pos c9] at H
        have c9b0:decide (x4_1 < (x3_1.length:Int))=true:=decide_eq_true c9
        clear c9
        obtain ⟨y244,hy244⟩:∃ y_:List (S95),y_=(x3_1.set (x4_1:Int).toNat (⟨t241,t242,t243⟩:S95)):=⟨_,rfl⟩
        replace H:(laws_toRgbS.l0 k1 l0 y244 (wrap64 (x4_1+1)))=some r:=by first|(rw [hy244];with_reducible exact H)|(have H2_:=(Option.bind_some _ _).symm.trans H;rw [hy244];with_reducible exact H2_)|(have H2_:=(Option.bind_some _ _).symm.trans H;with_reducible exact H2_)|with_reducible exact H|(rw [hy244];exact H)|exact H
        have Ny244:=Aside0.mk hy244
        clear hy244
        have H':=Aside0.mk H
        clear H
        have p240:0≤(x4_1:Int):=oD
        have q240:x4_1 < (l0.length:Int):=oD
        obtain ⟨ad240,e240,hx240_0,hx240_1,hx240_2⟩:=at_T106 HR0.out x4_1 p240 q240
        cases e240
        replace hx240_0:=(HB.out.cell (World.block_lt_of_cell? w _ hx240_0)).trans hx240_0
        replace hx240_1:=(HB.out.cell (World.block_lt_of_cell? w _ hx240_1)).trans hx240_1
        replace hx240_2:=(HB.out.cell (World.block_lt_of_cell? w _ hx240_2)).trans hx240_2
        replace p240:=eq_true p240
        replace q240:=eq_true q240
        go_wp2_with (first|((with_reducible refine gate_callee (f:=89) rfl ?_);refine gL (some 20) Try.func89 #[.agg #[.int .i64 ((rd_T106 l0 x4_1).f0),.int .i64 ((rd_T106 l0 x4_1).f1),.int .i64 ((rd_T106 l0 x4_1).f2)]] ?_;(with_reducible refine (laws_toRgb.calls ((rd_T106 l0 x4_1).f0) ((rd_T106 l0 x4_1).f1) ((rd_T106 l0 x4_1).f2) t241 t242 t243 _ A8.out).mono ?_);rintro e w11 ⟨rfl,hb⟩;refine ⟨_,rfl,?_⟩;replace HO_3:=Aside0.mk (Kd.R_below (rS HO_3) hb);replace HB:=Aside0.mk (below_step bH hb);(try clear hb);have p10:0≤(x4_1:Int):=oD;have q10:(x4_1:Int) < ((x3_1.length:Int):Int):=oD;obtain ⟨go10,co10,eo10,gb10,gl10,cl10,HG10⟩:=Kd.R_form HO_3.out (by omega);(first|cases eo10|(injection eo10 with ea_ en_ ec_;(first|subst ea_|(injection ea_ with ea_;subst ea_));subst ec_;clear en_));have GB10:=Aside0.mk gb10;have GG10:=Aside0.mk HG10;clear gb10 gl10 HG10;obtain ⟨ce10,hcl10,hM10,hcc10,hfr10⟩:=Kd.R_elem HO_3.out z95 (x4_1:Int) p10 q10;obtain rfl:=k95_openM hM10;have hx10_0:w11.cell? ⟨go10,(x4_1:Int).toNat * 3,none⟩=some (.int .i64 ((rd_T95 x3_1 x4_1).f0)):=hcc10 0 _ rfl;have hx10_1:w11.cell? ⟨go10,(x4_1:Int).toNat * 3+1,none⟩=some (.int .i64 ((rd_T95 x3_1 x4_1).f1)):=hcc10 1 _ rfl;have hx10_2:w11.cell? ⟨go10,(x4_1:Int).toNat * 3+2,none⟩=some (.int .i64 ((rd_T95 x3_1 x4_1).f2)):=hcc10 2 _ rfl;have hf10_0:w11.frozen? ⟨go10,(x4_1:Int).toNat * 3,none⟩=false:=hfr10 0;have hf10_1:w11.frozen? ⟨go10,(x4_1:Int).toNat * 3+1,none⟩=false:=hfr10 1;have hf10_2:w11.frozen? ⟨go10,(x4_1:Int).toNat * 3+2,none⟩=false:=hfr10 2;clear hcl10 hcc10 hfr10 hM10;replace p10:=eq_true p10;replace q10:=eq_true q10;have HX12:=Aside0.mk (show Kd.R k95 95 w11 w.heap.size (fun _=>True) (.slice (some ⟨go10,0,none⟩) x3_1.length co10) x3_1 from (rS HO_3));obtain ⟨ce12,hcl12,hM12,hcc12,hfr12⟩:=Kd.R_elem HX12.out z95 (x4_1:Int) (oD) (by have h_:(x4_1:Int) < ((x3_1.length:Int):Int):=oD;first|exact h_|(have e_:=(Kd.R_reads' HO_3.out).1;omega)|simpa using h_);obtain rfl:=k95_openM hM12;have HP12:=Kd.R_seg HX12.out (x4_1:Int) (oD) (by have h_:(x4_1:Int) < ((x3_1.length:Int):Int):=oD;first|exact h_|(have e_:=(Kd.R_reads' HO_3.out).1;omega)|simpa using h_) (seg:=[.int .i64 t241,.int .i64 t242,.int .i64 t243]) (j:=0) hcl12 hcc12 (show 3≤3 from by decide) (x':=(⟨t241,t242,t243⟩:S95)) (k95_mkM _ _ _ (⟨t241,t242,t243⟩:S95) ) (fun _ hk=>hk);have hx12_0:=hcc12 0 _ rfl;(try simp only [show (k95).sz=3 from rfl,Nat.mul_one,Nat.add_zero] at hx12_0);have hf12_0:=hfr12 0;(try simp only [show (k95).sz=3 from rfl,Nat.mul_one,Nat.add_zero] at hf12_0);have hx12_1:=hcc12 1 _ rfl;(try simp only [show (k95).sz=3 from rfl,Nat.mul_one,Nat.add_zero] at hx12_1);have hf12_1:=hfr12 1;(try simp only [show (k95).sz=3 from rfl,Nat.mul_one,Nat.add_zero] at hf12_1);have hx12_2:=hcc12 2 _ rfl;(try simp only [show (k95).sz=3 from rfl,Nat.mul_one,Nat.add_zero] at hx12_2);have hf12_2:=hfr12 2;(try simp only [show (k95).sz=3 from rfl,Nat.mul_one,Nat.add_zero] at hf12_2);clear hcl12 hcc12 hfr12 hM12)|((with_reducible refine gate_store (t:=95) (p:=21) rfl ?_);refine store_event (t:=95) (p:=21) (v:=?vo_w13) (w1:=(((w11.setCell ⟨go10,(x4_1:Int).toNat * 3,none⟩ (.int .i64 t241)).setCell ⟨go10,(x4_1:Int).toNat * 3+1,none⟩ (.int .i64 t242)).setCell ⟨go10,(x4_1:Int).toNat * 3+2,none⟩ (.int .i64 t243))) ?hg ?ho ?hn ?hr ?_;(case ho=>rfl);(case hg=>rfl);(case hn=>rfl);(case hr=>first|(go_simp;done)|(go_simp;rfl));intro w13 hw;have hg:w11.grownBy w13 (some go10):=(by rw [hw];exact HP12.2);have hp_:Kd.R k95 95 w13 w.heap.size (fun _=>True) (.slice (some ⟨go10,0,none⟩) x3_1.length co10) y244:=(by rw [hw,Ny244.out];exact HP12.1);clear HP12;replace HO_3:=Aside0.mk hp_;replace HB:=Aside0.mk ((by rw [hw];exact below_set (below_set (below_set (HB.out) GB10.out) GB10.out) GB10.out:Below w.heap.size w w13));clear hg hw hp_))
        go_roundg k1
        case measure=>have:=HK1.out;omega
        case rel=>exact ⟨(y244),(wrap64 (x4_1+1)),fS,H',⟨by have:=HK1.out;omega⟩,⟨rS HO_3⟩,⟨bH⟩⟩
       ·rw [if_neg c9] at H
        exact absurd H (by simp)
      ·rw [if_neg c7] at H
       exact absurd H (by simp)
     ·rw [if_neg c6] at H
      have c6b0:decide (x4_1 < (l0.length:Int))=false:=decide_eq_false c6
      clear c6
      obtain rfl:=sI H
      go_wp2
      go_ret
      exact ⟨_,fE,rS HO_3,bH⟩
  ·rw [if_neg c3] at H
   exact absurd H (by simp)
 ·rw [if_neg c2] at H
  exact absurd H (by simp)
def laws_toIntS.l0:Nat→List Int→List Int→Int→Option (List Int)
 | 0,_,_,_=>none
 | k+1,x0,x3,x4=>if x4 < (x0.length:Int) then (if 0≤x4 then (if x4 < (x3.length:Int) then (laws_toIntS.l0 k x0 (x3.set (x4:Int).toNat (rd x0 x4)) (wrap64 (x4+1))) else (none)) else (none)) else (some x3)
def laws_toIntS.f (k:Nat) (l0:List Int):Option (List Int):=if 0≤(l0.length:Int) then (if ((l0.length:Int):Int).toNat≤35184372088832 then (laws_toIntS.l0 k l0 (List.replicate ((l0.length:Int):Int).toNat 0) 0) else (none)) else (none)
theorem laws_toIntS.mono_l:∀ k,(∀ y0 y1 y2,LeO (laws_toIntS.l0 k y0 y1 y2) (laws_toIntS.l0 (k+1) y0 y1 y2))
 | 0=>fun _ _ _ r h=>by simp [laws_toIntS.l0] at h
 | k+1=>by
  have ih0:=laws_toIntS.mono_l k
  ·intro y0 y1 y2
   unfold laws_toIntS.l0
   repeat' first
   | (with_reducible exact ih0 _ _ _)
   | (with_reducible exact LeO.refl _)
   | (with_reducible exact LeO.none _)
   | (with_reducible refine LeO.ite ?_ ?_)
   | (with_reducible refine LeO.bind ?_ (fun _=>?_))
   | exact ih0 _ _ _
   | exact LeO.none _
   | refine LeO.ite ?_ ?_
   | refine LeO.bind ?_ (fun _=>?_)
theorem laws_toIntS.mono:∀ a0 k,LeO (laws_toIntS.f k a0) (laws_toIntS.f (k+1) a0):=by
 intro a0 k
 have ih0:=laws_toIntS.mono_l k
 unfold laws_toIntS.f
 repeat' first
   | (with_reducible exact ih0 _ _ _)
   | (with_reducible exact LeO.refl _)
   | (with_reducible exact LeO.none _)
   | (with_reducible refine LeO.ite ?_ ?_)
   | (with_reducible refine LeO.bind ?_ (fun _=>?_))
   | exact ih0 _ _ _
   | exact LeO.none _
   | refine LeO.ite ?_ ?_
   | refine LeO.bind ?_ (fun _=>?_)
theorem laws_toIntS.calls (k:Nat) (A0:Option Addr) (c0:Nat) (l0:List Int) (r:List Int) (w:World) (hr0:Kd.C (Kd.int .i64) w A0 l0.length l0) (hc0:l0.length≤c0) (h:laws_toIntS.f k l0=some r):
  Calls Try.prog 42 #[.slice A0 l0.length c0] w fun e w'=>∃ v0_:Value,e=.returned (v0_)∧Kd.R (Kd.int .i64) 3 w' w.heap.size (fun _=>True) v0_ r∧Below w.heap.size w w':=by
 have HR0:=Aside0.mk hr0
 have HC0:=Aside0.mk hc0
 clear hr0 hc0
 have HB:=Aside0.mk (Below.refl w.heap.size w)
 have H:=h
 clear h
 unfold laws_toIntS.f at H
 by_cases c2:0≤(l0.length:Int)
 ·rw [if_pos c2] at H
  have c2b0:=eq_true c2
  have c2b1:decide (0≤(l0.length:Int))=true:=decide_eq_true c2
  clear c2
  by_cases c3:((l0.length:Int):Int).toNat≤35184372088832
  ·rw [if_pos c3] at H
   have c3b0:=eq_true c3
   have c3b1:decide (((l0.length:Int):Int).toNat≤35184372088832)=true:=decide_eq_true c3
   clear c3
   obtain ⟨y245,hy245⟩:∃ y_:List Int,y_=(List.replicate ((l0.length:Int):Int).toNat 0):=⟨_,rfl⟩
   replace H:(laws_toIntS.l0 k l0 y245 0)=some r:=by first|(rw [hy245];with_reducible exact H)|(have H2_:=(Option.bind_some _ _).symm.trans H;rw [hy245];with_reducible exact H2_)|(have H2_:=(Option.bind_some _ _).symm.trans H;with_reducible exact H2_)|with_reducible exact H|(rw [hy245];exact H)|exact H
   have Ny245:=Aside0.mk hy245
   clear hy245
   have H':=Aside0.mk H
   clear H
   go_enter Try.func42,Try.ntmps42
   go_wp2_with (first|((with_reducible refine gate_dst (N:=7) rfl ?_);refine Kd.R_make (Kd.int .i64) _ 3 rfl (N:=7) rfl 25 _ _ rfl (l0.length:Int) rfl rfl Try.underlying25 (.int .i64 0) 8 info3 rfl (by decide) (by omega) 0 (ok:=fun _=>True) (okp:=fun _=>True) rfl (fun _ hk=>hk) trivial (oD) (Nat.le_trans (Nat.mul_le_mul_right _ (oD:(l0.length:Int).toNat≤35184372088832)) (by omega)) (Below.refl _ _) (Nat.le_refl _) ?_;intro v246 w4 ho5 hb hg_ hnew_;clear hg_ hnew_;(first|rw [← Ny245.out] at ho5|(simp only [Int.reduceToNat] at ho5;rw [← Ny245.out] at ho5));have HO247:=Aside0.mk (Kd.R_lower ho5 (below_size bH));replace HB:=Aside0.mk (below_step bH hb);clear hb ho5))
   go_loopg [4] k (fun kq v4 w'=>∃ (x3_1:List Int) (x4_1:Int),v4=.int .i64 x4_1∧Aside0 (laws_toIntS.l0 kq l0 x3_1 x4_1=some r)∧Aside0 (kq≤k)∧Aside0 (Kd.R (Kd.int .i64) 3 w' w.heap.size (fun _=>True) v246 x3_1)∧Aside0 (Below w.heap.size w w'))
   case atStart=>exact ⟨(y245),(0),fS,H',⟨Nat.le_refl _⟩,⟨rS HO247⟩,⟨bH⟩⟩
   case round =>
    clear H'
    clear c2b0 c2b1 c3b0 c3b1
    obtain ⟨x3_1,x4_1,rfl,HA,HK1,HO_3,HB⟩:=hrel
    cases gk with
    | zero=>exact absurd HA.out (by simp [laws_toIntS.l0])
    | succ k1 =>
     have H:=HA.out
     clear HA
     simp only [laws_toIntS.l0] at H
     by_cases c6:x4_1 < (l0.length:Int)
     ·rw [if_pos c6] at H
      have c6b0:decide (x4_1 < (l0.length:Int))=true:=decide_eq_true c6
      clear c6
      by_cases c7:0≤x4_1
      ·rw [if_pos c7] at H
       have c7b0:decide (0≤x4_1)=true:=decide_eq_true c7
       clear c7
       by_cases c8:x4_1 < (x3_1.length:Int)
       ·rw [if_pos c8] at H
        have c8b0:decide (x4_1 < (x3_1.length:Int))=true:=decide_eq_true c8
        clear c8
        obtain ⟨y249,hy249⟩:∃ y_:List Int,y_=(x3_1.set (x4_1:Int).toNat (rd l0 x4_1)):=⟨_,rfl⟩
        replace H:(laws_toIntS.l0 k1 l0 y249 (wrap64 (x4_1+1)))=some r:=by first|(rw [hy249];with_reducible exact H)|(have H2_:=(Option.bind_some _ _).symm.trans H;rw [hy249];with_reducible exact H2_)|(have H2_:=(Option.bind_some _ _).symm.trans H;with_reducible exact H2_)|with_reducible exact H|(rw [hy249];exact H)|exact H
        have Ny249:=Aside0.mk hy249
        clear hy249
        have H':=Aside0.mk H
        clear H
        have p248:0≤(x4_1:Int):=oD
        have q248:x4_1 < (l0.length:Int):=oD
        obtain ⟨ad248,e248,hx248_0⟩:=Kd.at_int HR0.out x4_1 p248 q248
        cases e248
        replace hx248_0:=(HB.out.cell (World.block_lt_of_cell? w _ hx248_0)).trans hx248_0
        replace p248:=eq_true p248
        replace q248:=eq_true q248
        have p9:0≤(x4_1:Int):=oD
        have q9:(x4_1:Int) < ((x3_1.length:Int):Int):=oD
        obtain ⟨go9,co9,eo9,gb9,gl9,cl9,HG9⟩:=Kd.R_form HO_3.out (by omega)
        (first|cases eo9|(injection eo9 with ea_ en_ ec_;(first|subst ea_|(injection ea_ with ea_;subst ea_));subst ec_;clear en_))
        have GB9:=Aside0.mk gb9
        have GG9:=Aside0.mk HG9
        clear gb9 gl9 HG9
        obtain ⟨hx9_0,hf9_0⟩:=Kd.R_celln 0 HO_3.out (x4_1:Int) p9 q9
        replace p9:=eq_true p9
        replace q9:=eq_true q9
        have HP10:=Kd.R_putg HO_3.out (x4_1:Int) (rd l0 x4_1)
        go_wp2_with (first|((with_reducible refine gate_store (t:=3) (p:=20) rfl ?_);refine store_event (t:=3) (p:=20) (v:=?vo_w11) (w1:=(wr.setCell ⟨go9,(x4_1:Int).toNat,none⟩ (.int .i64 (rd l0 x4_1)))) ?hg ?ho ?hn ?hr ?_;(case ho=>rfl);(case hg=>rfl);(case hn=>rfl);(case hr=>first|(go_simp;done)|(go_simp;rfl));intro w11 hw;have hg:wr.grownBy w11 (some go9):=(by rw [hw];exact HP10.2);have hp_:Kd.R (Kd.int .i64) 3 w11 w.heap.size (fun _=>True) (.slice (some ⟨go9,0,none⟩) x3_1.length co9) y249:=(by rw [hw,Ny249.out];exact HP10.1);clear HP10;replace HO_3:=Aside0.mk hp_;replace HB:=Aside0.mk ((by rw [hw];exact below_set (HB.out) GB9.out:Below w.heap.size w w11));clear hg hw hp_))
        go_roundg k1
        case measure=>have:=HK1.out;omega
        case rel=>exact ⟨(y249),(wrap64 (x4_1+1)),fS,H',⟨by have:=HK1.out;omega⟩,⟨rS HO_3⟩,⟨bH⟩⟩
       ·rw [if_neg c8] at H
        exact absurd H (by simp)
      ·rw [if_neg c7] at H
       exact absurd H (by simp)
     ·rw [if_neg c6] at H
      have c6b0:decide (x4_1 < (l0.length:Int))=false:=decide_eq_false c6
      clear c6
      obtain rfl:=sI H
      go_wp2
      go_ret
      exact ⟨_,fE,rS HO_3,bH⟩
  ·rw [if_neg c3] at H
   exact absurd H (by simp)
 ·rw [if_neg c2] at H
  exact absurd H (by simp)
end Go.Proofs.Ytjpfhldklbgdcaa.Ld
