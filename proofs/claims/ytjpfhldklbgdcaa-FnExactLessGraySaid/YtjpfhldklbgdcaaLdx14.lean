import Derived.Test.YtjpfhldklbgdcaaLdx0
import Derived.Test.YtjpfhldklbgdcaaLdx11
import Derived.Test.YtjpfhldklbgdcaaLdx12
import Derived.Test.YtjpfhldklbgdcaaLdx13
set_option maxHeartbeats 8000000
set_option maxRecDepth 100000
namespace Go.Proofs.Ytjpfhldklbgdcaa.Ld
open Go.RowKit Go.Proofs.Ytjpfhldklbgdcaa.Sq Go.Proofs.YtjpfhldklbgdcaaW.PrintWords Go.Proofs.YtjpfhldklbgdcaaW.PrintLast Go.Proofs.YtjpfhldklbgdcaaW.PrintMore
attribute [local go_sem] max2_int min2_int max_two min_two max_three min_three max_four min_four   -- for this text's walks alone
set_option linter.unusedVariables false
set_option linter.unusedSimpArgs false
def impl_PngOk.j0:Nat→Bool→Int→Int→Int→Int→Bool→List (S95)→List Int→Int→Int→Int→Int→List Int→List (S83)→Int→Int→Int→Int→Bool→Option (Bool)
 | 0,_,_,_,_,_,_,_,_,_,_,_,_,_,_,_,_,_,_,_=>none
 | k+1,x44,x341000,x341001,x341002,x341003,x341004,x341005,x341006,x341007,x341008,x341009,x341010,x341011,x341012,x342000,x342001,x342002,x342003,x342004=>if x44=true then (some false) else ((impl_tableOk.f k x342000 x342001 x342002 x342003 x342004 x341005).bind fun t345=>(if t345=true then ((impl_ClearOk.f k x342000 x342001 x342002 x342003 x342004 (x341005.length:Int) x341006).bind fun t346=>(if t346=true then ((impl_keptOk.f k x341012).bind fun t347=>(if t347=true then (if x342003=3 then ((impl_inTable.f k x341000 x341001 x341002 x341003 x341004 x341005 x341006 x341007 x341008 x341009 x341010 x341011 x341012).bind fun t348=>(some t348)) else (some true)) else (some false))) else (some false))) else (some false)))
def impl_PngOk.f (k:Nat) (a0_0:Int) (a0_1:Int) (a0_2:Int) (a0_3:Int) (a0_4:Bool) (l0_5:List (S95)) (l0_6:List Int) (a0_7:Int) (a0_8:Int) (a0_9:Int) (a0_10:Int) (l0_11:List Int) (l0_12:List (S83)):Option (Bool):=(impl_HeadOk.f k a0_0 a0_1 a0_2 a0_3 a0_4).bind fun t343=>(if t343=true then ((impl_RasterOk.f k a0_7 a0_8 a0_9 a0_10 l0_11).bind fun t344=>(if t344=true then (if a0_7=a0_0 then (if a0_8=a0_1 then (if a0_9=a0_3 then (impl_PngOk.j0 k (a0_10 != a0_2) a0_0 a0_1 a0_2 a0_3 a0_4 l0_5 l0_6 a0_7 a0_8 a0_9 a0_10 l0_11 l0_12 a0_0 a0_1 a0_2 a0_3 a0_4) else (impl_PngOk.j0 k true a0_0 a0_1 a0_2 a0_3 a0_4 l0_5 l0_6 a0_7 a0_8 a0_9 a0_10 l0_11 l0_12 a0_0 a0_1 a0_2 a0_3 a0_4)) else (impl_PngOk.j0 k true a0_0 a0_1 a0_2 a0_3 a0_4 l0_5 l0_6 a0_7 a0_8 a0_9 a0_10 l0_11 l0_12 a0_0 a0_1 a0_2 a0_3 a0_4)) else (impl_PngOk.j0 k true a0_0 a0_1 a0_2 a0_3 a0_4 l0_5 l0_6 a0_7 a0_8 a0_9 a0_10 l0_11 l0_12 a0_0 a0_1 a0_2 a0_3 a0_4)) else (impl_PngOk.j0 k true a0_0 a0_1 a0_2 a0_3 a0_4 l0_5 l0_6 a0_7 a0_8 a0_9 a0_10 l0_11 l0_12 a0_0 a0_1 a0_2 a0_3 a0_4))) else (impl_PngOk.j0 k true a0_0 a0_1 a0_2 a0_3 a0_4 l0_5 l0_6 a0_7 a0_8 a0_9 a0_10 l0_11 l0_12 a0_0 a0_1 a0_2 a0_3 a0_4))
theorem impl_PngOk.mono_l:∀ k,(∀ y0 y1 y2 y3 y4 y5 y6 y7 y8 y9 y10 y11 y12 y13 y14 y15 y16 y17 y18,LeO (impl_PngOk.j0 k y0 y1 y2 y3 y4 y5 y6 y7 y8 y9 y10 y11 y12 y13 y14 y15 y16 y17 y18) (impl_PngOk.j0 (k+1) y0 y1 y2 y3 y4 y5 y6 y7 y8 y9 y10 y11 y12 y13 y14 y15 y16 y17 y18))
 | 0=>fun _ _ _ _ _ _ _ _ _ _ _ _ _ _ _ _ _ _ _ r h=>by simp [impl_PngOk.j0] at h
 | k+1=>by
  have ih0:=impl_PngOk.mono_l k
  ·intro y0 y1 y2 y3 y4 y5 y6 y7 y8 y9 y10 y11 y12 y13 y14 y15 y16 y17 y18
   unfold impl_PngOk.j0
   repeat' first
   | (with_reducible exact ih0 _ _ _ _ _ _ _ _ _ _ _ _ _ _ _ _ _ _ _)
   | (with_reducible exact impl_ClearOk.mono _ _ _ _ _ _ _ _)
   | (with_reducible exact impl_HeadOk.mono _ _ _ _ _ _)
   | (with_reducible exact impl_RasterOk.mono _ _ _ _ _ _)
   | (with_reducible exact impl_inTable.mono _ _ _ _ _ _ _ _ _ _ _ _ _ _)
   | (with_reducible exact impl_keptOk.mono _ _)
   | (with_reducible exact impl_tableOk.mono _ _ _ _ _ _ _)
   | (with_reducible exact LeO.refl _)
   | (with_reducible exact LeO.none _)
   | (with_reducible refine LeO.ite ?_ ?_)
   | (with_reducible refine LeO.bind ?_ (fun _=>?_))
   | exact ih0 _ _ _ _ _ _ _ _ _ _ _ _ _ _ _ _ _ _ _
   | exact impl_ClearOk.mono _ _ _ _ _ _ _ _
   | exact impl_HeadOk.mono _ _ _ _ _ _
   | exact impl_RasterOk.mono _ _ _ _ _ _
   | exact impl_inTable.mono _ _ _ _ _ _ _ _ _ _ _ _ _ _
   | exact impl_keptOk.mono _ _
   | exact impl_tableOk.mono _ _ _ _ _ _ _
   | exact LeO.none _
   | refine LeO.ite ?_ ?_
   | refine LeO.bind ?_ (fun _=>?_)
theorem impl_PngOk.mono:∀ a0 a1 a2 a3 a4 a5 a6 a7 a8 a9 a10 a11 a12 k,LeO (impl_PngOk.f k a0 a1 a2 a3 a4 a5 a6 a7 a8 a9 a10 a11 a12) (impl_PngOk.f (k+1) a0 a1 a2 a3 a4 a5 a6 a7 a8 a9 a10 a11 a12):=by
 intro a0 a1 a2 a3 a4 a5 a6 a7 a8 a9 a10 a11 a12 k
 have ih0:=impl_PngOk.mono_l k
 unfold impl_PngOk.f
 repeat' first
   | (with_reducible exact ih0 _ _ _ _ _ _ _ _ _ _ _ _ _ _ _ _ _ _ _)
   | (with_reducible exact impl_ClearOk.mono _ _ _ _ _ _ _ _)
   | (with_reducible exact impl_HeadOk.mono _ _ _ _ _ _)
   | (with_reducible exact impl_RasterOk.mono _ _ _ _ _ _)
   | (with_reducible exact impl_inTable.mono _ _ _ _ _ _ _ _ _ _ _ _ _ _)
   | (with_reducible exact impl_keptOk.mono _ _)
   | (with_reducible exact impl_tableOk.mono _ _ _ _ _ _ _)
   | (with_reducible exact LeO.refl _)
   | (with_reducible exact LeO.none _)
   | (with_reducible refine LeO.ite ?_ ?_)
   | (with_reducible refine LeO.bind ?_ (fun _=>?_))
   | exact ih0 _ _ _ _ _ _ _ _ _ _ _ _ _ _ _ _ _ _ _
   | exact impl_ClearOk.mono _ _ _ _ _ _ _ _
   | exact impl_HeadOk.mono _ _ _ _ _ _
   | exact impl_RasterOk.mono _ _ _ _ _ _
   | exact impl_inTable.mono _ _ _ _ _ _ _ _ _ _ _ _ _ _
   | exact impl_keptOk.mono _ _
   | exact impl_tableOk.mono _ _ _ _ _ _ _
   | exact LeO.none _
   | refine LeO.ite ?_ ?_
   | refine LeO.bind ?_ (fun _=>?_)
def impl_PngOk.T1:Bool×List (List Nat×List Nat):=(true,[([],[]),([0],[0]),([],[]),([2],[2]),([],[]),([],[]),([4,1,0,1,4,5],[1,4]),([5,3,6,0,1,2,3,4,5,6],[3,5])])
def impl_PngOk.B1:List Nat:=[0,1,0,4,0,0,51,127]
theorem impl_PngOk.tab1:rtab .any (opsOf Try.f77 1)=impl_PngOk.T1:=by kernel_rfl
theorem impl_PngOk.bits1:waitsOk impl_PngOk.T1.2 impl_PngOk.B1=true:=by kernel_rfl
theorem impl_PngOk.calls (k:Nat) (a0_0:Int) (a0_1:Int) (a0_2:Int) (a0_3:Int) (a0_4:Bool) (A0_5:Option Addr) (c0_5:Nat) (l0_5:List (S95)) (A0_6:Option Addr) (c0_6:Nat) (l0_6:List Int) (a0_7:Int) (a0_8:Int) (a0_9:Int) (a0_10:Int) (A0_11:Option Addr) (c0_11:Nat) (l0_11:List Int) (A0_12:Option Addr) (c0_12:Nat) (l0_12:List (S83)) (r:Bool) (w:World) (hr0_5:Kd.C k95 w A0_5 l0_5.length l0_5) (hc0_5:l0_5.length≤c0_5) (hr0_6:Kd.C (Kd.int .i64) w A0_6 l0_6.length l0_6) (hc0_6:l0_6.length≤c0_6) (hr0_11:Kd.C (Kd.int .i64) w A0_11 l0_11.length l0_11) (hc0_11:l0_11.length≤c0_11) (hr0_12:Kd.C k83 w A0_12 l0_12.length l0_12) (hc0_12:l0_12.length≤c0_12) (h:impl_PngOk.f k a0_0 a0_1 a0_2 a0_3 a0_4 l0_5 l0_6 a0_7 a0_8 a0_9 a0_10 l0_11 l0_12=some r):
  Calls Try.prog 77 #[.agg #[.int .i64 a0_0,.int .i64 a0_1,.int .i64 a0_2,.int .i64 a0_3,.bool a0_4,.slice A0_5 l0_5.length c0_5,.slice A0_6 l0_6.length c0_6,.int .i64 a0_7,.int .i64 a0_8,.int .i64 a0_9,.int .i64 a0_10,.slice A0_11 l0_11.length c0_11,.slice A0_12 l0_12.length c0_12]] w fun e w'=>e=.returned (.bool r)∧Below w.heap.size w w':=by
 have hu37:=Try.underlying37
 have hu32:=Try.underlying32
 have hu34:=Try.underlying34
 have HR0_5:=Aside0.mk hr0_5
 have HC0_5:=Aside0.mk hc0_5
 clear hr0_5 hc0_5
 have HR0_6:=Aside0.mk hr0_6
 have HC0_6:=Aside0.mk hc0_6
 clear hr0_6 hc0_6
 have HR0_11:=Aside0.mk hr0_11
 have HC0_11:=Aside0.mk hc0_11
 clear hr0_11 hc0_11
 have HR0_12:=Aside0.mk hr0_12
 have HC0_12:=Aside0.mk hc0_12
 clear hr0_12 hc0_12
 have HB:=Aside0.mk (Below.refl w.heap.size w)
 have H:=h
 clear h
 unfold impl_PngOk.f at H
 have HC2:=Aside0.mk H
 clear H
 go_enter Try.func77,Try.ntmps77
 try go_wp2_with (first|((with_reducible refine gate_dst (N:=1) rfl ?_);(try (refine gate_guard (by rfl) ?_;dsimp only));refine boxE 1 (#[.int .i64 a0_0,.int .i64 a0_1,.int .i64 a0_2,.int .i64 a0_3,.bool a0_4,.slice A0_5 l0_5.length c0_5,.slice A0_6 l0_6.length c0_6,.int .i64 a0_7,.int .i64 a0_8,.int .i64 a0_9,.int .i64 a0_10,.slice A0_11 l0_11.length c0_11,.slice A0_12 l0_12.length c0_12]) 37 ?_;intro gb340 hg w3 hbox hb;have BK340:=Aside0.mk hbox;have GW340:=(gwH (w:=w) hg);have GE340:=(gwH (w:=w) hg);replace HB:=Aside0.mk (below_step bH hb);clear hb hbox hg))
 replace BK340:=Aside0.mk (blk_drew BK340.out);replace HB:=Aside0.mk (below_drew1 HB.out)
 refine start_ (n:=8) (S:=fun w'=>w'.cell? ⟨gb340,0,none⟩=some (.int .i64 a0_0)∧w'.cell? ⟨gb340,1,none⟩=some (.int .i64 a0_1)∧w'.cell? ⟨gb340,2,none⟩=some (.int .i64 a0_2)∧w'.cell? ⟨gb340,3,none⟩=some (.int .i64 a0_3)∧w'.cell? ⟨gb340,4,none⟩=some (.bool a0_4)∧w'.cell? ⟨gb340,5,none⟩=some (.slice A0_5 l0_5.length c0_5)∧w'.cell? ⟨gb340,6,none⟩=some (.slice A0_6 l0_6.length c0_6)∧w'.cell? ⟨gb340,7,none⟩=some (.int .i64 a0_7)∧w'.cell? ⟨gb340,8,none⟩=some (.int .i64 a0_8)∧w'.cell? ⟨gb340,9,none⟩=some (.int .i64 a0_9)∧w'.cell? ⟨gb340,10,none⟩=some (.int .i64 a0_10)∧w'.cell? ⟨gb340,11,none⟩=some (.slice A0_11 l0_11.length c0_11)∧w'.cell? ⟨gb340,12,none⟩=some (.slice A0_12 l0_12.length c0_12)) (ds:=[]) #[false,false,false,false,false,false,false,false] (by kernel_rfl) rfl rfl (blk13 BK340) (fun hHeld=>?_);refine with_tabW impl_PngOk.tab1 impl_PngOk.bits1 (fun HT_ HW_=>?_)
 generalize w3.drew=w4 at BK340 HB hHeld ⊢
 refine pure_ (i:=0) (N:=some 5) (v:=?_) (a':=?_) #[true,false,false,false,false,false,false,false] rfl rfl (any_of HT_.out (by kernel_rfl)) (fun _ _ _ h=>h) (Or.inl ⟨by rfl,?_⟩) ?_ ?_
 rotate_left
 ·intro w'
  go_simp
  with_reducible rfl
 rotate_left
 ·simp only [Act.put,sA,sZ,sC,i64_w,i32_w]
  rfl
 refine pure_ (i:=2) (N:=some 7) (v:=?_) (a':=?_) #[true,false,true,false,false,false,false,false] rfl rfl (any_of HT_.out (by kernel_rfl)) (fun _ _ _ h=>h) (Or.inl ⟨by rfl,?_⟩) ?_ ?_
 rotate_left
 ·intro w'
  go_simp
  with_reducible rfl
 rotate_left
 ·simp only [Act.put,sA,sZ,sC,i64_w,i32_w]
  rfl
 refine take_ (i:=1) (N:=some 6) (v:=?_) (a':=?_) #[true,true,true,false,false,false,false,false] rfl rfl (take_ofW HT_.out HW_.out (by kernel_rfl)) (fun _ _ _ h=>h) (Or.inl ⟨by rfl,?_⟩) hHeld ?_ ?_
 rotate_left
 ·rintro w' ⟨s0,s1,s2,s3,s4,s5,s6,s7,s8,s9,s10,s11,s12⟩
  go_simp
  with_reducible rfl
 rotate_left
 ·simp only [Act.put,sA,sZ,sC,i64_w,i32_w]
  rfl
 refine take_ (i:=3) (N:=some 8) (v:=?_) (a':=?_) #[true,true,true,true,false,false,false,false] rfl rfl (take_ofW HT_.out HW_.out (by kernel_rfl)) (fun _ _ _ h=>h) (Or.inl ⟨by rfl,?_⟩) hHeld ?_ ?_
 rotate_left
 ·rintro w' ⟨s0,s1,s2,s3,s4,s5,s6,s7,s8,s9,s10,s11,s12⟩
  go_simp
  with_reducible rfl
 rotate_left
 ·simp only [Act.put,sA,sZ,sC,i64_w,i32_w]
  rfl
 refine join_ (σ:=Nat×Nat) 2 #[true,true,true,true,true,true,false,false] (fun s_=>[(3,.pointer (some ⟨s_.1,0,none⟩)),(4,.pointer (some ⟨s_.2,0,none⟩))]) (fun s_ w'=>(w'.cell? ⟨gb340,0,none⟩=some (.int .i64 a0_0)∧w'.cell? ⟨gb340,1,none⟩=some (.int .i64 a0_1)∧w'.cell? ⟨gb340,2,none⟩=some (.int .i64 a0_2)∧w'.cell? ⟨gb340,3,none⟩=some (.int .i64 a0_3)∧w'.cell? ⟨gb340,4,none⟩=some (.bool a0_4)∧w'.cell? ⟨gb340,5,none⟩=some (.slice A0_5 l0_5.length c0_5)∧w'.cell? ⟨gb340,6,none⟩=some (.slice A0_6 l0_6.length c0_6)∧w'.cell? ⟨gb340,7,none⟩=some (.int .i64 a0_7)∧w'.cell? ⟨gb340,8,none⟩=some (.int .i64 a0_8)∧w'.cell? ⟨gb340,9,none⟩=some (.int .i64 a0_9)∧w'.cell? ⟨gb340,10,none⟩=some (.int .i64 a0_10)∧w'.cell? ⟨gb340,11,none⟩=some (.slice A0_11 l0_11.length c0_11)∧w'.cell? ⟨gb340,12,none⟩=some (.slice A0_12 l0_12.length c0_12))∧(w'.heap[gb340]?=some (.cells #[.int .i64 a0_0,.int .i64 a0_1,.int .i64 a0_2,.int .i64 a0_3,.bool a0_4,.slice A0_5 l0_5.length c0_5,.slice A0_6 l0_6.length c0_6,.int .i64 a0_7,.int .i64 a0_8,.int .i64 a0_9,.int .i64 a0_10,.slice A0_11 l0_11.length c0_11,.slice A0_12 l0_12.length c0_12] 37 (0,0)))∧(w'.heap[s_.1]?=some (.cells #[.int .i64 0,.int .i64 0,.int .i64 0,.int .i64 0,.bool false] 32 (0,0)))∧(w'.heap[s_.2]?=some (.cells #[.int .i64 0,.int .i64 0,.int .i64 0,.int .i64 0,.slice none 0 0] 34 (0,0)))∧(w.heap.size≤s_.1)∧(w.heap.size≤s_.1)∧(gb340≠s_.1)∧(s_.1≠gb340)∧(s_.2≠s_.1)∧(s_.1≠s_.2)∧(w.heap.size≤s_.2)∧(w.heap.size≤s_.2)∧(gb340≠s_.2)∧(s_.2≠gb340)∧(Below w.heap.size w w')) ?_ ?_
 rotate_left
 ·intro hCont
  refine two_ (i:=4) (j:=5) (Ni:=some 3) (Nj:=some 4) #[true,true,true,true,true,false,false,false] #[true,true,true,true,false,true,false,false] rfl rfl rfl rfl (two_of HT_.out (by kernel_rfl)) (by decide) (by decide) (fun K hK=>?_) (fun K hK=>?_)
  ·skip
   refine box_step ?hg (N:=3) ?hd (cs:=#[.int .i64 0,.int .i64 0,.int .i64 0,.int .i64 0,.bool false]) (t:=32) ?hr ?_;(case hd=>rfl);(case hg=>rfl);(case hr=>first|(go_simp;done)|(go_simp;rfl))
   intro gb341 hg w5 hbox hb
   have n0_:=Aside0.mk (bkb BK340 hb)
   have n1_:=Aside0.mk (below_step bG hb)
   have n2_:=Aside0.mk hbox
   have n3_:=(gwG (w:=w) hg)
   have n4_:=(gwG (w:=w) hg)
   have n5_:=(nbl BK340 hg)
   have n6_:=(nbg BK340 hg)
   clear BK340
   clear HB
   have BK340:=n0_
   have HB:=n1_
   have BK341:=n2_
   have GW341:=n3_
   have GE341:=n4_
   have NB340_341:=n5_
   have NB341_340:=n6_
   clear n0_ n1_ n2_ n3_ n4_ n5_ n6_
   clear hb hbox hg
   refine hK.out _ _ (blk13 BK340) (fun hHeld=>?_)
   clear hK K
   refine norm_ (a':=?_) ?_ ?_
   rotate_left
   ·show Act.put _ (some 3) _=_
    simp only [Act.put,sA,sZ,sC,i64_w,i32_w]
    rfl
   refine one_ (i:=5) (N:=some 4) #[true,true,true,true,true,true,false,false] rfl rfl (one_of HT_.out (by kernel_rfl)) (by decide) (fun K hK=>?_)
   refine box_step ?hg (N:=4) ?hd (cs:=#[.int .i64 0,.int .i64 0,.int .i64 0,.int .i64 0,.slice none 0 0]) (t:=34) ?hr ?_;(case hd=>rfl);(case hg=>rfl);(case hr=>first|(go_simp;done)|(go_simp;rfl))
   intro gb342 hg w6 hbox hb
   have n0_:=Aside0.mk (bkb BK340 hb)
   have n1_:=Aside0.mk (bkb BK341 hb)
   have n2_:=Aside0.mk (below_step bG hb)
   have n3_:=Aside0.mk hbox
   have n4_:=(gwG (w:=w) hg)
   have n5_:=(gwG (w:=w) hg)
   have n6_:=(nbl BK340 hg)
   have n7_:=(nbg BK340 hg)
   have n8_:=(nbl BK341 hg)
   have n9_:=(nbg BK341 hg)
   clear BK340
   clear BK341
   clear HB
   have BK340:=n0_
   have BK341:=n1_
   have HB:=n2_
   have BK342:=n3_
   have GW342:=n4_
   have GE342:=n5_
   have NB340_342:=n6_
   have NB342_340:=n7_
   have NB341_342:=n8_
   have NB342_341:=n9_
   clear n0_ n1_ n2_ n3_ n4_ n5_ n6_ n7_ n8_ n9_
   clear hb hbox hg
   refine hK.out _ _ (blk13 BK340) (fun hHeld=>?_)
   clear hK K
   refine norm_ (a':=?_) ?_ ?_
   rotate_left
   ·show Act.put _ (some 4) _=_
    simp only [Act.put,sA,sZ,sC,i64_w,i32_w]
    rfl
   exact norm_ (by simp only [putAll,Act.put,sA,sZ,sC]) (hCont (gb341,gb342) _ ⟨hHeld,(bk BK340),(bk BK341),(bk BK342),GW341.out,GE341.out,NB340_341.out,NB341_340.out,NB342_341.out,NB341_342.out,GW342.out,GE342.out,NB340_342.out,NB342_340.out,bG⟩)
  ·skip
   refine box_step ?hg (N:=4) ?hd (cs:=#[.int .i64 0,.int .i64 0,.int .i64 0,.int .i64 0,.slice none 0 0]) (t:=34) ?hr ?_;(case hd=>rfl);(case hg=>rfl);(case hr=>first|(go_simp;done)|(go_simp;rfl))
   intro gb342 hg w5 hbox hb
   have n0_:=Aside0.mk (bkb BK340 hb)
   have n1_:=Aside0.mk (below_step bG hb)
   have n2_:=Aside0.mk hbox
   have n3_:=(gwG (w:=w) hg)
   have n4_:=(gwG (w:=w) hg)
   have n5_:=(nbl BK340 hg)
   have n6_:=(nbg BK340 hg)
   clear BK340
   clear HB
   have BK340:=n0_
   have HB:=n1_
   have BK342:=n2_
   have GW342:=n3_
   have GE342:=n4_
   have NB340_342:=n5_
   have NB342_340:=n6_
   clear n0_ n1_ n2_ n3_ n4_ n5_ n6_
   clear hb hbox hg
   refine hK.out _ _ (blk13 BK340) (fun hHeld=>?_)
   clear hK K
   refine norm_ (a':=?_) ?_ ?_
   rotate_left
   ·show Act.put _ (some 4) _=_
    simp only [Act.put,sA,sZ,sC,i64_w,i32_w]
    rfl
   refine one_ (i:=4) (N:=some 3) #[true,true,true,true,true,true,false,false] rfl rfl (one_of HT_.out (by kernel_rfl)) (by decide) (fun K hK=>?_)
   refine box_step ?hg (N:=3) ?hd (cs:=#[.int .i64 0,.int .i64 0,.int .i64 0,.int .i64 0,.bool false]) (t:=32) ?hr ?_;(case hd=>rfl);(case hg=>rfl);(case hr=>first|(go_simp;done)|(go_simp;rfl))
   intro gb341 hg w6 hbox hb
   have n0_:=Aside0.mk (bkb BK340 hb)
   have n1_:=Aside0.mk (bkb BK342 hb)
   have n2_:=Aside0.mk (below_step bG hb)
   have n3_:=Aside0.mk hbox
   have n4_:=(gwG (w:=w) hg)
   have n5_:=(gwG (w:=w) hg)
   have n6_:=(nbl BK340 hg)
   have n7_:=(nbg BK340 hg)
   have n8_:=(nbl BK342 hg)
   have n9_:=(nbg BK342 hg)
   clear BK340
   clear BK342
   clear HB
   have BK340:=n0_
   have BK342:=n1_
   have HB:=n2_
   have BK341:=n3_
   have GW341:=n4_
   have GE341:=n5_
   have NB340_341:=n6_
   have NB341_340:=n7_
   have NB342_341:=n8_
   have NB341_342:=n9_
   clear n0_ n1_ n2_ n3_ n4_ n5_ n6_ n7_ n8_ n9_
   clear hb hbox hg
   refine hK.out _ _ (blk13 BK340) (fun hHeld=>?_)
   clear hK K
   refine norm_ (a':=?_) ?_ ?_
   rotate_left
   ·show Act.put _ (some 3) _=_
    simp only [Act.put,sA,sZ,sC,i64_w,i32_w]
    rfl
   exact norm_ (by simp only [putAll,Act.put,sA,sZ,sC]) (hCont (gb341,gb342) _ ⟨hHeld,(bk BK340),(bk BK341),(bk BK342),GW341.out,GE341.out,NB340_341.out,NB341_340.out,NB342_341.out,NB341_342.out,GW342.out,GE342.out,NB340_342.out,NB342_340.out,bG⟩)
 rintro ⟨gb341,gb342⟩ w7 ⟨hS_,h0_,h1_,h2_,h3_,h4_,h5_,h6_,h7_,h8_,h9_,h10_,h11_,h12_,h13_⟩
 have n0_:Aside0 (w7.heap[gb340]?=some (.cells #[.int .i64 a0_0,.int .i64 a0_1,.int .i64 a0_2,.int .i64 a0_3,.bool a0_4,.slice A0_5 l0_5.length c0_5,.slice A0_6 l0_6.length c0_6,.int .i64 a0_7,.int .i64 a0_8,.int .i64 a0_9,.int .i64 a0_10,.slice A0_11 l0_11.length c0_11,.slice A0_12 l0_12.length c0_12] 37 (0,0))):=⟨h0_⟩
 have n1_:Aside0 (w7.heap[gb341]?=some (.cells #[.int .i64 0,.int .i64 0,.int .i64 0,.int .i64 0,.bool false] 32 (0,0))):=⟨h1_⟩
 have n2_:Aside0 (w7.heap[gb342]?=some (.cells #[.int .i64 0,.int .i64 0,.int .i64 0,.int .i64 0,.slice none 0 0] 34 (0,0))):=⟨h2_⟩
 have n3_:Aside0 (w.heap.size≤gb341):=⟨h3_⟩
 have n4_:Aside0 (w.heap.size≤gb341):=⟨h4_⟩
 have n5_:Aside0 (gb340≠gb341):=⟨h5_⟩
 have n6_:Aside0 (gb341≠gb340):=⟨h6_⟩
 have n7_:Aside0 (gb342≠gb341):=⟨h7_⟩
 have n8_:Aside0 (gb341≠gb342):=⟨h8_⟩
 have n9_:Aside0 (w.heap.size≤gb342):=⟨h9_⟩
 have n10_:Aside0 (w.heap.size≤gb342):=⟨h10_⟩
 have n11_:Aside0 (gb340≠gb342):=⟨h11_⟩
 have n12_:Aside0 (gb342≠gb340):=⟨h12_⟩
 have n13_:Aside0 (Below w.heap.size w w7):=⟨h13_⟩
 clear BK340
 clear HB
 clear h0_ h1_ h2_ h3_ h4_ h5_ h6_ h7_ h8_ h9_ h10_ h11_ h12_ h13_
 have BK340:=n0_
 have BK341:=n1_
 have BK342:=n2_
 have GW341:=n3_
 have GE341:=n4_
 have NB340_341:=n5_
 have NB341_340:=n6_
 have NB342_341:=n7_
 have NB341_342:=n8_
 have GW342:=n9_
 have GE342:=n10_
 have NB340_342:=n11_
 have NB342_340:=n12_
 have HB:=n13_
 clear n0_ n1_ n2_ n3_ n4_ n5_ n6_ n7_ n8_ n9_ n10_ n11_ n12_ n13_
 have hHeld:w7.cell? ⟨gb340,0,none⟩=some (.int .i64 a0_0)∧w7.cell? ⟨gb340,1,none⟩=some (.int .i64 a0_1)∧w7.cell? ⟨gb340,2,none⟩=some (.int .i64 a0_2)∧w7.cell? ⟨gb340,3,none⟩=some (.int .i64 a0_3)∧w7.cell? ⟨gb340,4,none⟩=some (.bool a0_4)∧w7.cell? ⟨gb340,5,none⟩=some (.slice A0_5 l0_5.length c0_5)∧w7.cell? ⟨gb340,6,none⟩=some (.slice A0_6 l0_6.length c0_6)∧w7.cell? ⟨gb340,7,none⟩=some (.int .i64 a0_7)∧w7.cell? ⟨gb340,8,none⟩=some (.int .i64 a0_8)∧w7.cell? ⟨gb340,9,none⟩=some (.int .i64 a0_9)∧w7.cell? ⟨gb340,10,none⟩=some (.int .i64 a0_10)∧w7.cell? ⟨gb340,11,none⟩=some (.slice A0_11 l0_11.length c0_11)∧w7.cell? ⟨gb340,12,none⟩=some (.slice A0_12 l0_12.length c0_12):=hS_
 refine norm_ (a':=?_) ?_ ?_
 rotate_left
 ·simp only [putAll,Act.put,sA,sZ,sC]
  rfl
 refine one_ (i:=6) (N:=none) #[true,true,true,true,true,true,true,false] rfl rfl (one_of HT_.out (by kernel_rfl)) (by decide) (fun K hK=>?_)
 have hs8:w7.cell? ⟨gb341,0,none⟩=some (.int .i64 0):=(blk_cell BK341.out 0).trans rfl
 have hfs8:=blk_frozen BK341.out 0
 have hns8_0:=NB340_341.out
 have hns8_2:=NB342_341.out
 have hms8_0:=NB341_340.out
 have hms8_2:=NB341_342.out
 have hs9:w7.cell? ⟨gb341,1,none⟩=some (.int .i64 0):=(blk_cell BK341.out 1).trans rfl
 have hfs9:=blk_frozen BK341.out 1
 have hns9_0:=NB340_341.out
 have hns9_2:=NB342_341.out
 have hms9_0:=NB341_340.out
 have hms9_2:=NB341_342.out
 have hs10:w7.cell? ⟨gb341,2,none⟩=some (.int .i64 0):=(blk_cell BK341.out 2).trans rfl
 have hfs10:=blk_frozen BK341.out 2
 have hns10_0:=NB340_341.out
 have hns10_2:=NB342_341.out
 have hms10_0:=NB341_340.out
 have hms10_2:=NB341_342.out
 have hs11:w7.cell? ⟨gb341,3,none⟩=some (.int .i64 0):=(blk_cell BK341.out 3).trans rfl
 have hfs11:=blk_frozen BK341.out 3
 have hns11_0:=NB340_341.out
 have hns11_2:=NB342_341.out
 have hms11_0:=NB341_340.out
 have hms11_2:=NB341_342.out
 have hs12:w7.cell? ⟨gb341,4,none⟩=some (.bool false):=(blk_cell BK341.out 4).trans rfl
 have hfs12:=blk_frozen BK341.out 4
 have hns12_0:=NB340_341.out
 have hns12_2:=NB342_341.out
 have hms12_0:=NB341_340.out
 have hms12_2:=NB341_342.out
 refine skip_ (w1:=?_) (by rfl) rfl ?_ ?_
 rotate_left
 ·go_simp
  rfl
 refine hK.out _ _ ⟨(cf NB340_341 ((cf NB340_341 ((cf NB340_341 ((cf NB340_341 ((cf NB340_341 (hHeld.1)))))))))),(cf NB340_341 ((cf NB340_341 ((cf NB340_341 ((cf NB340_341 ((cf NB340_341 (hHeld.2.1)))))))))),(cf NB340_341 ((cf NB340_341 ((cf NB340_341 ((cf NB340_341 ((cf NB340_341 (hHeld.2.2.1)))))))))),(cf NB340_341 ((cf NB340_341 ((cf NB340_341 ((cf NB340_341 ((cf NB340_341 (hHeld.2.2.2.1)))))))))),(cf NB340_341 ((cf NB340_341 ((cf NB340_341 ((cf NB340_341 ((cf NB340_341 (hHeld.2.2.2.2.1)))))))))),(cf NB340_341 ((cf NB340_341 ((cf NB340_341 ((cf NB340_341 ((cf NB340_341 (hHeld.2.2.2.2.2.1)))))))))),(cf NB340_341 ((cf NB340_341 ((cf NB340_341 ((cf NB340_341 ((cf NB340_341 (hHeld.2.2.2.2.2.2.1)))))))))),(cf NB340_341 ((cf NB340_341 ((cf NB340_341 ((cf NB340_341 ((cf NB340_341 (hHeld.2.2.2.2.2.2.2.1)))))))))),(cf NB340_341 ((cf NB340_341 ((cf NB340_341 ((cf NB340_341 ((cf NB340_341 (hHeld.2.2.2.2.2.2.2.2.1)))))))))),(cf NB340_341 ((cf NB340_341 ((cf NB340_341 ((cf NB340_341 ((cf NB340_341 (hHeld.2.2.2.2.2.2.2.2.2.1)))))))))),(cf NB340_341 ((cf NB340_341 ((cf NB340_341 ((cf NB340_341 ((cf NB340_341 (hHeld.2.2.2.2.2.2.2.2.2.2.1)))))))))),(cf NB340_341 ((cf NB340_341 ((cf NB340_341 ((cf NB340_341 ((cf NB340_341 (hHeld.2.2.2.2.2.2.2.2.2.2.2.1)))))))))),(cf NB340_341 ((cf NB340_341 ((cf NB340_341 ((cf NB340_341 ((cf NB340_341 (hHeld.2.2.2.2.2.2.2.2.2.2.2.2))))))))))⟩ (fun hHeld=>?_)
 clear hK K
 refine one_ (i:=7) (N:=none) #[true,true,true,true,true,true,true,true] rfl rfl (one_of HT_.out (by kernel_rfl)) (by decide) (fun K hK=>?_)
 have hs13:w7.cell? ⟨gb342,0,none⟩=some (.int .i64 0):=(blk_cell BK342.out 0).trans rfl
 have hfs13:=blk_frozen BK342.out 0
 have hns13_0:=NB340_342.out
 have hns13_1:=NB341_342.out
 have hms13_0:=NB342_340.out
 have hms13_1:=NB342_341.out
 have hs14:w7.cell? ⟨gb342,1,none⟩=some (.int .i64 0):=(blk_cell BK342.out 1).trans rfl
 have hfs14:=blk_frozen BK342.out 1
 have hns14_0:=NB340_342.out
 have hns14_1:=NB341_342.out
 have hms14_0:=NB342_340.out
 have hms14_1:=NB342_341.out
 have hs15:w7.cell? ⟨gb342,2,none⟩=some (.int .i64 0):=(blk_cell BK342.out 2).trans rfl
 have hfs15:=blk_frozen BK342.out 2
 have hns15_0:=NB340_342.out
 have hns15_1:=NB341_342.out
 have hms15_0:=NB342_340.out
 have hms15_1:=NB342_341.out
 have hs16:w7.cell? ⟨gb342,3,none⟩=some (.int .i64 0):=(blk_cell BK342.out 3).trans rfl
 have hfs16:=blk_frozen BK342.out 3
 have hns16_0:=NB340_342.out
 have hns16_1:=NB341_342.out
 have hms16_0:=NB342_340.out
 have hms16_1:=NB342_341.out
 have hs17:w7.cell? ⟨gb342,4,none⟩=some (.slice none 0 0):=(blk_cell BK342.out 4).trans rfl
 have hfs17:=blk_frozen BK342.out 4
 have hns17_0:=NB340_342.out
 have hns17_1:=NB341_342.out
 have hms17_0:=NB342_340.out
 have hms17_1:=NB342_341.out
 refine skip_ (w1:=?_) (by rfl) rfl ?_ ?_
 rotate_left
 ·go_simp
  rfl
 refine hK.out _ _ ⟨(cf NB340_342 ((cf NB340_342 ((cf NB340_342 ((cf NB340_342 ((cf NB340_342 (hHeld.1)))))))))),(cf NB340_342 ((cf NB340_342 ((cf NB340_342 ((cf NB340_342 ((cf NB340_342 (hHeld.2.1)))))))))),(cf NB340_342 ((cf NB340_342 ((cf NB340_342 ((cf NB340_342 ((cf NB340_342 (hHeld.2.2.1)))))))))),(cf NB340_342 ((cf NB340_342 ((cf NB340_342 ((cf NB340_342 ((cf NB340_342 (hHeld.2.2.2.1)))))))))),(cf NB340_342 ((cf NB340_342 ((cf NB340_342 ((cf NB340_342 ((cf NB340_342 (hHeld.2.2.2.2.1)))))))))),(cf NB340_342 ((cf NB340_342 ((cf NB340_342 ((cf NB340_342 ((cf NB340_342 (hHeld.2.2.2.2.2.1)))))))))),(cf NB340_342 ((cf NB340_342 ((cf NB340_342 ((cf NB340_342 ((cf NB340_342 (hHeld.2.2.2.2.2.2.1)))))))))),(cf NB340_342 ((cf NB340_342 ((cf NB340_342 ((cf NB340_342 ((cf NB340_342 (hHeld.2.2.2.2.2.2.2.1)))))))))),(cf NB340_342 ((cf NB340_342 ((cf NB340_342 ((cf NB340_342 ((cf NB340_342 (hHeld.2.2.2.2.2.2.2.2.1)))))))))),(cf NB340_342 ((cf NB340_342 ((cf NB340_342 ((cf NB340_342 ((cf NB340_342 (hHeld.2.2.2.2.2.2.2.2.2.1)))))))))),(cf NB340_342 ((cf NB340_342 ((cf NB340_342 ((cf NB340_342 ((cf NB340_342 (hHeld.2.2.2.2.2.2.2.2.2.2.1)))))))))),(cf NB340_342 ((cf NB340_342 ((cf NB340_342 ((cf NB340_342 ((cf NB340_342 (hHeld.2.2.2.2.2.2.2.2.2.2.2.1)))))))))),(cf NB340_342 ((cf NB340_342 ((cf NB340_342 ((cf NB340_342 ((cf NB340_342 (hHeld.2.2.2.2.2.2.2.2.2.2.2.2))))))))))⟩ (fun hHeld=>?_)
 clear hK K
 refine done_ (done_of HT_.out (by kernel_rfl)) ?_
 go_upto_region 2 with (fail)
 go_cut [44] (fun v44 wc=>∃ (kq:Nat) (x44_1:Bool),v44=.bool x44_1∧Aside0 (impl_PngOk.j0 kq x44_1 a0_0 a0_1 a0_2 a0_3 a0_4 l0_5 l0_6 a0_7 a0_8 a0_9 a0_10 l0_11 l0_12 a0_0 a0_1 a0_2 a0_3 a0_4=some r)∧Aside0 (kq≤k)∧Aside0 (wc.heap[gb340]?=some (.cells #[.int .i64 a0_0,.int .i64 a0_1,.int .i64 a0_2,.int .i64 a0_3,.bool a0_4,(.slice A0_5 l0_5.length c0_5),(.slice A0_6 l0_6.length c0_6),.int .i64 a0_7,.int .i64 a0_8,.int .i64 a0_9,.int .i64 a0_10,(.slice A0_11 l0_11.length c0_11),(.slice A0_12 l0_12.length c0_12)] 37 (0,0)))∧Aside0 (wc.heap[gb341]?=some (.cells #[.int .i64 a0_0,.int .i64 a0_1,.int .i64 a0_2,.int .i64 a0_3,.bool a0_4] 32 (0,0)))∧Aside0 (wc.heap[gb342]?=some (.cells #[.int .i64 a0_7,.int .i64 a0_8,.int .i64 a0_9,.int .i64 a0_10,(.slice A0_11 l0_11.length c0_11)] 34 (0,0)))∧Aside0 (Below w.heap.size w wc))
 case first =>
  have H:=HC2.out
  clear HC2
  obtain ⟨t343,A18,H⟩:=bS H
  try dsimp only at H
  by_cases c19:t343=true
  ·subst c19
   rw [if_pos rfl] at H
   obtain ⟨t344,A20,H⟩:=bS H
   try dsimp only at H
   by_cases c21:t344=true
   ·subst c21
    rw [if_pos rfl] at H
    by_cases c22:a0_7=a0_0
    ·rw [if_pos c22] at H
     have c22b0:(a0_7 == a0_0)=true:=beq_iff_eq.mpr c22
     have c22b1:(a0_7 != a0_0)=false:=bne_eq_false_iff_eq.mpr c22
     clear c22
     (first|rw [c22b0]|(simp only [i64_w,i32_w];rw [c22b0])|skip)
     by_cases c23:a0_8=a0_1
     ·rw [if_pos c23] at H
      have c23b0:(a0_8 == a0_1)=true:=beq_iff_eq.mpr c23
      have c23b1:(a0_8 != a0_1)=false:=bne_eq_false_iff_eq.mpr c23
      clear c23
      by_cases c24:a0_9=a0_3
      ·rw [if_pos c24] at H
       have c24b0:(a0_9 == a0_3)=true:=beq_iff_eq.mpr c24
       have c24b1:(a0_9 != a0_3)=false:=bne_eq_false_iff_eq.mpr c24
       clear c24
       have H':=Aside0.mk H
       clear H
       have hnb25:=NB341_340.out
       have hnc25:=NB340_341.out
       have hnb26:=NB341_342.out
       have hnc26:=NB342_341.out
       obtain ⟨z27_0,z27_1,z27_2,z27_3,z27_4,y27_0,y27_1,y27_2,y27_3,y27_4⟩:=blk5f BK341
       go_wp2_with (first|((with_reducible refine gate_callee (f:=107) rfl ?_);refine gL (some 10) Try.func107 #[.agg #[.int .i64 a0_0,.int .i64 a0_1,.int .i64 a0_2,.int .i64 a0_3,.bool a0_4]] ?_;(with_reducible refine (impl_HeadOk.calls k a0_0 a0_1 a0_2 a0_3 a0_4 true _ A18.out).mono ?_);rintro e w28 ⟨rfl,hb⟩;refine ⟨_,rfl,?_⟩;replace BK340:=Aside0.mk (bfb BK340 hb);replace BK341:=Aside0.mk (blk_below (g:=gb341) (o:=.cells #[.int .i64 a0_0,.int .i64 a0_1,.int .i64 a0_2,.int .i64 a0_3,.bool a0_4] 32 (0,0)) (by (with_reducible repeat (first|refine blk_drewN ?_ _|refine blk_drew ?_|refine blk_alloc ?_ _));refine blk_far ?_ NB341_342.out _;refine blk_far ?_ NB341_342.out _;refine blk_far ?_ NB341_342.out _;refine blk_far ?_ NB341_342.out _;(with_reducible repeat (first|refine blk_drewN ?_ _|refine blk_drew ?_|refine blk_alloc ?_ _));refine blk_far ?_ NB341_342.out _;refine bP (cs:=?_) ?_ 4 ?_;rotate_left;refine bP (cs:=?_) ?_ 3 ?_;rotate_left;refine bP (cs:=?_) ?_ 2 ?_;rotate_left;refine bP (cs:=?_) ?_ 1 ?_;rotate_left;refine bP (cs:=?_) ?_ 0 ?_;rotate_left;exact BK341.out;all_goals ((try simp only [sA,sZ,sC]);first|done|rfl)) hb);replace BK342:=Aside0.mk (blk_below (g:=gb342) (o:=.cells #[.int .i64 a0_7,.int .i64 a0_8,.int .i64 a0_9,.int .i64 a0_10,.slice A0_11 l0_11.length c0_11] 34 (0,0)) (by refine bP (cs:=?_) ?_ 4 ?_;rotate_left;refine bP (cs:=?_) ?_ 3 ?_;rotate_left;refine bP (cs:=?_) ?_ 2 ?_;rotate_left;refine bP (cs:=?_) ?_ 1 ?_;rotate_left;refine bP (cs:=?_) ?_ 0 ?_;rotate_left;refine blk_far ?_ NB342_341.out _;refine blk_far ?_ NB342_341.out _;refine blk_far ?_ NB342_341.out _;refine blk_far ?_ NB342_341.out _;refine blk_far ?_ NB342_341.out _;(with_reducible repeat (first|refine blk_drewN ?_ _|refine blk_drew ?_|refine blk_alloc ?_ _));exact BK342.out;all_goals ((try simp only [sA,sZ,sC]);first|done|rfl)) hb);replace HB:=Aside0.mk (below_step bG hb);(try clear hb);have hnb29:=NB342_340.out;have hnc29:=NB340_342.out;obtain ⟨z30_0,z30_1,z30_2,z30_3,z30_4,y30_0,y30_1,y30_2,y30_3,y30_4⟩:=blk5f BK342)|(go_at_call 108;(with_reducible refine (impl_RasterOk.calls k a0_7 a0_8 a0_9 a0_10 _ _ l0_11 true _ (cB HR0_11) HC0_11.out A20.out).mono ?_);rintro e w31 ⟨rfl,hb⟩;replace BK340:=Aside0.mk (bkb BK340 hb);replace BK341:=Aside0.mk (bkb BK341 hb);replace BK342:=Aside0.mk (bkb BK342 hb);replace HB:=Aside0.mk (below_step bG hb);(try clear hb);obtain ⟨z32_0,z32_1,z32_2,z32_3,z32_4,y32_0,y32_1,y32_2,y32_3,y32_4⟩:=blk5f BK342;obtain ⟨z33_0,z33_1,z33_2,z33_3,z33_4,y33_0,y33_1,y33_2,y33_3,y33_4⟩:=blk5f BK341))
       go_meet
       case rel=>exact ⟨_,((a0_10 != a0_2)),fS,H',⟨by first|omega|exact Nat.le_refl _⟩,⟨by (with_reducible repeat (first|refine blk_drewN ?_ _|refine blk_drew ?_|refine blk_alloc ?_ _));exact BK340.out⟩,⟨by (with_reducible repeat (first|refine blk_drewN ?_ _|refine blk_drew ?_|refine blk_alloc ?_ _));exact BK341.out⟩,⟨by (with_reducible repeat (first|refine blk_drewN ?_ _|refine blk_drew ?_|refine blk_alloc ?_ _));exact BK342.out⟩,⟨bG⟩⟩
      ·rw [if_neg c24] at H
       have c24b0:(a0_9 == a0_3)=false:=beq_eq_false_iff_ne.mpr c24
       have c24b1:(a0_9 != a0_3)=true:=bne_iff_ne.mpr c24
       have H':=Aside0.mk H
       clear H
       have hnb34:=NB341_340.out
       have hnc34:=NB340_341.out
       have hnb35:=NB341_342.out
       have hnc35:=NB342_341.out
       obtain ⟨z36_0,z36_1,z36_2,z36_3,z36_4,y36_0,y36_1,y36_2,y36_3,y36_4⟩:=blk5f BK341
       go_wp2_with (first|((with_reducible refine gate_callee (f:=107) rfl ?_);refine gL (some 10) Try.func107 #[.agg #[.int .i64 a0_0,.int .i64 a0_1,.int .i64 a0_2,.int .i64 a0_3,.bool a0_4]] ?_;(with_reducible refine (impl_HeadOk.calls k a0_0 a0_1 a0_2 a0_3 a0_4 true _ A18.out).mono ?_);rintro e w37 ⟨rfl,hb⟩;refine ⟨_,rfl,?_⟩;replace BK340:=Aside0.mk (bfb BK340 hb);replace BK341:=Aside0.mk (blk_below (g:=gb341) (o:=.cells #[.int .i64 a0_0,.int .i64 a0_1,.int .i64 a0_2,.int .i64 a0_3,.bool a0_4] 32 (0,0)) (by (with_reducible repeat (first|refine blk_drewN ?_ _|refine blk_drew ?_|refine blk_alloc ?_ _));refine blk_far ?_ NB341_342.out _;refine blk_far ?_ NB341_342.out _;refine blk_far ?_ NB341_342.out _;refine blk_far ?_ NB341_342.out _;(with_reducible repeat (first|refine blk_drewN ?_ _|refine blk_drew ?_|refine blk_alloc ?_ _));refine blk_far ?_ NB341_342.out _;refine bP (cs:=?_) ?_ 4 ?_;rotate_left;refine bP (cs:=?_) ?_ 3 ?_;rotate_left;refine bP (cs:=?_) ?_ 2 ?_;rotate_left;refine bP (cs:=?_) ?_ 1 ?_;rotate_left;refine bP (cs:=?_) ?_ 0 ?_;rotate_left;exact BK341.out;all_goals ((try simp only [sA,sZ,sC]);first|done|rfl)) hb);replace BK342:=Aside0.mk (blk_below (g:=gb342) (o:=.cells #[.int .i64 a0_7,.int .i64 a0_8,.int .i64 a0_9,.int .i64 a0_10,.slice A0_11 l0_11.length c0_11] 34 (0,0)) (by refine bP (cs:=?_) ?_ 4 ?_;rotate_left;refine bP (cs:=?_) ?_ 3 ?_;rotate_left;refine bP (cs:=?_) ?_ 2 ?_;rotate_left;refine bP (cs:=?_) ?_ 1 ?_;rotate_left;refine bP (cs:=?_) ?_ 0 ?_;rotate_left;refine blk_far ?_ NB342_341.out _;refine blk_far ?_ NB342_341.out _;refine blk_far ?_ NB342_341.out _;refine blk_far ?_ NB342_341.out _;refine blk_far ?_ NB342_341.out _;(with_reducible repeat (first|refine blk_drewN ?_ _|refine blk_drew ?_|refine blk_alloc ?_ _));exact BK342.out;all_goals ((try simp only [sA,sZ,sC]);first|done|rfl)) hb);replace HB:=Aside0.mk (below_step bG hb);(try clear hb);have hnb38:=NB342_340.out;have hnc38:=NB340_342.out;obtain ⟨z39_0,z39_1,z39_2,z39_3,z39_4,y39_0,y39_1,y39_2,y39_3,y39_4⟩:=blk5f BK342)|(go_at_call 108;(with_reducible refine (impl_RasterOk.calls k a0_7 a0_8 a0_9 a0_10 _ _ l0_11 true _ (cB HR0_11) HC0_11.out A20.out).mono ?_);rintro e w40 ⟨rfl,hb⟩;replace BK340:=Aside0.mk (bkb BK340 hb);replace BK341:=Aside0.mk (bkb BK341 hb);replace BK342:=Aside0.mk (bkb BK342 hb);replace HB:=Aside0.mk (below_step bG hb);(try clear hb);obtain ⟨z41_0,z41_1,z41_2,z41_3,z41_4,y41_0,y41_1,y41_2,y41_3,y41_4⟩:=blk5f BK342;obtain ⟨z42_0,z42_1,z42_2,z42_3,z42_4,y42_0,y42_1,y42_2,y42_3,y42_4⟩:=blk5f BK341))
       go_meet
       case rel=>exact ⟨_,(true),fS,H',⟨by first|omega|exact Nat.le_refl _⟩,⟨by (with_reducible repeat (first|refine blk_drewN ?_ _|refine blk_drew ?_|refine blk_alloc ?_ _));exact BK340.out⟩,⟨by (with_reducible repeat (first|refine blk_drewN ?_ _|refine blk_drew ?_|refine blk_alloc ?_ _));exact BK341.out⟩,⟨by (with_reducible repeat (first|refine blk_drewN ?_ _|refine blk_drew ?_|refine blk_alloc ?_ _));exact BK342.out⟩,⟨bG⟩⟩
     ·rw [if_neg c23] at H
      have c23b0:(a0_8 == a0_1)=false:=beq_eq_false_iff_ne.mpr c23
      have c23b1:(a0_8 != a0_1)=true:=bne_iff_ne.mpr c23
      have H':=Aside0.mk H
      clear H
      have hnb43:=NB341_340.out
      have hnc43:=NB340_341.out
      have hnb44:=NB341_342.out
      have hnc44:=NB342_341.out
      obtain ⟨z45_0,z45_1,z45_2,z45_3,z45_4,y45_0,y45_1,y45_2,y45_3,y45_4⟩:=blk5f BK341
      go_wp2_with (first|((with_reducible refine gate_callee (f:=107) rfl ?_);refine gL (some 10) Try.func107 #[.agg #[.int .i64 a0_0,.int .i64 a0_1,.int .i64 a0_2,.int .i64 a0_3,.bool a0_4]] ?_;(with_reducible refine (impl_HeadOk.calls k a0_0 a0_1 a0_2 a0_3 a0_4 true _ A18.out).mono ?_);rintro e w46 ⟨rfl,hb⟩;refine ⟨_,rfl,?_⟩;replace BK340:=Aside0.mk (bfb BK340 hb);replace BK341:=Aside0.mk (blk_below (g:=gb341) (o:=.cells #[.int .i64 a0_0,.int .i64 a0_1,.int .i64 a0_2,.int .i64 a0_3,.bool a0_4] 32 (0,0)) (by (with_reducible repeat (first|refine blk_drewN ?_ _|refine blk_drew ?_|refine blk_alloc ?_ _));refine blk_far ?_ NB341_342.out _;refine blk_far ?_ NB341_342.out _;refine blk_far ?_ NB341_342.out _;refine blk_far ?_ NB341_342.out _;(with_reducible repeat (first|refine blk_drewN ?_ _|refine blk_drew ?_|refine blk_alloc ?_ _));refine blk_far ?_ NB341_342.out _;refine bP (cs:=?_) ?_ 4 ?_;rotate_left;refine bP (cs:=?_) ?_ 3 ?_;rotate_left;refine bP (cs:=?_) ?_ 2 ?_;rotate_left;refine bP (cs:=?_) ?_ 1 ?_;rotate_left;refine bP (cs:=?_) ?_ 0 ?_;rotate_left;exact BK341.out;all_goals ((try simp only [sA,sZ,sC]);first|done|rfl)) hb);replace BK342:=Aside0.mk (blk_below (g:=gb342) (o:=.cells #[.int .i64 a0_7,.int .i64 a0_8,.int .i64 a0_9,.int .i64 a0_10,.slice A0_11 l0_11.length c0_11] 34 (0,0)) (by refine bP (cs:=?_) ?_ 4 ?_;rotate_left;refine bP (cs:=?_) ?_ 3 ?_;rotate_left;refine bP (cs:=?_) ?_ 2 ?_;rotate_left;refine bP (cs:=?_) ?_ 1 ?_;rotate_left;refine bP (cs:=?_) ?_ 0 ?_;rotate_left;refine blk_far ?_ NB342_341.out _;refine blk_far ?_ NB342_341.out _;refine blk_far ?_ NB342_341.out _;refine blk_far ?_ NB342_341.out _;refine blk_far ?_ NB342_341.out _;(with_reducible repeat (first|refine blk_drewN ?_ _|refine blk_drew ?_|refine blk_alloc ?_ _));exact BK342.out;all_goals ((try simp only [sA,sZ,sC]);first|done|rfl)) hb);replace HB:=Aside0.mk (below_step bG hb);(try clear hb);have hnb47:=NB342_340.out;have hnc47:=NB340_342.out;obtain ⟨z48_0,z48_1,z48_2,z48_3,z48_4,y48_0,y48_1,y48_2,y48_3,y48_4⟩:=blk5f BK342)|(go_at_call 108;(with_reducible refine (impl_RasterOk.calls k a0_7 a0_8 a0_9 a0_10 _ _ l0_11 true _ (cB HR0_11) HC0_11.out A20.out).mono ?_);rintro e w49 ⟨rfl,hb⟩;replace BK340:=Aside0.mk (bkb BK340 hb);replace BK341:=Aside0.mk (bkb BK341 hb);replace BK342:=Aside0.mk (bkb BK342 hb);replace HB:=Aside0.mk (below_step bG hb);(try clear hb);obtain ⟨z50_0,z50_1,z50_2,z50_3,z50_4,y50_0,y50_1,y50_2,y50_3,y50_4⟩:=blk5f BK342;obtain ⟨z51_0,z51_1,z51_2,z51_3,z51_4,y51_0,y51_1,y51_2,y51_3,y51_4⟩:=blk5f BK341))
      go_meet
      case rel=>exact ⟨_,(true),fS,H',⟨by first|omega|exact Nat.le_refl _⟩,⟨by (with_reducible repeat (first|refine blk_drewN ?_ _|refine blk_drew ?_|refine blk_alloc ?_ _));exact BK340.out⟩,⟨by (with_reducible repeat (first|refine blk_drewN ?_ _|refine blk_drew ?_|refine blk_alloc ?_ _));exact BK341.out⟩,⟨by (with_reducible repeat (first|refine blk_drewN ?_ _|refine blk_drew ?_|refine blk_alloc ?_ _));exact BK342.out⟩,⟨bG⟩⟩
    ·rw [if_neg c22] at H
     have c22b0:(a0_7 == a0_0)=false:=beq_eq_false_iff_ne.mpr c22
     have c22b1:(a0_7 != a0_0)=true:=bne_iff_ne.mpr c22
     (first|rw [c22b0]|(simp only [i64_w,i32_w];rw [c22b0])|skip)
     have H':=Aside0.mk H
     clear H
     have hnb52:=NB341_340.out
     have hnc52:=NB340_341.out
     have hnb53:=NB341_342.out
     have hnc53:=NB342_341.out
     obtain ⟨z54_0,z54_1,z54_2,z54_3,z54_4,y54_0,y54_1,y54_2,y54_3,y54_4⟩:=blk5f BK341
     go_wp2_with (first|((with_reducible refine gate_callee (f:=107) rfl ?_);refine gL (some 10) Try.func107 #[.agg #[.int .i64 a0_0,.int .i64 a0_1,.int .i64 a0_2,.int .i64 a0_3,.bool a0_4]] ?_;(with_reducible refine (impl_HeadOk.calls k a0_0 a0_1 a0_2 a0_3 a0_4 true _ A18.out).mono ?_);rintro e w55 ⟨rfl,hb⟩;refine ⟨_,rfl,?_⟩;replace BK340:=Aside0.mk (bfb BK340 hb);replace BK341:=Aside0.mk (blk_below (g:=gb341) (o:=.cells #[.int .i64 a0_0,.int .i64 a0_1,.int .i64 a0_2,.int .i64 a0_3,.bool a0_4] 32 (0,0)) (by (with_reducible repeat (first|refine blk_drewN ?_ _|refine blk_drew ?_|refine blk_alloc ?_ _));refine blk_far ?_ NB341_342.out _;refine blk_far ?_ NB341_342.out _;refine blk_far ?_ NB341_342.out _;refine blk_far ?_ NB341_342.out _;(with_reducible repeat (first|refine blk_drewN ?_ _|refine blk_drew ?_|refine blk_alloc ?_ _));refine blk_far ?_ NB341_342.out _;refine bP (cs:=?_) ?_ 4 ?_;rotate_left;refine bP (cs:=?_) ?_ 3 ?_;rotate_left;refine bP (cs:=?_) ?_ 2 ?_;rotate_left;refine bP (cs:=?_) ?_ 1 ?_;rotate_left;refine bP (cs:=?_) ?_ 0 ?_;rotate_left;exact BK341.out;all_goals ((try simp only [sA,sZ,sC]);first|done|rfl)) hb);replace BK342:=Aside0.mk (blk_below (g:=gb342) (o:=.cells #[.int .i64 a0_7,.int .i64 a0_8,.int .i64 a0_9,.int .i64 a0_10,.slice A0_11 l0_11.length c0_11] 34 (0,0)) (by refine bP (cs:=?_) ?_ 4 ?_;rotate_left;refine bP (cs:=?_) ?_ 3 ?_;rotate_left;refine bP (cs:=?_) ?_ 2 ?_;rotate_left;refine bP (cs:=?_) ?_ 1 ?_;rotate_left;refine bP (cs:=?_) ?_ 0 ?_;rotate_left;refine blk_far ?_ NB342_341.out _;refine blk_far ?_ NB342_341.out _;refine blk_far ?_ NB342_341.out _;refine blk_far ?_ NB342_341.out _;refine blk_far ?_ NB342_341.out _;(with_reducible repeat (first|refine blk_drewN ?_ _|refine blk_drew ?_|refine blk_alloc ?_ _));exact BK342.out;all_goals ((try simp only [sA,sZ,sC]);first|done|rfl)) hb);replace HB:=Aside0.mk (below_step bG hb);(try clear hb);have hnb56:=NB342_340.out;have hnc56:=NB340_342.out;obtain ⟨z57_0,z57_1,z57_2,z57_3,z57_4,y57_0,y57_1,y57_2,y57_3,y57_4⟩:=blk5f BK342)|(go_at_call 108;(with_reducible refine (impl_RasterOk.calls k a0_7 a0_8 a0_9 a0_10 _ _ l0_11 true _ (cB HR0_11) HC0_11.out A20.out).mono ?_);rintro e w58 ⟨rfl,hb⟩;replace BK340:=Aside0.mk (bkb BK340 hb);replace BK341:=Aside0.mk (bkb BK341 hb);replace BK342:=Aside0.mk (bkb BK342 hb);replace HB:=Aside0.mk (below_step bG hb);(try clear hb);obtain ⟨z59_0,z59_1,z59_2,z59_3,z59_4,y59_0,y59_1,y59_2,y59_3,y59_4⟩:=blk5f BK342;obtain ⟨z60_0,z60_1,z60_2,z60_3,z60_4,y60_0,y60_1,y60_2,y60_3,y60_4⟩:=blk5f BK341))
     go_meet
     case rel=>exact ⟨_,(true),fS,H',⟨by first|omega|exact Nat.le_refl _⟩,⟨by (with_reducible repeat (first|refine blk_drewN ?_ _|refine blk_drew ?_|refine blk_alloc ?_ _));exact BK340.out⟩,⟨by (with_reducible repeat (first|refine blk_drewN ?_ _|refine blk_drew ?_|refine blk_alloc ?_ _));exact BK341.out⟩,⟨by (with_reducible repeat (first|refine blk_drewN ?_ _|refine blk_drew ?_|refine blk_alloc ?_ _));exact BK342.out⟩,⟨bG⟩⟩
   ·obtain rfl:=bF c21
    rw [if_neg nF] at H
    have H':=Aside0.mk H
    clear H
    have hnb61:=NB341_340.out
    have hnc61:=NB340_341.out
    have hnb62:=NB341_342.out
    have hnc62:=NB342_341.out
    obtain ⟨z63_0,z63_1,z63_2,z63_3,z63_4,y63_0,y63_1,y63_2,y63_3,y63_4⟩:=blk5f BK341
    go_wp2_with (first|((with_reducible refine gate_callee (f:=107) rfl ?_);refine gL (some 10) Try.func107 #[.agg #[.int .i64 a0_0,.int .i64 a0_1,.int .i64 a0_2,.int .i64 a0_3,.bool a0_4]] ?_;(with_reducible refine (impl_HeadOk.calls k a0_0 a0_1 a0_2 a0_3 a0_4 true _ A18.out).mono ?_);rintro e w64 ⟨rfl,hb⟩;refine ⟨_,rfl,?_⟩;replace BK340:=Aside0.mk (bfb BK340 hb);replace BK341:=Aside0.mk (blk_below (g:=gb341) (o:=.cells #[.int .i64 a0_0,.int .i64 a0_1,.int .i64 a0_2,.int .i64 a0_3,.bool a0_4] 32 (0,0)) (by (with_reducible repeat (first|refine blk_drewN ?_ _|refine blk_drew ?_|refine blk_alloc ?_ _));refine blk_far ?_ NB341_342.out _;refine blk_far ?_ NB341_342.out _;refine blk_far ?_ NB341_342.out _;refine blk_far ?_ NB341_342.out _;(with_reducible repeat (first|refine blk_drewN ?_ _|refine blk_drew ?_|refine blk_alloc ?_ _));refine blk_far ?_ NB341_342.out _;refine bP (cs:=?_) ?_ 4 ?_;rotate_left;refine bP (cs:=?_) ?_ 3 ?_;rotate_left;refine bP (cs:=?_) ?_ 2 ?_;rotate_left;refine bP (cs:=?_) ?_ 1 ?_;rotate_left;refine bP (cs:=?_) ?_ 0 ?_;rotate_left;exact BK341.out;all_goals ((try simp only [sA,sZ,sC]);first|done|rfl)) hb);replace BK342:=Aside0.mk (blk_below (g:=gb342) (o:=.cells #[.int .i64 a0_7,.int .i64 a0_8,.int .i64 a0_9,.int .i64 a0_10,.slice A0_11 l0_11.length c0_11] 34 (0,0)) (by refine bP (cs:=?_) ?_ 4 ?_;rotate_left;refine bP (cs:=?_) ?_ 3 ?_;rotate_left;refine bP (cs:=?_) ?_ 2 ?_;rotate_left;refine bP (cs:=?_) ?_ 1 ?_;rotate_left;refine bP (cs:=?_) ?_ 0 ?_;rotate_left;refine blk_far ?_ NB342_341.out _;refine blk_far ?_ NB342_341.out _;refine blk_far ?_ NB342_341.out _;refine blk_far ?_ NB342_341.out _;refine blk_far ?_ NB342_341.out _;(with_reducible repeat (first|refine blk_drewN ?_ _|refine blk_drew ?_|refine blk_alloc ?_ _));exact BK342.out;all_goals ((try simp only [sA,sZ,sC]);first|done|rfl)) hb);replace HB:=Aside0.mk (below_step bG hb);(try clear hb);have hnb65:=NB342_340.out;have hnc65:=NB340_342.out;obtain ⟨z66_0,z66_1,z66_2,z66_3,z66_4,y66_0,y66_1,y66_2,y66_3,y66_4⟩:=blk5f BK342)|(go_at_call 108;(with_reducible refine (impl_RasterOk.calls k a0_7 a0_8 a0_9 a0_10 _ _ l0_11 false _ (cB HR0_11) HC0_11.out A20.out).mono ?_);rintro e w67 ⟨rfl,hb⟩;replace BK340:=Aside0.mk (bkb BK340 hb);replace BK341:=Aside0.mk (bkb BK341 hb);replace BK342:=Aside0.mk (bkb BK342 hb);replace HB:=Aside0.mk (below_step bG hb);(try clear hb)))
    go_meet
    case rel=>exact ⟨_,(true),fS,H',⟨by first|omega|exact Nat.le_refl _⟩,⟨by (with_reducible repeat (first|refine blk_drewN ?_ _|refine blk_drew ?_|refine blk_alloc ?_ _));exact BK340.out⟩,⟨by (with_reducible repeat (first|refine blk_drewN ?_ _|refine blk_drew ?_|refine blk_alloc ?_ _));exact BK341.out⟩,⟨by (with_reducible repeat (first|refine blk_drewN ?_ _|refine blk_drew ?_|refine blk_alloc ?_ _));exact BK342.out⟩,⟨bG⟩⟩
  ·obtain rfl:=bF c19
   rw [if_neg nF] at H
   have H':=Aside0.mk H
   clear H
   have hnb68:=NB341_340.out
   have hnc68:=NB340_341.out
   have hnb69:=NB341_342.out
   have hnc69:=NB342_341.out
   obtain ⟨z70_0,z70_1,z70_2,z70_3,z70_4,y70_0,y70_1,y70_2,y70_3,y70_4⟩:=blk5f BK341
   go_wp2_with (first|((with_reducible refine gate_callee (f:=107) rfl ?_);refine gL (some 10) Try.func107 #[.agg #[.int .i64 a0_0,.int .i64 a0_1,.int .i64 a0_2,.int .i64 a0_3,.bool a0_4]] ?_;(with_reducible refine (impl_HeadOk.calls k a0_0 a0_1 a0_2 a0_3 a0_4 false _ A18.out).mono ?_);rintro e w71 ⟨rfl,hb⟩;refine ⟨_,rfl,?_⟩;replace BK340:=Aside0.mk (bfb BK340 hb);replace BK341:=Aside0.mk (blk_below (g:=gb341) (o:=.cells #[.int .i64 a0_0,.int .i64 a0_1,.int .i64 a0_2,.int .i64 a0_3,.bool a0_4] 32 (0,0)) (by (with_reducible repeat (first|refine blk_drewN ?_ _|refine blk_drew ?_|refine blk_alloc ?_ _));refine blk_far ?_ NB341_342.out _;refine blk_far ?_ NB341_342.out _;refine blk_far ?_ NB341_342.out _;refine blk_far ?_ NB341_342.out _;(with_reducible repeat (first|refine blk_drewN ?_ _|refine blk_drew ?_|refine blk_alloc ?_ _));refine blk_far ?_ NB341_342.out _;refine bP (cs:=?_) ?_ 4 ?_;rotate_left;refine bP (cs:=?_) ?_ 3 ?_;rotate_left;refine bP (cs:=?_) ?_ 2 ?_;rotate_left;refine bP (cs:=?_) ?_ 1 ?_;rotate_left;refine bP (cs:=?_) ?_ 0 ?_;rotate_left;exact BK341.out;all_goals ((try simp only [sA,sZ,sC]);first|done|rfl)) hb);replace BK342:=Aside0.mk (blk_below (g:=gb342) (o:=.cells #[.int .i64 a0_7,.int .i64 a0_8,.int .i64 a0_9,.int .i64 a0_10,.slice A0_11 l0_11.length c0_11] 34 (0,0)) (by refine bP (cs:=?_) ?_ 4 ?_;rotate_left;refine bP (cs:=?_) ?_ 3 ?_;rotate_left;refine bP (cs:=?_) ?_ 2 ?_;rotate_left;refine bP (cs:=?_) ?_ 1 ?_;rotate_left;refine bP (cs:=?_) ?_ 0 ?_;rotate_left;refine blk_far ?_ NB342_341.out _;refine blk_far ?_ NB342_341.out _;refine blk_far ?_ NB342_341.out _;refine blk_far ?_ NB342_341.out _;refine blk_far ?_ NB342_341.out _;(with_reducible repeat (first|refine blk_drewN ?_ _|refine blk_drew ?_|refine blk_alloc ?_ _));exact BK342.out;all_goals ((try simp only [sA,sZ,sC]);first|done|rfl)) hb);replace HB:=Aside0.mk (below_step bG hb);(try clear hb)))
   go_meet
   case rel=>exact ⟨_,(true),fS,H',⟨by first|omega|exact Nat.le_refl _⟩,⟨by (with_reducible repeat (first|refine blk_drewN ?_ _|refine blk_drew ?_|refine blk_alloc ?_ _));exact BK340.out⟩,⟨by (with_reducible repeat (first|refine blk_drewN ?_ _|refine blk_drew ?_|refine blk_alloc ?_ _));exact BK341.out⟩,⟨by (with_reducible repeat (first|refine blk_drewN ?_ _|refine blk_drew ?_|refine blk_alloc ?_ _));exact BK342.out⟩,⟨bG⟩⟩
 case rest =>
  clear HC2
  try clear c1
  try clear c2
  try clear p2
  try clear c3
  try clear c4
  try clear c5
  try clear c6
  try clear c7
  try clear c10
  try clear c19
  try clear c21
  try clear c22
  try clear c22b0
  try clear c22b1
  try clear c23
  try clear c23b0
  try clear c23b1
  try clear c24
  try clear c24b0
  try clear c24b1
  try clear c25
  try clear c26
  try clear c29
  try clear c34
  try clear c35
  try clear c38
  try clear c43
  try clear c44
  try clear c47
  try clear c52
  try clear c53
  try clear c56
  try clear c61
  try clear c62
  try clear c65
  try clear c68
  try clear c69
  try clear z27_0
  try clear z27_1
  try clear z27_2
  try clear z27_3
  try clear z27_4
  try clear z30_0
  try clear z30_1
  try clear z30_2
  try clear z30_3
  try clear z30_4
  try clear z32_0
  try clear z32_1
  try clear z32_2
  try clear z32_3
  try clear z32_4
  try clear z33_0
  try clear z33_1
  try clear z33_2
  try clear z33_3
  try clear z33_4
  try clear z36_0
  try clear z36_1
  try clear z36_2
  try clear z36_3
  try clear z36_4
  try clear z39_0
  try clear z39_1
  try clear z39_2
  try clear z39_3
  try clear z39_4
  try clear z41_0
  try clear z41_1
  try clear z41_2
  try clear z41_3
  try clear z41_4
  try clear z42_0
  try clear z42_1
  try clear z42_2
  try clear z42_3
  try clear z42_4
  try clear z45_0
  try clear z45_1
  try clear z45_2
  try clear z45_3
  try clear z45_4
  try clear z48_0
  try clear z48_1
  try clear z48_2
  try clear z48_3
  try clear z48_4
  try clear z50_0
  try clear z50_1
  try clear z50_2
  try clear z50_3
  try clear z50_4
  try clear z51_0
  try clear z51_1
  try clear z51_2
  try clear z51_3
  try clear z51_4
  try clear z54_0
  try clear z54_1
  try clear z54_2
  try clear z54_3
  try clear z54_4
  try clear z57_0
  try clear z57_1
  try clear z57_2
  try clear z57_3
  try clear z57_4
  try clear z59_0
  try clear z59_1
  try clear z59_2
  try clear z59_3
  try clear z59_4
  try clear z60_0
  try clear z60_1
  try clear z60_2
  try clear z60_3
  try clear z60_4
  try clear z63_0
  try clear z63_1
  try clear z63_2
  try clear z63_3
  try clear z63_4
  try clear z66_0
  try clear z66_1
  try clear z66_2
  try clear z66_3
  try clear z66_4
  try clear z70_0
  try clear z70_1
  try clear z70_2
  try clear z70_3
  try clear z70_4
  try clear y27_0
  try clear y27_1
  try clear y27_2
  try clear y27_3
  try clear y27_4
  try clear y30_0
  try clear y30_1
  try clear y30_2
  try clear y30_3
  try clear y30_4
  try clear y32_0
  try clear y32_1
  try clear y32_2
  try clear y32_3
  try clear y32_4
  try clear y33_0
  try clear y33_1
  try clear y33_2
  try clear y33_3
  try clear y33_4
  try clear y36_0
  try clear y36_1
  try clear y36_2
  try clear y36_3
  try clear y36_4
  try clear y39_0
  try clear y39_1
  try clear y39_2
  try clear y39_3
  try clear y39_4
  try clear y41_0
  try clear y41_1
  try clear y41_2
  try clear y41_3
  try clear y41_4
  try clear y42_0
  try clear y42_1
  try clear y42_2
  try clear y42_3
  try clear y42_4
  try clear y45_0
  try clear y45_1
  try clear y45_2
  try clear y45_3
  try clear y45_4
  try clear y48_0
  try clear y48_1
  try clear y48_2
  try clear y48_3
  try clear y48_4
  try clear y50_0
  try clear y50_1
  try clear y50_2
  try clear y50_3
  try clear y50_4
  try clear y51_0
  try clear y51_1
  try clear y51_2
  try clear y51_3
  try clear y51_4
  try clear y54_0
  try clear y54_1
  try clear y54_2
  try clear y54_3
  try clear y54_4
  try clear y57_0
  try clear y57_1
  try clear y57_2
  try clear y57_3
  try clear y57_4
  try clear y59_0
  try clear y59_1
  try clear y59_2
  try clear y59_3
  try clear y59_4
  try clear y60_0
  try clear y60_1
  try clear y60_2
  try clear y60_3
  try clear y60_4
  try clear y63_0
  try clear y63_1
  try clear y63_2
  try clear y63_3
  try clear y63_4
  try clear y66_0
  try clear y66_1
  try clear y66_2
  try clear y66_3
  try clear y66_4
  try clear y70_0
  try clear y70_1
  try clear y70_2
  try clear y70_3
  try clear y70_4
  obtain ⟨kq,x44_1,rfl,HA,HJ1,BK340,BK341,BK342,HB⟩:=hcut
  cases kq with
  | zero=>exact absurd HA.out (by simp [impl_PngOk.j0])
  | succ kj1 =>
   have H:=HA.out
   clear HA
   simp only [impl_PngOk.j0] at H
   by_cases c72:x44_1=true
   ·subst c72
    rw [if_pos rfl] at H
    obtain rfl:=sI H
    go_wp2
    go_ret
    exact ⟨fE,bG⟩
   ·obtain rfl:=bF c72
    rw [if_neg nF] at H
    obtain ⟨t345,A73,H⟩:=bS H
    try dsimp only at H
    by_cases c74:t345=true
    ·subst c74
     rw [if_pos rfl] at H
     obtain ⟨t346,A75,H⟩:=bS H
     try dsimp only at H
     by_cases c76:t346=true
     ·subst c76
      rw [if_pos rfl] at H
      obtain ⟨t347,A77,H⟩:=bS H
      try dsimp only at H
      by_cases c78:t347=true
      ·subst c78
       rw [if_pos rfl] at H
       by_cases c79:a0_3=3
       ·rw [if_pos c79] at H
        have c79b0:(a0_3 == 3)=true:=beq_iff_eq.mpr c79
        have c79b1:(a0_3 != 3)=false:=bne_eq_false_iff_eq.mpr c79
        clear c79
        obtain ⟨t348,A80,H⟩:=bS H
        try dsimp only at H
        obtain rfl:=sI H
        have hnb81:=NB341_340.out
        have hnc81:=NB340_341.out
        have hnb82:=NB341_342.out
        have hnc82:=NB342_341.out
        obtain ⟨z83_0,z83_1,z83_2,z83_3,z83_4,y83_0,y83_1,y83_2,y83_3,y83_4⟩:=blk5f BK341
        have hnb84:=NB340_342.out
        have hnc84:=NB342_340.out
        obtain ⟨z85_0,z85_1,z85_2,z85_3,z85_4,z85_5,z85_6,z85_7,z85_8,z85_9,z85_10,z85_11,z85_12,y85_0,y85_1,y85_2,y85_3,y85_4,y85_5,y85_6,y85_7,y85_8,y85_9,y85_10,y85_11,y85_12⟩:=blk13f BK340
        go_wp2_with (first|((with_reducible refine gate_callee (f:=109) rfl ?_);refine gL (some 48) Try.func109 #[.agg #[.int .i64 a0_0,.int .i64 a0_1,.int .i64 a0_2,.int .i64 a0_3,.bool a0_4],.slice A0_5 l0_5.length c0_5] ?_;(with_reducible refine (impl_tableOk.calls kj1 a0_0 a0_1 a0_2 a0_3 a0_4 _ _ l0_5 true _ (cB HR0_5) HC0_5.out A73.out).mono ?_);rintro e w86 ⟨rfl,hb⟩;refine ⟨_,rfl,?_⟩;replace BK340:=Aside0.mk (bkb BK340 hb);replace BK341:=Aside0.mk (bkb BK341 hb);replace BK342:=Aside0.mk (bkb BK342 hb);replace HB:=Aside0.mk (below_step bG hb);(try clear hb);obtain ⟨z87_0,z87_1,z87_2,z87_3,z87_4,y87_0,y87_1,y87_2,y87_3,y87_4⟩:=blk5f BK341;obtain ⟨z88_0,z88_1,z88_2,z88_3,z88_4,z88_5,z88_6,z88_7,z88_8,z88_9,z88_10,z88_11,z88_12,y88_0,y88_1,y88_2,y88_3,y88_4,y88_5,y88_6,y88_7,y88_8,y88_9,y88_10,y88_11,y88_12⟩:=blk13f BK340)|(go_at_call 110;(with_reducible refine (impl_ClearOk.calls kj1 a0_0 a0_1 a0_2 a0_3 a0_4 (l0_5.length:Int) _ _ l0_6 true _ (cB HR0_6) HC0_6.out A75.out).mono ?_);rintro e w89 ⟨rfl,hb⟩;replace BK340:=Aside0.mk (bkb BK340 hb);replace BK341:=Aside0.mk (bkb BK341 hb);replace BK342:=Aside0.mk (bkb BK342 hb);replace HB:=Aside0.mk (below_step bG hb);(try clear hb);obtain ⟨z90_0,z90_1,z90_2,z90_3,z90_4,z90_5,z90_6,z90_7,z90_8,z90_9,z90_10,z90_11,z90_12,y90_0,y90_1,y90_2,y90_3,y90_4,y90_5,y90_6,y90_7,y90_8,y90_9,y90_10,y90_11,y90_12⟩:=blk13f BK340)|(go_at_call 111;(with_reducible refine (impl_keptOk.calls kj1 _ _ l0_12 true _ (cB HR0_12) HC0_12.out A77.out).mono ?_);rintro e w91 ⟨rfl,hb⟩;replace BK340:=Aside0.mk (bkb BK340 hb);replace BK341:=Aside0.mk (bkb BK341 hb);replace BK342:=Aside0.mk (bkb BK342 hb);replace HB:=Aside0.mk (below_step bG hb);(try clear hb);obtain ⟨z92_0,z92_1,z92_2,z92_3,z92_4,y92_0,y92_1,y92_2,y92_3,y92_4⟩:=blk5f BK341;obtain ⟨z93_0,z93_1,z93_2,z93_3,z93_4,z93_5,z93_6,z93_7,z93_8,z93_9,z93_10,z93_11,z93_12,y93_0,y93_1,y93_2,y93_3,y93_4,y93_5,y93_6,y93_7,y93_8,y93_9,y93_10,y93_11,y93_12⟩:=blk13f BK340)|(go_at_call 112;(with_reducible refine (impl_inTable.calls kj1 a0_0 a0_1 a0_2 a0_3 a0_4 _ _ l0_5 _ _ l0_6 a0_7 a0_8 a0_9 a0_10 _ _ l0_11 _ _ l0_12 t348 _ (cB HR0_5) HC0_5.out (cB HR0_6) HC0_6.out (cB HR0_11) HC0_11.out (cB HR0_12) HC0_12.out A80.out).mono ?_);rintro e w94 ⟨rfl,hb⟩;replace BK340:=Aside0.mk (bkb BK340 hb);replace BK341:=Aside0.mk (bkb BK341 hb);replace BK342:=Aside0.mk (bkb BK342 hb);replace HB:=Aside0.mk (below_step bG hb);(try clear hb)))
        go_ret
        exact ⟨fE,bG⟩
       ·rw [if_neg c79] at H
        have c79b0:(a0_3 == 3)=false:=beq_eq_false_iff_ne.mpr c79
        have c79b1:(a0_3 != 3)=true:=bne_iff_ne.mpr c79
        obtain rfl:=sI H
        have hnb95:=NB341_340.out
        have hnc95:=NB340_341.out
        have hnb96:=NB341_342.out
        have hnc96:=NB342_341.out
        obtain ⟨z97_0,z97_1,z97_2,z97_3,z97_4,y97_0,y97_1,y97_2,y97_3,y97_4⟩:=blk5f BK341
        have hnb98:=NB340_342.out
        have hnc98:=NB342_340.out
        obtain ⟨z99_0,z99_1,z99_2,z99_3,z99_4,z99_5,z99_6,z99_7,z99_8,z99_9,z99_10,z99_11,z99_12,y99_0,y99_1,y99_2,y99_3,y99_4,y99_5,y99_6,y99_7,y99_8,y99_9,y99_10,y99_11,y99_12⟩:=blk13f BK340
        go_wp2_with (first|((with_reducible refine gate_callee (f:=109) rfl ?_);refine gL (some 48) Try.func109 #[.agg #[.int .i64 a0_0,.int .i64 a0_1,.int .i64 a0_2,.int .i64 a0_3,.bool a0_4],.slice A0_5 l0_5.length c0_5] ?_;(with_reducible refine (impl_tableOk.calls kj1 a0_0 a0_1 a0_2 a0_3 a0_4 _ _ l0_5 true _ (cB HR0_5) HC0_5.out A73.out).mono ?_);rintro e w100 ⟨rfl,hb⟩;refine ⟨_,rfl,?_⟩;replace BK340:=Aside0.mk (bkb BK340 hb);replace BK341:=Aside0.mk (bkb BK341 hb);replace BK342:=Aside0.mk (bkb BK342 hb);replace HB:=Aside0.mk (below_step bG hb);(try clear hb);obtain ⟨z101_0,z101_1,z101_2,z101_3,z101_4,y101_0,y101_1,y101_2,y101_3,y101_4⟩:=blk5f BK341;obtain ⟨z102_0,z102_1,z102_2,z102_3,z102_4,z102_5,z102_6,z102_7,z102_8,z102_9,z102_10,z102_11,z102_12,y102_0,y102_1,y102_2,y102_3,y102_4,y102_5,y102_6,y102_7,y102_8,y102_9,y102_10,y102_11,y102_12⟩:=blk13f BK340)|(go_at_call 110;(with_reducible refine (impl_ClearOk.calls kj1 a0_0 a0_1 a0_2 a0_3 a0_4 (l0_5.length:Int) _ _ l0_6 true _ (cB HR0_6) HC0_6.out A75.out).mono ?_);rintro e w103 ⟨rfl,hb⟩;replace BK340:=Aside0.mk (bkb BK340 hb);replace BK341:=Aside0.mk (bkb BK341 hb);replace BK342:=Aside0.mk (bkb BK342 hb);replace HB:=Aside0.mk (below_step bG hb);(try clear hb);obtain ⟨z104_0,z104_1,z104_2,z104_3,z104_4,z104_5,z104_6,z104_7,z104_8,z104_9,z104_10,z104_11,z104_12,y104_0,y104_1,y104_2,y104_3,y104_4,y104_5,y104_6,y104_7,y104_8,y104_9,y104_10,y104_11,y104_12⟩:=blk13f BK340)|(go_at_call 111;(with_reducible refine (impl_keptOk.calls kj1 _ _ l0_12 true _ (cB HR0_12) HC0_12.out A77.out).mono ?_);rintro e w105 ⟨rfl,hb⟩;replace BK340:=Aside0.mk (bkb BK340 hb);replace BK341:=Aside0.mk (bkb BK341 hb);replace BK342:=Aside0.mk (bkb BK342 hb);replace HB:=Aside0.mk (below_step bG hb);(try clear hb);obtain ⟨z106_0,z106_1,z106_2,z106_3,z106_4,y106_0,y106_1,y106_2,y106_3,y106_4⟩:=blk5f BK341))
        go_ret
        exact ⟨fE,bG⟩
      ·obtain rfl:=bF c78
       rw [if_neg nF] at H
       obtain rfl:=sI H
       have hnb107:=NB341_340.out
       have hnc107:=NB340_341.out
       have hnb108:=NB341_342.out
       have hnc108:=NB342_341.out
       obtain ⟨z109_0,z109_1,z109_2,z109_3,z109_4,y109_0,y109_1,y109_2,y109_3,y109_4⟩:=blk5f BK341
       have hnb110:=NB340_342.out
       have hnc110:=NB342_340.out
       obtain ⟨z111_0,z111_1,z111_2,z111_3,z111_4,z111_5,z111_6,z111_7,z111_8,z111_9,z111_10,z111_11,z111_12,y111_0,y111_1,y111_2,y111_3,y111_4,y111_5,y111_6,y111_7,y111_8,y111_9,y111_10,y111_11,y111_12⟩:=blk13f BK340
       go_wp2_with (first|((with_reducible refine gate_callee (f:=109) rfl ?_);refine gL (some 48) Try.func109 #[.agg #[.int .i64 a0_0,.int .i64 a0_1,.int .i64 a0_2,.int .i64 a0_3,.bool a0_4],.slice A0_5 l0_5.length c0_5] ?_;(with_reducible refine (impl_tableOk.calls kj1 a0_0 a0_1 a0_2 a0_3 a0_4 _ _ l0_5 true _ (cB HR0_5) HC0_5.out A73.out).mono ?_);rintro e w112 ⟨rfl,hb⟩;refine ⟨_,rfl,?_⟩;replace BK340:=Aside0.mk (bkb BK340 hb);replace BK341:=Aside0.mk (bkb BK341 hb);replace BK342:=Aside0.mk (bkb BK342 hb);replace HB:=Aside0.mk (below_step bG hb);(try clear hb);obtain ⟨z113_0,z113_1,z113_2,z113_3,z113_4,y113_0,y113_1,y113_2,y113_3,y113_4⟩:=blk5f BK341;obtain ⟨z114_0,z114_1,z114_2,z114_3,z114_4,z114_5,z114_6,z114_7,z114_8,z114_9,z114_10,z114_11,z114_12,y114_0,y114_1,y114_2,y114_3,y114_4,y114_5,y114_6,y114_7,y114_8,y114_9,y114_10,y114_11,y114_12⟩:=blk13f BK340)|(go_at_call 110;(with_reducible refine (impl_ClearOk.calls kj1 a0_0 a0_1 a0_2 a0_3 a0_4 (l0_5.length:Int) _ _ l0_6 true _ (cB HR0_6) HC0_6.out A75.out).mono ?_);rintro e w115 ⟨rfl,hb⟩;replace BK340:=Aside0.mk (bkb BK340 hb);replace BK341:=Aside0.mk (bkb BK341 hb);replace BK342:=Aside0.mk (bkb BK342 hb);replace HB:=Aside0.mk (below_step bG hb);(try clear hb);obtain ⟨z116_0,z116_1,z116_2,z116_3,z116_4,z116_5,z116_6,z116_7,z116_8,z116_9,z116_10,z116_11,z116_12,y116_0,y116_1,y116_2,y116_3,y116_4,y116_5,y116_6,y116_7,y116_8,y116_9,y116_10,y116_11,y116_12⟩:=blk13f BK340)|(go_at_call 111;(with_reducible refine (impl_keptOk.calls kj1 _ _ l0_12 false _ (cB HR0_12) HC0_12.out A77.out).mono ?_);rintro e w117 ⟨rfl,hb⟩;replace BK340:=Aside0.mk (bkb BK340 hb);replace BK341:=Aside0.mk (bkb BK341 hb);replace BK342:=Aside0.mk (bkb BK342 hb);replace HB:=Aside0.mk (below_step bG hb);(try clear hb)))
       go_ret
       exact ⟨fE,bG⟩
     ·obtain rfl:=bF c76
      rw [if_neg nF] at H
      obtain rfl:=sI H
      have hnb118:=NB341_340.out
      have hnc118:=NB340_341.out
      have hnb119:=NB341_342.out
      have hnc119:=NB342_341.out
      obtain ⟨z120_0,z120_1,z120_2,z120_3,z120_4,y120_0,y120_1,y120_2,y120_3,y120_4⟩:=blk5f BK341
      have hnb121:=NB340_342.out
      have hnc121:=NB342_340.out
      obtain ⟨z122_0,z122_1,z122_2,z122_3,z122_4,z122_5,z122_6,z122_7,z122_8,z122_9,z122_10,z122_11,z122_12,y122_0,y122_1,y122_2,y122_3,y122_4,y122_5,y122_6,y122_7,y122_8,y122_9,y122_10,y122_11,y122_12⟩:=blk13f BK340
      go_wp2_with (first|((with_reducible refine gate_callee (f:=109) rfl ?_);refine gL (some 48) Try.func109 #[.agg #[.int .i64 a0_0,.int .i64 a0_1,.int .i64 a0_2,.int .i64 a0_3,.bool a0_4],.slice A0_5 l0_5.length c0_5] ?_;(with_reducible refine (impl_tableOk.calls kj1 a0_0 a0_1 a0_2 a0_3 a0_4 _ _ l0_5 true _ (cB HR0_5) HC0_5.out A73.out).mono ?_);rintro e w123 ⟨rfl,hb⟩;refine ⟨_,rfl,?_⟩;replace BK340:=Aside0.mk (bkb BK340 hb);replace BK341:=Aside0.mk (bkb BK341 hb);replace BK342:=Aside0.mk (bkb BK342 hb);replace HB:=Aside0.mk (below_step bG hb);(try clear hb);obtain ⟨z124_0,z124_1,z124_2,z124_3,z124_4,y124_0,y124_1,y124_2,y124_3,y124_4⟩:=blk5f BK341;obtain ⟨z125_0,z125_1,z125_2,z125_3,z125_4,z125_5,z125_6,z125_7,z125_8,z125_9,z125_10,z125_11,z125_12,y125_0,y125_1,y125_2,y125_3,y125_4,y125_5,y125_6,y125_7,y125_8,y125_9,y125_10,y125_11,y125_12⟩:=blk13f BK340)|(go_at_call 110;(with_reducible refine (impl_ClearOk.calls kj1 a0_0 a0_1 a0_2 a0_3 a0_4 (l0_5.length:Int) _ _ l0_6 false _ (cB HR0_6) HC0_6.out A75.out).mono ?_);rintro e w126 ⟨rfl,hb⟩;replace BK340:=Aside0.mk (bkb BK340 hb);replace BK341:=Aside0.mk (bkb BK341 hb);replace BK342:=Aside0.mk (bkb BK342 hb);replace HB:=Aside0.mk (below_step bG hb);(try clear hb)))
      go_ret
      exact ⟨fE,bG⟩
    ·obtain rfl:=bF c74
     rw [if_neg nF] at H
     obtain rfl:=sI H
     have hnb127:=NB341_340.out
     have hnc127:=NB340_341.out
     have hnb128:=NB341_342.out
     have hnc128:=NB342_341.out
     obtain ⟨z129_0,z129_1,z129_2,z129_3,z129_4,y129_0,y129_1,y129_2,y129_3,y129_4⟩:=blk5f BK341
     have hnb130:=NB340_342.out
     have hnc130:=NB342_340.out
     obtain ⟨z131_0,z131_1,z131_2,z131_3,z131_4,z131_5,z131_6,z131_7,z131_8,z131_9,z131_10,z131_11,z131_12,y131_0,y131_1,y131_2,y131_3,y131_4,y131_5,y131_6,y131_7,y131_8,y131_9,y131_10,y131_11,y131_12⟩:=blk13f BK340
     go_wp2_with (first|((with_reducible refine gate_callee (f:=109) rfl ?_);refine gL (some 48) Try.func109 #[.agg #[.int .i64 a0_0,.int .i64 a0_1,.int .i64 a0_2,.int .i64 a0_3,.bool a0_4],.slice A0_5 l0_5.length c0_5] ?_;(with_reducible refine (impl_tableOk.calls kj1 a0_0 a0_1 a0_2 a0_3 a0_4 _ _ l0_5 false _ (cB HR0_5) HC0_5.out A73.out).mono ?_);rintro e w132 ⟨rfl,hb⟩;refine ⟨_,rfl,?_⟩;replace BK340:=Aside0.mk (bkb BK340 hb);replace BK341:=Aside0.mk (bkb BK341 hb);replace BK342:=Aside0.mk (bkb BK342 hb);replace HB:=Aside0.mk (below_step bG hb);(try clear hb)))
     go_ret
     exact ⟨fE,bG⟩
end Go.Proofs.Ytjpfhldklbgdcaa.Ld
