import Derived.Test.YtjpfhldklbgdcaaLdx0
import Derived.Test.YtjpfhldklbgdcaaLdx2
import Derived.Test.YtjpfhldklbgdcaaLdx5
set_option maxHeartbeats 8000000
set_option maxRecDepth 100000
namespace Go.Proofs.Ytjpfhldklbgdcaa.Ld
open Go.RowKit Go.Proofs.Ytjpfhldklbgdcaa.Sq Go.Proofs.YtjpfhldklbgdcaaW.PrintWords Go.Proofs.YtjpfhldklbgdcaaW.PrintLast Go.Proofs.YtjpfhldklbgdcaaW.PrintMore
attribute [local go_sem] max2_int min2_int max_two min_two max_three min_three max_four min_four   -- for this text's walks alone
set_option linter.unusedVariables false
set_option linter.unusedSimpArgs false
def spec_TableText.l0:Nat→List (S95)→List Int→Int→Option (ByteArray×Bool)
 | 0,_,_,_=>none
 | k+1,x0,x4,x5=>if x5 < (x0.length:Int) then (if 0≤x5 then ((spec_l17Byte.f ((rd_T95 x0 x5).f0)).bind fun t152=>(if t152=true then ((spec_l17Byte.f ((rd_T95 x0 x5).f1)).bind fun t154=>(if t154=true then ((spec_l17Byte.f ((rd_T95 x0 x5).f2)).bind fun t156=>(if t156=true then ((some (([((rd_T95 x0 x5).f0) % 256,((rd_T95 x0 x5).f1) % 256,((rd_T95 x0 x5).f2) % 256]:List Int):List Int)).bind fun y160=>(if x4.length+y160.length < 140737488355328 then (spec_TableText.l0 k x0 (x4++y160) (wrap64 (x5+1))) else (none))) else (some ((⟨#[]⟩:ByteArray),false)))) else (some ((⟨#[]⟩:ByteArray),false)))) else (some ((⟨#[]⟩:ByteArray),false)))) else (none)) else (some (strOfNums x4,true))
def spec_TableText.f (k:Nat) (l0:List (S95)):Option (ByteArray×Bool):=(spec_l01In.f (l0.length:Int) 1 256).bind fun t147=>(if t147=true then (spec_TableText.l0 k l0 (([]:List Int)) 0) else (some ((⟨#[]⟩:ByteArray),false)))
theorem spec_TableText.mono_l:∀ k,(∀ y0 y1 y2,LeO (spec_TableText.l0 k y0 y1 y2) (spec_TableText.l0 (k+1) y0 y1 y2))
 | 0=>fun _ _ _ r h=>by simp [spec_TableText.l0] at h
 | k+1=>by
  have ih0:=spec_TableText.mono_l k
  ·intro y0 y1 y2
   unfold spec_TableText.l0
   repeat' first
   | (with_reducible exact ih0 _ _ _)
   | (with_reducible exact LeO.refl _)
   | (with_reducible exact LeO.none _)
   | (with_reducible refine LeO.ite ?_ ?_)
   | (with_reducible refine LeO.bind ?_ (fun _=>?_))
   | exact ih0 _ _ _
   | exact LeO.none _
   | refine LeO.ite ?_ ?_
   | refine LeO.bind ?_ (fun _=>?_)
theorem spec_TableText.mono:∀ a0 k,LeO (spec_TableText.f k a0) (spec_TableText.f (k+1) a0):=by
 intro a0 k
 have ih0:=spec_TableText.mono_l k
 unfold spec_TableText.f
 repeat' first
   | (with_reducible exact ih0 _ _ _)
   | (with_reducible exact LeO.refl _)
   | (with_reducible exact LeO.none _)
   | (with_reducible refine LeO.ite ?_ ?_)
   | (with_reducible refine LeO.bind ?_ (fun _=>?_))
   | exact ih0 _ _ _
   | exact LeO.none _
   | refine LeO.ite ?_ ?_
   | refine LeO.bind ?_ (fun _=>?_)
def spec_TableText.T9:Bool×List (List Nat×List Nat):=(true,[([],[]),([],[]),([],[]),([1,2],[1,2]),([3],[3]),([4],[4]),([5],[5]),([],[]),([],[]),([7,8],[7,8]),([9],[9]),([10],[10]),([11],[11]),([],[]),([],[]),([13,14],[13,14]),([15],[15]),([16],[16]),([17],[17]),([6,12,18],[6,12,18]),([0,19],[0,19]),([20,20,0,1,2,3,4,5,6,7,8,9,10,11,12,13,14,15,16,17,18,19,20],[0,20])])
def spec_TableText.B9:List Nat:=[0,0,0,6,14,30,62,0,0,384,896,1920,3968,0,0,24576,57344,122880,253952,524286,1048575,2097151]
theorem spec_TableText.tab9:rtab .any (opsOf Try.f88 9)=spec_TableText.T9:=by kernel_rfl
theorem spec_TableText.bits9:waitsOk spec_TableText.T9.2 spec_TableText.B9=true:=by kernel_rfl
theorem spec_TableText.calls (k:Nat) (A0:Option Addr) (c0:Nat) (l0:List (S95)) (r1:ByteArray) (r2:Bool) (w:World) (hr0:Kd.C k95 w A0 l0.length l0) (hc0:l0.length≤c0) (h:spec_TableText.f k l0=some (r1,r2)):
  Calls Try.prog 88 #[.slice A0 l0.length c0] w fun e w'=>e=.returned (.tuple #[.string r1,.bool r2])∧Below w.heap.size w w':=by
 have HR0:=Aside0.mk hr0
 have HC0:=Aside0.mk hc0
 clear hr0 hc0
 have HB:=Aside0.mk (Below.refl w.heap.size w)
 have H:((spec_l01In.f (l0.length:Int) 1 256).bind fun t147=>(if t147=true then (spec_TableText.l0 k l0 (([]:List Int)) 0) else (some ((⟨#[]⟩:ByteArray),false))))=some (r1,r2):=h
 clear h
 replace H:=Option.bind_eq_some_iff.mp H
 obtain ⟨t147,A20,H⟩:=H
 replace H:(if t147=true then (spec_TableText.l0 k l0 (([]:List Int)) 0) else (some ((⟨#[]⟩:ByteArray),false)))=some (r1,r2):=H
 have A2:=Aside0.mk A20
 clear A20
 by_cases c3:t147=true
 ·subst c3
  have H1:(spec_TableText.l0 k l0 (([]:List Int)) 0)=some (r1,r2):=by rw [if_pos rfl] at H;exact H
  clear H
  have H:=H1
  clear H1
  obtain ⟨y148,hy148⟩:∃ y_:List Int,y_=(([]:List Int)):=⟨_,rfl⟩
  replace H:(spec_TableText.l0 k l0 y148 0)=some (r1,r2):=by first|(rw [hy148];with_reducible exact H)|(have H2_:=(Option.bind_some _ _).symm.trans H;rw [hy148];with_reducible exact H2_)|(have H2_:=(Option.bind_some _ _).symm.trans H;with_reducible exact H2_)|with_reducible exact H|(rw [hy148];exact H)|exact H
  have Ny148:=Aside0.mk hy148
  clear hy148
  have H':=Aside0.mk H
  clear H
  go_enter Try.func88,Try.ntmps88
  go_wp2_with (first|((with_reducible refine gate_callee (f:=116) rfl ?_);refine gL (some 8) Try.func116 #[.int .i64 (l0.length:Int),.int .i64 1,.int .i64 256] ?_;(with_reducible refine (spec_l01In.calls (l0.length:Int) 1 256 true _ A2.out).mono ?_);rintro e w' ⟨rfl,⟨nd,rfl⟩⟩;refine ⟨_,rfl,?_⟩)|((with_reducible refine gate_dst (N:=10) rfl ?_);refine Kd.R_lit (Kd.int .u8) _ 5 ?hg (N:=10) ?hd (xs:=([]:List Int)) (inner:=[]) (ok:=fun _=>True) (okp:=fun _=>True) ?hr ?hp (fun _ hk=>hk) trivial (Below.refl _ _) (Nat.le_refl _) (by simp) ?_;(case hd=>rfl);(case hg=>rfl);(case hr=>first|(go_simp;done)|(go_simp;rfl));(case hp=>exact (Reps.none _ _));intro v149 w4 ho5 hb hg_ hnew_;clear hg_ hnew_;(first|rw [← Ny148.out] at ho5|(simp only [Int.reduceToNat] at ho5;rw [← Ny148.out] at ho5));have HO150:=Aside0.mk (Kd.R_lower ho5 (below_size bH));replace HB:=Aside0.mk (below_step bH hb);clear hb ho5))
  go_loopg [4,5] k (fun kq v4 v5 w'=>∃ (x4_1:List Int) (x5_1:Int),v5=.int .i64 x5_1∧Aside0 (spec_TableText.l0 kq l0 x4_1 x5_1=some (r1,r2))∧Aside0 (kq≤k)∧Aside0 (Kd.R (Kd.int .u8) 5 w' w.heap.size (fun _=>True) v4 x4_1)∧Aside0 (Below w.heap.size w w'))
  case atStart=>exact ⟨(y148),(0),fS,H',⟨Nat.le_refl _⟩,⟨rS HO150⟩,⟨bH⟩⟩
  case round =>
   clear H'
   try clear c1
   try clear p2
   try clear c3
   obtain ⟨x4_1,x5_1,rfl,HA,HK1,HO_4,HB⟩:=hrel
   cases gk with
   | zero=>exact absurd HA.out (by simp [spec_TableText.l0])
   | succ k1 =>
    have H:=HA.out
    clear HA
    simp only [spec_TableText.l0] at H
    by_cases c6:x5_1 < (l0.length:Int)
    ·rw [if_pos c6] at H
     have c6b0:decide (x5_1 < (l0.length:Int))=true:=decide_eq_true c6
     clear c6
     by_cases c7:0≤x5_1
     ·rw [if_pos c7] at H
      have c7b0:decide (0≤x5_1)=true:=decide_eq_true c7
      clear c7
      replace H:=Option.bind_eq_some_iff.mp H
      obtain ⟨t152,A80,H⟩:=H
      replace H:(if t152=true then ((spec_l17Byte.f ((rd_T95 l0 x5_1).f1)).bind fun t154=>(if t154=true then ((spec_l17Byte.f ((rd_T95 l0 x5_1).f2)).bind fun t156=>(if t156=true then ((some (([((rd_T95 l0 x5_1).f0) % 256,((rd_T95 l0 x5_1).f1) % 256,((rd_T95 l0 x5_1).f2) % 256]:List Int):List Int)).bind fun y160=>(if x4_1.length+y160.length < 140737488355328 then (spec_TableText.l0 k1 l0 (x4_1++y160) (wrap64 (x5_1+1))) else (none))) else (some ((⟨#[]⟩:ByteArray),false)))) else (some ((⟨#[]⟩:ByteArray),false)))) else (some ((⟨#[]⟩:ByteArray),false)))=some (r1,r2):=H
      have A8:=Aside0.mk A80
      clear A80
      by_cases c9:t152=true
      ·subst c9
       have H1:((spec_l17Byte.f ((rd_T95 l0 x5_1).f1)).bind fun t154=>(if t154=true then ((spec_l17Byte.f ((rd_T95 l0 x5_1).f2)).bind fun t156=>(if t156=true then ((some (([((rd_T95 l0 x5_1).f0) % 256,((rd_T95 l0 x5_1).f1) % 256,((rd_T95 l0 x5_1).f2) % 256]:List Int):List Int)).bind fun y160=>(if x4_1.length+y160.length < 140737488355328 then (spec_TableText.l0 k1 l0 (x4_1++y160) (wrap64 (x5_1+1))) else (none))) else (some ((⟨#[]⟩:ByteArray),false)))) else (some ((⟨#[]⟩:ByteArray),false))))=some (r1,r2):=by rw [if_pos rfl] at H;exact H
       clear H
       have H:=H1
       clear H1
       replace H:=Option.bind_eq_some_iff.mp H
       obtain ⟨t154,A100,H⟩:=H
       replace H:(if t154=true then ((spec_l17Byte.f ((rd_T95 l0 x5_1).f2)).bind fun t156=>(if t156=true then ((some (([((rd_T95 l0 x5_1).f0) % 256,((rd_T95 l0 x5_1).f1) % 256,((rd_T95 l0 x5_1).f2) % 256]:List Int):List Int)).bind fun y160=>(if x4_1.length+y160.length < 140737488355328 then (spec_TableText.l0 k1 l0 (x4_1++y160) (wrap64 (x5_1+1))) else (none))) else (some ((⟨#[]⟩:ByteArray),false)))) else (some ((⟨#[]⟩:ByteArray),false)))=some (r1,r2):=H
       have A10:=Aside0.mk A100
       clear A100
       by_cases c11:t154=true
       ·subst c11
        have H1:((spec_l17Byte.f ((rd_T95 l0 x5_1).f2)).bind fun t156=>(if t156=true then ((some (([((rd_T95 l0 x5_1).f0) % 256,((rd_T95 l0 x5_1).f1) % 256,((rd_T95 l0 x5_1).f2) % 256]:List Int):List Int)).bind fun y160=>(if x4_1.length+y160.length < 140737488355328 then (spec_TableText.l0 k1 l0 (x4_1++y160) (wrap64 (x5_1+1))) else (none))) else (some ((⟨#[]⟩:ByteArray),false))))=some (r1,r2):=by rw [if_pos rfl] at H;exact H
        clear H
        have H:=H1
        clear H1
        replace H:=Option.bind_eq_some_iff.mp H
        obtain ⟨t156,A120,H⟩:=H
        replace H:(if t156=true then ((some (([((rd_T95 l0 x5_1).f0) % 256,((rd_T95 l0 x5_1).f1) % 256,((rd_T95 l0 x5_1).f2) % 256]:List Int):List Int)).bind fun y160=>(if x4_1.length+y160.length < 140737488355328 then (spec_TableText.l0 k1 l0 (x4_1++y160) (wrap64 (x5_1+1))) else (none))) else (some ((⟨#[]⟩:ByteArray),false)))=some (r1,r2):=H
        have A12:=Aside0.mk A120
        clear A120
        by_cases c13:t156=true
        ·subst c13
         have H1:((some (([((rd_T95 l0 x5_1).f0) % 256,((rd_T95 l0 x5_1).f1) % 256,((rd_T95 l0 x5_1).f2) % 256]:List Int):List Int)).bind fun y160=>(if x4_1.length+y160.length < 140737488355328 then (spec_TableText.l0 k1 l0 (x4_1++y160) (wrap64 (x5_1+1))) else (none)))=some (r1,r2):=by rw [if_pos rfl] at H;exact H
         clear H
         have H:=H1
         clear H1
         obtain ⟨y160,hy160⟩:∃ y_:List Int,y_=(([((rd_T95 l0 x5_1).f0) % 256,((rd_T95 l0 x5_1).f1) % 256,((rd_T95 l0 x5_1).f2) % 256]:List Int)):=⟨_,rfl⟩
         replace H:(if x4_1.length+y160.length < 140737488355328 then (spec_TableText.l0 k1 l0 (x4_1++y160) (wrap64 (x5_1+1))) else (none))=some (r1,r2):=by first|(rw [hy160];with_reducible exact H)|(have H2_:=(Option.bind_some _ _).symm.trans H;rw [hy160];with_reducible exact H2_)|(have H2_:=(Option.bind_some _ _).symm.trans H;with_reducible exact H2_)|with_reducible exact H|(rw [hy160];exact H)|exact H
         have Ny160:=Aside0.mk hy160
         clear hy160
         by_cases c14:x4_1.length+y160.length < 140737488355328
         ·rw [if_pos c14] at H
          have LMc14:=Aside0.mk c14
          clear c14
          obtain ⟨y163,hy163⟩:∃ y_:List Int,y_=(x4_1++y160):=⟨_,rfl⟩
          replace H:(spec_TableText.l0 k1 l0 y163 (wrap64 (x5_1+1)))=some (r1,r2):=by first|(rw [hy163];with_reducible exact H)|(have H2_:=(Option.bind_some _ _).symm.trans H;rw [hy163];with_reducible exact H2_)|(have H2_:=(Option.bind_some _ _).symm.trans H;with_reducible exact H2_)|with_reducible exact H|(rw [hy163];exact H)|exact H
          have Ny163:=Aside0.mk hy163
          clear hy163
          have H':=Aside0.mk H
          clear H
          have p151:0≤(x5_1:Int):=oD
          have q151:x5_1 < (l0.length:Int):=oD
          obtain ⟨ad151,e151,hx151_0,hx151_1,hx151_2⟩:=at_T95 HR0.out x5_1 p151 q151
          cases e151
          replace hx151_0:=(HB.out.cell (World.block_lt_of_cell? w _ hx151_0)).trans hx151_0
          replace hx151_1:=(HB.out.cell (World.block_lt_of_cell? w _ hx151_1)).trans hx151_1
          replace hx151_2:=(HB.out.cell (World.block_lt_of_cell? w _ hx151_2)).trans hx151_2
          replace p151:=eq_true p151
          replace q151:=eq_true q151
          try go_wp2_with (first|((with_reducible refine gate_callee (f:=119) rfl ?_);refine gL (some 22) Try.func119 #[.int .i64 ((rd_T95 l0 x5_1).f0)] ?_;(with_reducible refine (spec_l17Byte.calls ((rd_T95 l0 x5_1).f0) true _ A8.out).mono ?_);rintro e w' ⟨rfl,⟨nd,rfl⟩⟩;refine ⟨_,rfl,?_⟩;have p153:0≤(x5_1:Int):=oD;have q153:x5_1 < (l0.length:Int):=oD;obtain ⟨ad153,e153,hx153_0,hx153_1,hx153_2⟩:=at_T95 HR0.out x5_1 p153 q153;obtain rfl:ad151=ad153:=(by injection e153);replace hx153_0:=(HB.out.cell (World.block_lt_of_cell? w _ hx153_0)).trans hx153_0;replace hx153_1:=(HB.out.cell (World.block_lt_of_cell? w _ hx153_1)).trans hx153_1;replace hx153_2:=(HB.out.cell (World.block_lt_of_cell? w _ hx153_2)).trans hx153_2;replace p153:=eq_true p153;replace q153:=eq_true q153)|(go_at_call 119;(with_reducible refine (spec_l17Byte.calls ((rd_T95 l0 x5_1).f1) true _ A10.out).mono ?_);rintro e w' ⟨rfl,⟨nd,rfl⟩⟩;have p155:0≤(x5_1:Int):=oD;have q155:x5_1 < (l0.length:Int):=oD;obtain ⟨ad155,e155,hx155_0,hx155_1,hx155_2⟩:=at_T95 HR0.out x5_1 p155 q155;obtain rfl:ad151=ad155:=(by injection e155);replace hx155_0:=(HB.out.cell (World.block_lt_of_cell? w _ hx155_0)).trans hx155_0;replace hx155_1:=(HB.out.cell (World.block_lt_of_cell? w _ hx155_1)).trans hx155_1;replace hx155_2:=(HB.out.cell (World.block_lt_of_cell? w _ hx155_2)).trans hx155_2;replace p155:=eq_true p155;replace q155:=eq_true q155)|(go_at_call 119;(with_reducible refine (spec_l17Byte.calls ((rd_T95 l0 x5_1).f2) true _ A12.out).mono ?_);rintro e w' ⟨rfl,⟨nd,rfl⟩⟩))
          (try (rw [drewN_self wr];generalize hq_:World.drewN wr _=wr;have n0_:Aside0 (Kd.R (Kd.int .u8) 5 wr w.heap.size (fun _=>True) u4 x4_1):=⟨by rw [← hq_];exact (rS HO_4)⟩;have n1_:Aside0 (Below w.heap.size w wr):=⟨by rw [← hq_];exact bH⟩;clear HO_4 HB hq_;have HO_4:=n0_;have HB:=n1_;clear n0_ n1_))
          replace HO_4:=Aside0.mk (Kd.R_drew HO_4.out);replace HB:=Aside0.mk (below_drew1 HB.out)
          have p157:0≤(x5_1:Int):=oD
          have q157:x5_1 < (l0.length:Int):=oD
          obtain ⟨ad157,e157,hx157_0,hx157_1,hx157_2⟩:=at_T95 HR0.out x5_1 p157 q157
          have hw157_2:=hx157_2
          have hw157_1:=hx157_1
          have hw157_0:=hx157_0
          obtain rfl:ad151=ad157:=(by injection e157)
          replace hx157_0:=(HB.out.cell (World.block_lt_of_cell? w _ hx157_0)).trans hx157_0
          replace hx157_1:=(HB.out.cell (World.block_lt_of_cell? w _ hx157_1)).trans hx157_1
          replace hx157_2:=(HB.out.cell (World.block_lt_of_cell? w _ hx157_2)).trans hx157_2
          replace p157:=eq_true p157
          replace q157:=eq_true q157
          have p158:0≤(x5_1:Int):=oD
          have q158:x5_1 < (l0.length:Int):=oD
          obtain ⟨ad158,e158,hx158_0,hx158_1,hx158_2⟩:=at_T95 HR0.out x5_1 p158 q158
          have hw158_2:=hx158_2
          have hw158_1:=hx158_1
          have hw158_0:=hx158_0
          obtain rfl:ad151=ad158:=(by injection e158)
          replace hx158_0:=(HB.out.cell (World.block_lt_of_cell? w _ hx158_0)).trans hx158_0
          replace hx158_1:=(HB.out.cell (World.block_lt_of_cell? w _ hx158_1)).trans hx158_1
          replace hx158_2:=(HB.out.cell (World.block_lt_of_cell? w _ hx158_2)).trans hx158_2
          replace p158:=eq_true p158
          replace q158:=eq_true q158
          have p159:0≤(x5_1:Int):=oD
          have q159:x5_1 < (l0.length:Int):=oD
          obtain ⟨ad159,e159,hx159_0,hx159_1,hx159_2⟩:=at_T95 HR0.out x5_1 p159 q159
          have hw159_2:=hx159_2
          have hw159_1:=hx159_1
          have hw159_0:=hx159_0
          obtain rfl:ad151=ad159:=(by injection e159)
          replace hx159_0:=(HB.out.cell (World.block_lt_of_cell? w _ hx159_0)).trans hx159_0
          replace hx159_1:=(HB.out.cell (World.block_lt_of_cell? w _ hx159_1)).trans hx159_1
          replace hx159_2:=(HB.out.cell (World.block_lt_of_cell? w _ hx159_2)).trans hx159_2
          replace p159:=eq_true p159
          replace q159:=eq_true q159
          refine start_ (n:=22) (S:=fun w'=>w'.cell? (ad151.add ((x5_1).toNat * 3))=some (.int .i64 ((rd_T95 l0 x5_1).f0))∧w'.cell? ⟨(ad151.add ((x5_1).toNat * 3)).block,(ad151.add ((x5_1).toNat * 3)).off+1,none⟩=some (.int .i64 ((rd_T95 l0 x5_1).f1))∧w'.cell? ⟨(ad151.add ((x5_1).toNat * 3)).block,(ad151.add ((x5_1).toNat * 3)).off+2,none⟩=some (.int .i64 ((rd_T95 l0 x5_1).f2))∧w'.cell? (ad151.add ((x5_1).toNat * 3))=some (.int .i64 ((rd_T95 l0 x5_1).f0))∧w'.cell? ⟨(ad151.add ((x5_1).toNat * 3)).block,(ad151.add ((x5_1).toNat * 3)).off+1,none⟩=some (.int .i64 ((rd_T95 l0 x5_1).f1))∧w'.cell? ⟨(ad151.add ((x5_1).toNat * 3)).block,(ad151.add ((x5_1).toNat * 3)).off+2,none⟩=some (.int .i64 ((rd_T95 l0 x5_1).f2))∧w'.cell? (ad151.add ((x5_1).toNat * 3))=some (.int .i64 ((rd_T95 l0 x5_1).f0))∧w'.cell? ⟨(ad151.add ((x5_1).toNat * 3)).block,(ad151.add ((x5_1).toNat * 3)).off+1,none⟩=some (.int .i64 ((rd_T95 l0 x5_1).f1))∧w'.cell? ⟨(ad151.add ((x5_1).toNat * 3)).block,(ad151.add ((x5_1).toNat * 3)).off+2,none⟩=some (.int .i64 ((rd_T95 l0 x5_1).f2))) (ds:=[]) #[false,false,false,false,false,false,false,false,false,false,false,false,false,false,false,false,false,false,false,false,false,false] (by kernel_rfl) rfl rfl ⟨((HB.out.cell (World.block_lt_of_cell? w _ hw157_0)).trans hw157_0),((HB.out.cell (World.block_lt_of_cell? w _ hw157_1)).trans hw157_1),((HB.out.cell (World.block_lt_of_cell? w _ hw157_2)).trans hw157_2),((HB.out.cell (World.block_lt_of_cell? w _ hw158_0)).trans hw158_0),((HB.out.cell (World.block_lt_of_cell? w _ hw158_1)).trans hw158_1),((HB.out.cell (World.block_lt_of_cell? w _ hw158_2)).trans hw158_2),((HB.out.cell (World.block_lt_of_cell? w _ hw159_0)).trans hw159_0),((HB.out.cell (World.block_lt_of_cell? w _ hw159_1)).trans hw159_1),((HB.out.cell (World.block_lt_of_cell? w _ hw159_2)).trans hw159_2)⟩ (fun hHeld=>?_);refine with_tabW spec_TableText.tab9 spec_TableText.bits9 (fun HT_ HW_=>?_)
          generalize wr.drew=w15 at HO_4 HB hx157_0 hx157_1 hx157_2 hx158_0 hx158_1 hx158_2 hx159_0 hx159_1 hx159_2 hHeld ⊢
          refine pure_ (i:=0) (N:=some 42) (v:=?_) (a':=?_) #[true,false,false,false,false,false,false,false,false,false,false,false,false,false,false,false,false,false,false,false,false,false] rfl rfl (any_of HT_.out (by kernel_rfl)) (fun _ _ _ h=>h) (Or.inl ⟨by rfl,?_⟩) ?_ ?_
          rotate_left
          ·intro w'
           go_simp
           with_reducible rfl
          rotate_left
          ·simp only [Act.put,sA,sZ,sC,i64_w,i32_w]
           rfl
          refine pure_ (i:=1) (N:=some 43) (v:=?_) (a':=?_) #[true,true,false,false,false,false,false,false,false,false,false,false,false,false,false,false,false,false,false,false,false,false] rfl rfl (any_of HT_.out (by kernel_rfl)) (fun _ _ _ h=>h) (Or.inl ⟨by rfl,?_⟩) ?_ ?_
          rotate_left
          ·intro w'
           go_simp
           with_reducible rfl
          rotate_left
          ·simp only [Act.put,sA,sZ,sC,i64_w,i32_w]
           rfl
          refine pure_ (i:=2) (N:=some 44) (v:=?_) (a':=?_) #[true,true,true,false,false,false,false,false,false,false,false,false,false,false,false,false,false,false,false,false,false,false] rfl rfl (any_of HT_.out (by kernel_rfl)) (fun _ _ _ h=>h) (Or.inl ⟨by rfl,?_⟩) ?_ ?_
          rotate_left
          ·intro w'
           go_simp
           with_reducible rfl
          rotate_left
          ·simp only [Act.put,sA,sZ,sC,i64_w,i32_w]
           rfl
          refine pure_ (i:=3) (N:=some 45) (v:=?_) (a':=?_) #[true,true,true,true,false,false,false,false,false,false,false,false,false,false,false,false,false,false,false,false,false,false] rfl rfl (any_of HT_.out (by kernel_rfl)) (fun _ _ _ h=>h) (Or.inl ⟨by rfl,?_⟩) ?_ ?_
          rotate_left
          ·intro w'
           go_simp
           with_reducible rfl
          rotate_left
          ·simp only [Act.put,sA,sZ,sC,i64_w,i32_w]
           rfl
          refine pure_ (i:=4) (N:=some 46) (v:=?_) (a':=?_) #[true,true,true,true,true,false,false,false,false,false,false,false,false,false,false,false,false,false,false,false,false,false] rfl rfl (any_of HT_.out (by kernel_rfl)) (fun _ _ _ h=>h) (Or.inl ⟨by rfl,?_⟩) ?_ ?_
          rotate_left
          ·intro w'
           go_simp
           with_reducible rfl
          rotate_left
          ·simp only [Act.put,sA,sZ,sC,i64_w,i32_w]
           rfl
          refine pure_ (i:=7) (N:=some 49) (v:=?_) (a':=?_) #[true,true,true,true,true,false,false,true,false,false,false,false,false,false,false,false,false,false,false,false,false,false] rfl rfl (any_of HT_.out (by kernel_rfl)) (fun _ _ _ h=>h) (Or.inl ⟨by rfl,?_⟩) ?_ ?_
          rotate_left
          ·intro w'
           go_simp
           with_reducible rfl
          rotate_left
          ·simp only [Act.put,sA,sZ,sC,i64_w,i32_w]
           rfl
          refine pure_ (i:=8) (N:=some 50) (v:=?_) (a':=?_) #[true,true,true,true,true,false,false,true,true,false,false,false,false,false,false,false,false,false,false,false,false,false] rfl rfl (any_of HT_.out (by kernel_rfl)) (fun _ _ _ h=>h) (Or.inl ⟨by rfl,?_⟩) ?_ ?_
          rotate_left
          ·intro w'
           go_simp
           with_reducible rfl
          rotate_left
          ·simp only [Act.put,sA,sZ,sC,i64_w,i32_w]
           rfl
          refine pure_ (i:=9) (N:=some 51) (v:=?_) (a':=?_) #[true,true,true,true,true,false,false,true,true,true,false,false,false,false,false,false,false,false,false,false,false,false] rfl rfl (any_of HT_.out (by kernel_rfl)) (fun _ _ _ h=>h) (Or.inl ⟨by rfl,?_⟩) ?_ ?_
          rotate_left
          ·intro w'
           go_simp
           with_reducible rfl
          rotate_left
          ·simp only [Act.put,sA,sZ,sC,i64_w,i32_w]
           rfl
          refine pure_ (i:=10) (N:=some 52) (v:=?_) (a':=?_) #[true,true,true,true,true,false,false,true,true,true,true,false,false,false,false,false,false,false,false,false,false,false] rfl rfl (any_of HT_.out (by kernel_rfl)) (fun _ _ _ h=>h) (Or.inl ⟨by rfl,?_⟩) ?_ ?_
          rotate_left
          ·intro w'
           go_simp
           with_reducible rfl
          rotate_left
          ·simp only [Act.put,sA,sZ,sC,i64_w,i32_w]
           rfl
          refine pure_ (i:=13) (N:=some 55) (v:=?_) (a':=?_) #[true,true,true,true,true,false,false,true,true,true,true,false,false,true,false,false,false,false,false,false,false,false] rfl rfl (any_of HT_.out (by kernel_rfl)) (fun _ _ _ h=>h) (Or.inl ⟨by rfl,?_⟩) ?_ ?_
          rotate_left
          ·intro w'
           go_simp
           with_reducible rfl
          rotate_left
          ·simp only [Act.put,sA,sZ,sC,i64_w,i32_w]
           rfl
          refine pure_ (i:=14) (N:=some 56) (v:=?_) (a':=?_) #[true,true,true,true,true,false,false,true,true,true,true,false,false,true,true,false,false,false,false,false,false,false] rfl rfl (any_of HT_.out (by kernel_rfl)) (fun _ _ _ h=>h) (Or.inl ⟨by rfl,?_⟩) ?_ ?_
          rotate_left
          ·intro w'
           go_simp
           with_reducible rfl
          rotate_left
          ·simp only [Act.put,sA,sZ,sC,i64_w,i32_w]
           rfl
          refine pure_ (i:=15) (N:=some 57) (v:=?_) (a':=?_) #[true,true,true,true,true,false,false,true,true,true,true,false,false,true,true,true,false,false,false,false,false,false] rfl rfl (any_of HT_.out (by kernel_rfl)) (fun _ _ _ h=>h) (Or.inl ⟨by rfl,?_⟩) ?_ ?_
          rotate_left
          ·intro w'
           go_simp
           with_reducible rfl
          rotate_left
          ·simp only [Act.put,sA,sZ,sC,i64_w,i32_w]
           rfl
          refine pure_ (i:=16) (N:=some 58) (v:=?_) (a':=?_) #[true,true,true,true,true,false,false,true,true,true,true,false,false,true,true,true,true,false,false,false,false,false] rfl rfl (any_of HT_.out (by kernel_rfl)) (fun _ _ _ h=>h) (Or.inl ⟨by rfl,?_⟩) ?_ ?_
          rotate_left
          ·intro w'
           go_simp
           with_reducible rfl
          rotate_left
          ·simp only [Act.put,sA,sZ,sC,i64_w,i32_w]
           rfl
          refine take_ (i:=5) (N:=some 47) (v:=?_) (a':=?_) #[true,true,true,true,true,true,false,true,true,true,true,false,false,true,true,true,true,false,false,false,false,false] rfl rfl (take_ofW HT_.out HW_.out (by kernel_rfl)) (fun _ _ _ h=>h) (Or.inl ⟨by rfl,?_⟩) hHeld ?_ ?_
          rotate_left
          ·rintro w' ⟨s0,s1,s2,s3,s4,s5,s6,s7,s8⟩
           go_simp
           with_reducible rfl
          rotate_left
          ·simp only [Act.put,sA,sZ,sC,i64_w,i32_w]
           rfl
          refine pure_ (i:=6) (N:=some 48) (v:=?_) (a':=?_) #[true,true,true,true,true,true,true,true,true,true,true,false,false,true,true,true,true,false,false,false,false,false] rfl rfl (any_of HT_.out (by kernel_rfl)) (fun _ _ _ h=>h) (Or.inl ⟨by rfl,?_⟩) ?_ ?_
          rotate_left
          ·intro w'
           go_simp
           with_reducible rfl
          rotate_left
          ·simp only [Act.put,sA,sZ,sC,i64_w,i32_w]
           rfl
          refine take_ (i:=11) (N:=some 53) (v:=?_) (a':=?_) #[true,true,true,true,true,true,true,true,true,true,true,true,false,true,true,true,true,false,false,false,false,false] rfl rfl (take_ofW HT_.out HW_.out (by kernel_rfl)) (fun _ _ _ h=>h) (Or.inl ⟨by rfl,?_⟩) hHeld ?_ ?_
          rotate_left
          ·rintro w' ⟨s0,s1,s2,s3,s4,s5,s6,s7,s8⟩
           go_simp
           with_reducible rfl
          rotate_left
          ·simp only [Act.put,sA,sZ,sC,i64_w,i32_w]
           rfl
          refine pure_ (i:=12) (N:=some 54) (v:=?_) (a':=?_) #[true,true,true,true,true,true,true,true,true,true,true,true,true,true,true,true,true,false,false,false,false,false] rfl rfl (any_of HT_.out (by kernel_rfl)) (fun _ _ _ h=>h) (Or.inl ⟨by rfl,?_⟩) ?_ ?_
          rotate_left
          ·intro w'
           go_simp
           with_reducible rfl
          rotate_left
          ·simp only [Act.put,sA,sZ,sC,i64_w,i32_w]
           rfl
          refine take_ (i:=17) (N:=some 59) (v:=?_) (a':=?_) #[true,true,true,true,true,true,true,true,true,true,true,true,true,true,true,true,true,true,false,false,false,false] rfl rfl (take_ofW HT_.out HW_.out (by kernel_rfl)) (fun _ _ _ h=>h) (Or.inl ⟨by rfl,?_⟩) hHeld ?_ ?_
          rotate_left
          ·rintro w' ⟨s0,s1,s2,s3,s4,s5,s6,s7,s8⟩
           go_simp
           with_reducible rfl
          rotate_left
          ·simp only [Act.put,sA,sZ,sC,i64_w,i32_w]
           rfl
          refine pure_ (i:=18) (N:=some 60) (v:=?_) (a':=?_) #[true,true,true,true,true,true,true,true,true,true,true,true,true,true,true,true,true,true,true,false,false,false] rfl rfl (any_of HT_.out (by kernel_rfl)) (fun _ _ _ h=>h) (Or.inl ⟨by rfl,?_⟩) ?_ ?_
          rotate_left
          ·intro w'
           go_simp
           with_reducible rfl
          rotate_left
          ·simp only [Act.put,sA,sZ,sC,i64_w,i32_w]
           rfl
          refine one_ (i:=19) (N:=some 61) #[true,true,true,true,true,true,true,true,true,true,true,true,true,true,true,true,true,true,true,true,false,false] rfl rfl (one_of HT_.out (by kernel_rfl)) (by decide) (fun K hK=>?_)
          refine Kd.R_lit_step (Kd.int .u8) _ 5 ?hg (N:=61) ?hd (xs:=([((rd_T95 l0 x5_1).f0) % 256,((rd_T95 l0 x5_1).f1) % 256,((rd_T95 l0 x5_1).f2) % 256]:List Int)) (inner:=[.int .u8 (((rd_T95 l0 x5_1).f0) % 256),.int .u8 (((rd_T95 l0 x5_1).f1) % 256),.int .u8 (((rd_T95 l0 x5_1).f2) % 256)]) (ok:=fun _=>True) (okp:=fun _=>True) ?hr ?hp (fun _ hk=>hk) trivial (Below.refl _ _) (Nat.le_refl _) (by simp) ?_;(case hd=>rfl);(case hg=>rfl);(case hr=>first|(go_simp;done)|(go_simp;rfl));(case hp=>exact (Reps.one (show Kd.M (Kd.int .u8) _ _ _ (((rd_T95 l0 x5_1).f0) % 256) [.int .u8 (((rd_T95 l0 x5_1).f0) % 256)] from rfl) (Reps.one (show Kd.M (Kd.int .u8) _ _ _ (((rd_T95 l0 x5_1).f1) % 256) [.int .u8 (((rd_T95 l0 x5_1).f1) % 256)] from rfl) (Reps.one (show Kd.M (Kd.int .u8) _ _ _ (((rd_T95 l0 x5_1).f2) % 256) [.int .u8 (((rd_T95 l0 x5_1).f2) % 256)] from rfl) (Reps.none _ _)))))
          intro v161 w16 ho17 hb hg_ hnew_
          clear hg_ hnew_
          (first|rw [← Ny160.out] at ho17|(simp only [Int.reduceToNat] at ho17;rw [← Ny160.out] at ho17))
          have n0_:=Aside0.mk (Kd.R_elder' (rS HO_4) (Kd.R_base ho17) hb)
          have n1_:=Aside0.mk (Kd.R_lower (Kd.R_new' ho17 (Kd.R_lt (rS HO_4))) (below_size bH))
          have n2_:=Aside0.mk (below_step bH hb)
          clear HO_4
          clear HB
          have HO_4:=n0_
          have HO162:=n1_
          have HB:=n2_
          clear n0_ n1_ n2_
          clear hb ho17
          obtain ⟨Ao19,co19,eo19⟩:=Kd.R_slice HO162.out
          (first|subst eo19|(injection eo19 with f1_ f2_ f3_;have f4_:=f1_.symm;have f5_:=f3_.symm;clear f1_ f2_ f3_;subst f4_;subst f5_))
          refine hK.out _ _ ⟨((HB.out.cell (World.block_lt_of_cell? w _ hw157_0)).trans hw157_0),((HB.out.cell (World.block_lt_of_cell? w _ hw157_1)).trans hw157_1),((HB.out.cell (World.block_lt_of_cell? w _ hw157_2)).trans hw157_2),((HB.out.cell (World.block_lt_of_cell? w _ hw158_0)).trans hw158_0),((HB.out.cell (World.block_lt_of_cell? w _ hw158_1)).trans hw158_1),((HB.out.cell (World.block_lt_of_cell? w _ hw158_2)).trans hw158_2),((HB.out.cell (World.block_lt_of_cell? w _ hw159_0)).trans hw159_0),((HB.out.cell (World.block_lt_of_cell? w _ hw159_1)).trans hw159_1),((HB.out.cell (World.block_lt_of_cell? w _ hw159_2)).trans hw159_2)⟩ (fun hHeld=>?_)
          clear hK K
          refine norm_ (a':=?_) ?_ ?_
          rotate_left
          ·show Act.put _ (some 61) _=_
           simp only [Act.put,sA,sZ,sC,i64_w,i32_w]
           rfl
          refine one_ (i:=20) (N:=some 62) #[true,true,true,true,true,true,true,true,true,true,true,true,true,true,true,true,true,true,true,true,true,false] rfl rfl (one_of HT_.out (by kernel_rfl)) (by decide) (fun K hK=>?_)
          refine Kd.R_append_rows_step (Kd.int .u8) (w0:=w) w.heap.size (by rfl) (.tmp 42) (.tmp 61) 44 5 (.int .u8 0) 1 rfl Try.underlying44 info5 rfl (by decide) (by omega) u4 x4_1 y160 _ _ _ (fun k_=>some k_≠(.slice Ao19 y160.length co19:Value).ownBlock) (fun _=>False) rfl rfl ?aO ?aR (fun _ _ h=>h) (fun _ h=>h.elim) ?aF ?aB ?aS ?aL ?_
          (case aR=>repeat (first|exact (Kd.R_reads' HO162.out).2.2|(with_reducible refine Kd.C_alloc ?_ _)|(with_reducible refine Kd.C_drewN ?_ _)|(with_reducible refine Kd.C_drew ?_)))
          (case aB=>exact bH)
          (case aF=>exact (fun k_ hk=>Kd.fresh' (Kd.R_lt (rS HO162)) k_ hk))
          (case aO=>exact (by (with_reducible repeat (first|apply Kd.R_alloc|apply Kd.R_drewN|apply Kd.R_drew));exact Kd.R_mono HO_4.out (fun _ hk=>hk.2)))
          (case aS=>exact (below_size bH))
          (case aL=>have:=LMc14.out;omega)
          intro v164 w18 ho hb hg hat
          rw [← Ny163.out] at ho
          replace HO162:=Aside0.mk (Kd.R_after (ok:=(fun _=>True)) (rS HO162) hg hat);have HO165:=Aside0.mk ho;replace HB:=Aside0.mk hb;clear HO_4
          clear ho hb hg hat
          refine hK.out _ _ ⟨((HB.out.cell (World.block_lt_of_cell? w _ hw157_0)).trans hw157_0),((HB.out.cell (World.block_lt_of_cell? w _ hw157_1)).trans hw157_1),((HB.out.cell (World.block_lt_of_cell? w _ hw157_2)).trans hw157_2),((HB.out.cell (World.block_lt_of_cell? w _ hw158_0)).trans hw158_0),((HB.out.cell (World.block_lt_of_cell? w _ hw158_1)).trans hw158_1),((HB.out.cell (World.block_lt_of_cell? w _ hw158_2)).trans hw158_2),((HB.out.cell (World.block_lt_of_cell? w _ hw159_0)).trans hw159_0),((HB.out.cell (World.block_lt_of_cell? w _ hw159_1)).trans hw159_1),((HB.out.cell (World.block_lt_of_cell? w _ hw159_2)).trans hw159_2)⟩ (fun hHeld=>?_)
          clear hK K
          refine norm_ (a':=?_) ?_ ?_
          rotate_left
          ·show Act.put _ (some 62) _=_
           simp only [Act.put,sA,sZ,sC,i64_w,i32_w]
           rfl
          refine pure_ (i:=21) (N:=some 4) (v:=?_) (a':=?_) #[true,true,true,true,true,true,true,true,true,true,true,true,true,true,true,true,true,true,true,true,true,true] rfl rfl (any_of HT_.out (by kernel_rfl)) (fun _ _ _ h=>h) (Or.inl ⟨by rfl,?_⟩) ?_ ?_
          rotate_left
          ·intro w'
           go_simp
           with_reducible rfl
          rotate_left
          ·simp only [Act.put,sA,sZ,sC,i64_w,i32_w]
           rfl
          refine done_ (done_of HT_.out (by kernel_rfl)) ?_
          try go_wp2
          go_roundg k1
          case measure=>have:=HK1.out;omega
          case rel=>exact ⟨(y163),(wrap64 (x5_1+1)),fS,H',⟨by have:=HK1.out;omega⟩,⟨by (with_reducible repeat (first|apply Kd.R_alloc|apply Kd.R_drewN|apply Kd.R_drew));exact Kd.R_mono HO165.out (fun _ hk=>trivial)⟩,⟨bH⟩⟩
         ·rw [if_neg c14] at H
          exact absurd H (by simp)
        ·obtain rfl:=bF c13
         have H1:(some ((⟨#[]⟩:ByteArray),false))=some (r1,r2):=by rw [if_neg nF] at H;exact H
         clear H
         have H:=H1
         clear H1
         simp only [Option.some.injEq,Prod.mk.injEq] at H
         obtain ⟨rfl,rfl⟩:=H
         have p151:0≤(x5_1:Int):=oD
         have q151:x5_1 < (l0.length:Int):=oD
         obtain ⟨ad151,e151,hx151_0,hx151_1,hx151_2⟩:=at_T95 HR0.out x5_1 p151 q151
         cases e151
         replace hx151_0:=(HB.out.cell (World.block_lt_of_cell? w _ hx151_0)).trans hx151_0
         replace hx151_1:=(HB.out.cell (World.block_lt_of_cell? w _ hx151_1)).trans hx151_1
         replace hx151_2:=(HB.out.cell (World.block_lt_of_cell? w _ hx151_2)).trans hx151_2
         replace p151:=eq_true p151
         replace q151:=eq_true q151
         go_wp2_with (first|((with_reducible refine gate_callee (f:=119) rfl ?_);refine gL (some 22) Try.func119 #[.int .i64 ((rd_T95 l0 x5_1).f0)] ?_;(with_reducible refine (spec_l17Byte.calls ((rd_T95 l0 x5_1).f0) true _ A8.out).mono ?_);rintro e w' ⟨rfl,⟨nd,rfl⟩⟩;refine ⟨_,rfl,?_⟩;have p153:0≤(x5_1:Int):=oD;have q153:x5_1 < (l0.length:Int):=oD;obtain ⟨ad153,e153,hx153_0,hx153_1,hx153_2⟩:=at_T95 HR0.out x5_1 p153 q153;obtain rfl:ad151=ad153:=(by injection e153);replace hx153_0:=(HB.out.cell (World.block_lt_of_cell? w _ hx153_0)).trans hx153_0;replace hx153_1:=(HB.out.cell (World.block_lt_of_cell? w _ hx153_1)).trans hx153_1;replace hx153_2:=(HB.out.cell (World.block_lt_of_cell? w _ hx153_2)).trans hx153_2;replace p153:=eq_true p153;replace q153:=eq_true q153)|(go_at_call 119;(with_reducible refine (spec_l17Byte.calls ((rd_T95 l0 x5_1).f1) true _ A10.out).mono ?_);rintro e w' ⟨rfl,⟨nd,rfl⟩⟩;have p155:0≤(x5_1:Int):=oD;have q155:x5_1 < (l0.length:Int):=oD;obtain ⟨ad155,e155,hx155_0,hx155_1,hx155_2⟩:=at_T95 HR0.out x5_1 p155 q155;obtain rfl:ad151=ad155:=(by injection e155);replace hx155_0:=(HB.out.cell (World.block_lt_of_cell? w _ hx155_0)).trans hx155_0;replace hx155_1:=(HB.out.cell (World.block_lt_of_cell? w _ hx155_1)).trans hx155_1;replace hx155_2:=(HB.out.cell (World.block_lt_of_cell? w _ hx155_2)).trans hx155_2;replace p155:=eq_true p155;replace q155:=eq_true q155)|(go_at_call 119;(with_reducible refine (spec_l17Byte.calls ((rd_T95 l0 x5_1).f2) false _ A12.out).mono ?_);rintro e w' ⟨rfl,⟨nd,rfl⟩⟩))
         go_ret2
         exact ⟨fE,bH⟩
       ·obtain rfl:=bF c11
        have H1:(some ((⟨#[]⟩:ByteArray),false))=some (r1,r2):=by rw [if_neg nF] at H;exact H
        clear H
        have H:=H1
        clear H1
        simp only [Option.some.injEq,Prod.mk.injEq] at H
        obtain ⟨rfl,rfl⟩:=H
        have p151:0≤(x5_1:Int):=oD
        have q151:x5_1 < (l0.length:Int):=oD
        obtain ⟨ad151,e151,hx151_0,hx151_1,hx151_2⟩:=at_T95 HR0.out x5_1 p151 q151
        cases e151
        replace hx151_0:=(HB.out.cell (World.block_lt_of_cell? w _ hx151_0)).trans hx151_0
        replace hx151_1:=(HB.out.cell (World.block_lt_of_cell? w _ hx151_1)).trans hx151_1
        replace hx151_2:=(HB.out.cell (World.block_lt_of_cell? w _ hx151_2)).trans hx151_2
        replace p151:=eq_true p151
        replace q151:=eq_true q151
        go_wp2_with (first|((with_reducible refine gate_callee (f:=119) rfl ?_);refine gL (some 22) Try.func119 #[.int .i64 ((rd_T95 l0 x5_1).f0)] ?_;(with_reducible refine (spec_l17Byte.calls ((rd_T95 l0 x5_1).f0) true _ A8.out).mono ?_);rintro e w' ⟨rfl,⟨nd,rfl⟩⟩;refine ⟨_,rfl,?_⟩;have p153:0≤(x5_1:Int):=oD;have q153:x5_1 < (l0.length:Int):=oD;obtain ⟨ad153,e153,hx153_0,hx153_1,hx153_2⟩:=at_T95 HR0.out x5_1 p153 q153;obtain rfl:ad151=ad153:=(by injection e153);replace hx153_0:=(HB.out.cell (World.block_lt_of_cell? w _ hx153_0)).trans hx153_0;replace hx153_1:=(HB.out.cell (World.block_lt_of_cell? w _ hx153_1)).trans hx153_1;replace hx153_2:=(HB.out.cell (World.block_lt_of_cell? w _ hx153_2)).trans hx153_2;replace p153:=eq_true p153;replace q153:=eq_true q153)|(go_at_call 119;(with_reducible refine (spec_l17Byte.calls ((rd_T95 l0 x5_1).f1) false _ A10.out).mono ?_);rintro e w' ⟨rfl,⟨nd,rfl⟩⟩))
        go_ret2
        exact ⟨fE,bH⟩
      ·obtain rfl:=bF c9
       have H1:(some ((⟨#[]⟩:ByteArray),false))=some (r1,r2):=by rw [if_neg nF] at H;exact H
       clear H
       have H:=H1
       clear H1
       simp only [Option.some.injEq,Prod.mk.injEq] at H
       obtain ⟨rfl,rfl⟩:=H
       have p151:0≤(x5_1:Int):=oD
       have q151:x5_1 < (l0.length:Int):=oD
       obtain ⟨ad151,e151,hx151_0,hx151_1,hx151_2⟩:=at_T95 HR0.out x5_1 p151 q151
       cases e151
       replace hx151_0:=(HB.out.cell (World.block_lt_of_cell? w _ hx151_0)).trans hx151_0
       replace hx151_1:=(HB.out.cell (World.block_lt_of_cell? w _ hx151_1)).trans hx151_1
       replace hx151_2:=(HB.out.cell (World.block_lt_of_cell? w _ hx151_2)).trans hx151_2
       replace p151:=eq_true p151
       replace q151:=eq_true q151
       go_wp2_with (first|((with_reducible refine gate_callee (f:=119) rfl ?_);refine gL (some 22) Try.func119 #[.int .i64 ((rd_T95 l0 x5_1).f0)] ?_;(with_reducible refine (spec_l17Byte.calls ((rd_T95 l0 x5_1).f0) false _ A8.out).mono ?_);rintro e w' ⟨rfl,⟨nd,rfl⟩⟩;refine ⟨_,rfl,?_⟩))
       go_ret2
       exact ⟨fE,bH⟩
     ·rw [if_neg c7] at H
      exact absurd H (by simp)
    ·rw [if_neg c6] at H
     have c6b0:decide (x5_1 < (l0.length:Int))=false:=decide_eq_false c6
     clear c6
     simp only [Option.some.injEq,Prod.mk.injEq] at H
     obtain ⟨rfl,rfl⟩:=H
     have hcv20:=own_string (P:=Try.prog) Try.underlying44 Try.underlying5 Try.underlying9 (Kd.own_of_R HO_4.out)
     go_wp2
     go_ret2
     exact ⟨fE,bH⟩
 ·obtain rfl:=bF c3
  have H1:(some ((⟨#[]⟩:ByteArray),false))=some (r1,r2):=by rw [if_neg nF] at H;exact H
  clear H
  have H:=H1
  clear H1
  simp only [Option.some.injEq,Prod.mk.injEq] at H
  obtain ⟨rfl,rfl⟩:=H
  go_enter Try.func88,Try.ntmps88
  go_wp2_with (first|((with_reducible refine gate_callee (f:=116) rfl ?_);refine gL (some 8) Try.func116 #[.int .i64 (l0.length:Int),.int .i64 1,.int .i64 256] ?_;(with_reducible refine (spec_l01In.calls (l0.length:Int) 1 256 false _ A2.out).mono ?_);rintro e w' ⟨rfl,⟨nd,rfl⟩⟩;refine ⟨_,rfl,?_⟩))
  go_ret2
  exact ⟨fE,bH⟩
end Go.Proofs.Ytjpfhldklbgdcaa.Ld
