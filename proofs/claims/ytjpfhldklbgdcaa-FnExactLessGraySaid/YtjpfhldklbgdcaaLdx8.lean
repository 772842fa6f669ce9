import Derived.Test.YtjpfhldklbgdcaaSr
import Derived.Test.YtjpfhldklbgdcaaLdx0
set_option maxHeartbeats 8000000
set_option maxRecDepth 100000
namespace Go.Proofs.Ytjpfhldklbgdcaa.Ld
open Go.RowKit Go.Proofs.Ytjpfhldklbgdcaa.Sq Go.Proofs.YtjpfhldklbgdcaaW.PrintWords Go.Proofs.YtjpfhldklbgdcaaW.PrintLast Go.Proofs.YtjpfhldklbgdcaaW.PrintMore
attribute [local go_sem] max2_int min2_int max_two min_two max_three min_three max_four min_four   -- for this text's walks alone
set_option linter.unusedVariables false
set_option linter.unusedSimpArgs false
def spec_l19Divided.l0:Nat→List Int→Int→List Int→Int→Option (List Int×Bool)
 | 0,_,_,_,_=>none
 | k+1,x0,x1,x6,x7=>if x7 < (x0.length:Int) then (if 0≤x7 then (if x1=0 then (none) else (if (Int.tmod (rd x0 x7) x1)=0 then (if x6.length < 17592186044416 then (spec_l19Divided.l0 k x0 x1 (x6++[wrap64 (Int.tdiv (rd x0 x7) x1)]) (wrap64 (x7+1))) else (none)) else (some ((([]:List Int)),false)))) else (none)) else (some (x6,true))
def spec_l19Divided.f (k:Nat) (l0:List Int) (a1:Int):Option (List Int×Bool):=spec_l19Divided.l0 k l0 a1 (([]:List Int)) 0
theorem spec_l19Divided.mono_l:∀ k,(∀ y0 y1 y2 y3,LeO (spec_l19Divided.l0 k y0 y1 y2 y3) (spec_l19Divided.l0 (k+1) y0 y1 y2 y3))
 | 0=>fun _ _ _ _ r h=>by simp [spec_l19Divided.l0] at h
 | k+1=>by
  have ih0:=spec_l19Divided.mono_l k
  ·intro y0 y1 y2 y3
   unfold spec_l19Divided.l0
   repeat' first
   | (with_reducible exact ih0 _ _ _ _)
   | (with_reducible exact LeO.refl _)
   | (with_reducible exact LeO.none _)
   | (with_reducible refine LeO.ite ?_ ?_)
   | (with_reducible refine LeO.bind ?_ (fun _=>?_))
   | exact ih0 _ _ _ _
   | exact LeO.none _
   | refine LeO.ite ?_ ?_
   | refine LeO.bind ?_ (fun _=>?_)
theorem spec_l19Divided.mono:∀ a0 a1 k,LeO (spec_l19Divided.f k a0 a1) (spec_l19Divided.f (k+1) a0 a1):=by
 intro a0 a1 k
 have ih0:=spec_l19Divided.mono_l k
 unfold spec_l19Divided.f
 repeat' first
   | (with_reducible exact ih0 _ _ _ _)
   | (with_reducible exact LeO.refl _)
   | (with_reducible exact LeO.none _)
   | (with_reducible refine LeO.ite ?_ ?_)
   | (with_reducible refine LeO.bind ?_ (fun _=>?_))
   | exact ih0 _ _ _ _
   | exact LeO.none _
   | refine LeO.ite ?_ ?_
   | refine LeO.bind ?_ (fun _=>?_)
theorem spec_l19Divided.calls (k:Nat) (A0:Option Addr) (c0:Nat) (l0:List Int) (a1:Int) (r1:List Int) (r2:Bool) (w:World) (hr0:Kd.C (Kd.int .i64) w A0 l0.length l0) (hc0:l0.length≤c0) (h:spec_l19Divided.f k l0 a1=some (r1,r2)):
  Calls Try.prog 38 #[.slice A0 l0.length c0,.int .i64 a1] w fun e w'=>∃ v0_:Value,e=.returned (.tuple #[v0_,.bool r2])∧Kd.R (Kd.int .i64) 3 w' w.heap.size (fun _=>True) v0_ r1∧Below w.heap.size w w':=by
 have HR0:=Aside0.mk hr0
 have HC0:=Aside0.mk hc0
 clear hr0 hc0
 have HB:=Aside0.mk (Below.refl w.heap.size w)
 have H:(spec_l19Divided.l0 k l0 a1 (([]:List Int)) 0)=some (r1,r2):=h
 clear h
 obtain ⟨y175,hy175⟩:∃ y_:List Int,y_=(([]:List Int)):=⟨_,rfl⟩
 replace H:(spec_l19Divided.l0 k l0 a1 y175 0)=some (r1,r2):=by first|(rw [hy175];with_reducible exact H)|(have H2_:=(Option.bind_some _ _).symm.trans H;rw [hy175];with_reducible exact H2_)|(have H2_:=(Option.bind_some _ _).symm.trans H;with_reducible exact H2_)|with_reducible exact H|(rw [hy175];exact H)|exact H
 have Ny175:=Aside0.mk hy175
 clear hy175
 have H':=Aside0.mk H
 clear H
 go_enter Try.func38,Try.ntmps38
 go_wp2_with (first|((with_reducible refine gate_dst (N:=8) rfl ?_);refine Kd.R_lit (Kd.int .i64) _ 3 ?hg (N:=8) ?hd (xs:=([]:List Int)) (inner:=[]) (ok:=fun _=>True) (okp:=fun _=>True) ?hr ?hp (fun _ hk=>hk) trivial (Below.refl _ _) (Nat.le_refl _) (by simp) ?_;(case hd=>rfl);(case hg=>rfl);(case hr=>first|(go_simp;done)|(go_simp;rfl));(case hp=>exact (Reps.none _ _));intro v176 w3 ho4 hb hg_ hnew_;clear hg_ hnew_;(first|rw [← Ny175.out] at ho4|(simp only [Int.reduceToNat] at ho4;rw [← Ny175.out] at ho4));have HO177:=Aside0.mk (Kd.R_lower ho4 (below_size bH));replace HB:=Aside0.mk (below_step bH hb);clear hb ho4))
 go_loopg [6,7] k (fun kq v6 v7 w'=>∃ (x6_1:List Int) (x7_1:Int),v7=.int .i64 x7_1∧Aside0 (spec_l19Divided.l0 kq l0 a1 x6_1 x7_1=some (r1,r2))∧Aside0 (kq≤k)∧Aside0 (Kd.R (Kd.int .i64) 3 w' w.heap.size (fun _=>True) v6 x6_1)∧Aside0 (Below w.heap.size w w'))
 case atStart=>exact ⟨(y175),(0),fS,H',⟨Nat.le_refl _⟩,⟨rS HO177⟩,⟨bH⟩⟩
 case round =>
  clear H'
  obtain ⟨x6_1,x7_1,rfl,HA,HK1,HO_6,HB⟩:=hrel
  cases gk with
  | zero=>exact absurd HA.out (by simp [spec_l19Divided.l0])
  | succ k1 =>
   have H:=HA.out
   clear HA
   simp only [spec_l19Divided.l0] at H
   by_cases c5:x7_1 < (l0.length:Int)
   ·rw [if_pos c5] at H
    have c5b0:decide (x7_1 < (l0.length:Int))=true:=decide_eq_true c5
    clear c5
    by_cases c6:0≤x7_1
    ·rw [if_pos c6] at H
     have c6b0:decide (0≤x7_1)=true:=decide_eq_true c6
     clear c6
     by_cases c7:a1=0
     ·rw [if_pos c7] at H
      exact absurd H (by simp)
     ·rw [if_neg c7] at H
      have c7b0:(a1 == 0)=false:=beq_eq_false_iff_ne.mpr c7
      have c7b1:(a1 != 0)=true:=bne_iff_ne.mpr c7
      by_cases c8:(Int.tmod (rd l0 x7_1) a1)=0
      ·rw [if_pos c8] at H
       have c8b0:((Int.tmod (rd l0 x7_1) a1) == 0)=true:=beq_iff_eq.mpr c8
       have c8b1:((Int.tmod (rd l0 x7_1) a1) != 0)=false:=bne_eq_false_iff_eq.mpr c8
       clear c8
       by_cases c9:x6_1.length < 17592186044416
       ·rw [if_pos c9] at H
        have LMc9:=Aside0.mk c9
        clear c9
        obtain ⟨y180,hy180⟩:∃ y_:List Int,y_=(x6_1++[wrap64 (Int.tdiv (rd l0 x7_1) a1)]):=⟨_,rfl⟩
        replace H:(spec_l19Divided.l0 k1 l0 a1 y180 (wrap64 (x7_1+1)))=some (r1,r2):=by first|(rw [hy180];with_reducible exact H)|(have H2_:=(Option.bind_some _ _).symm.trans H;rw [hy180];with_reducible exact H2_)|(have H2_:=(Option.bind_some _ _).symm.trans H;with_reducible exact H2_)|with_reducible exact H|(rw [hy180];exact H)|exact H
        have Ny180:=Aside0.mk hy180
        clear hy180
        have H':=Aside0.mk H
        clear H
        have p178:0≤(x7_1:Int):=oD
        have q178:x7_1 < (l0.length:Int):=oD
        obtain ⟨ad178,e178,hx178_0⟩:=Kd.at_int HR0.out x7_1 p178 q178
        cases e178
        replace hx178_0:=(HB.out.cell (World.block_lt_of_cell? w _ hx178_0)).trans hx178_0
        replace p178:=eq_true p178
        replace q178:=eq_true q178
        have p179:0≤(x7_1:Int):=oD
        have q179:x7_1 < (l0.length:Int):=oD
        obtain ⟨ad179,e179,hx179_0⟩:=Kd.at_int HR0.out x7_1 p179 q179
        obtain rfl:ad178=ad179:=(by injection e179)
        replace hx179_0:=(HB.out.cell (World.block_lt_of_cell? w _ hx179_0)).trans hx179_0
        replace p179:=eq_true p179
        replace q179:=eq_true q179
        go_wp2_with (first|((with_reducible refine gate_builtin (b:=.append) (xs:=#[.tmp 23,.tmp 30]) rfl ?_);at_builtin;refine Kd.R_append (Kd.int .i64) (w0:=w) w.heap.size rfl (.tmp 23) (.tmp 30) 25 3 (.int .i64 0) 8 rfl Try.underlying25 info3 rfl (by decide) (by omega) u6 x6_1 (wrap64 (Int.tdiv (rd l0 x7_1) a1)) [.int .i64 (wrap64 (Int.tdiv (rd l0 x7_1) a1))] (fun _=>True) (fun _=>False) rfl rfl ?aP (fun _ hk=>hk.elim) ?aF ?aO ?aB ?aS ?aL ?_;(case aP=>exact rfl);(case aB=>exact bH);(case aF=>exact (fun _ _=>trivial));(case aO=>exact (rS HO_6));(case aS=>exact (below_size bH));(case aL=>have:=LMc9.out;omega);intro v181 w10 ho hb hg hat;rw [← Ny180.out] at ho;have HO182:=Aside0.mk ho;replace HB:=Aside0.mk hb;clear HO_6;clear ho hb hg hat))
        go_roundg k1
        case measure=>have:=HK1.out;omega
        case rel=>exact ⟨(y180),(wrap64 (x7_1+1)),fS,H',⟨by have:=HK1.out;omega⟩,⟨rS HO182⟩,⟨bH⟩⟩
       ·rw [if_neg c9] at H
        exact absurd H (by simp)
      ·rw [if_neg c8] at H
       have c8b0:((Int.tmod (rd l0 x7_1) a1) == 0)=false:=beq_eq_false_iff_ne.mpr c8
       have c8b1:((Int.tmod (rd l0 x7_1) a1) != 0)=true:=bne_iff_ne.mpr c8
       obtain ⟨y183,hy183⟩:∃ y_:List Int,y_=(([]:List Int)):=⟨_,rfl⟩
       replace H:(some (y183,false))=some (r1,r2):=by first|(rw [hy183];with_reducible exact H)|(have H2_:=(Option.bind_some _ _).symm.trans H;rw [hy183];with_reducible exact H2_)|(have H2_:=(Option.bind_some _ _).symm.trans H;with_reducible exact H2_)|with_reducible exact H|(rw [hy183];exact H)|exact H
       have Ny183:=Aside0.mk hy183
       clear hy183
       simp only [Option.some.injEq,Prod.mk.injEq] at H
       obtain ⟨rfl,rfl⟩:=H
       have p178:0≤(x7_1:Int):=oD
       have q178:x7_1 < (l0.length:Int):=oD
       obtain ⟨ad178,e178,hx178_0⟩:=Kd.at_int HR0.out x7_1 p178 q178
       cases e178
       replace hx178_0:=(HB.out.cell (World.block_lt_of_cell? w _ hx178_0)).trans hx178_0
       replace p178:=eq_true p178
       replace q178:=eq_true q178
       go_wp2_with (first|((with_reducible refine gate_dst (N:=22) rfl ?_);refine Kd.R_lit (Kd.int .i64) _ 3 ?hg (N:=22) ?hd (xs:=([]:List Int)) (inner:=[]) (ok:=fun _=>True) (okp:=fun _=>True) ?hr ?hp (fun _ hk=>hk) trivial (Below.refl _ _) (Nat.le_refl _) (by simp) ?_;(case hd=>rfl);(case hg=>rfl);(case hr=>first|(go_simp;done)|(go_simp;rfl));(case hp=>exact (Reps.none _ _));intro v184 w11 ho12 hb hg_ hnew_;clear hg_ hnew_;(first|rw [← Ny183.out] at ho12|(simp only [Int.reduceToNat] at ho12;rw [← Ny183.out] at ho12));have n0_:=Aside0.mk (Kd.R_elder' (rS HO_6) (Kd.R_base ho12) hb);have n1_:=Aside0.mk (Kd.R_lower (Kd.R_new' ho12 (Kd.R_lt (rS HO_6))) (below_size bH));have n2_:=Aside0.mk (below_step bH hb);clear HO_6;clear HB;have HO_6:=n0_;have HO185:=n1_;have HB:=n2_;clear n0_ n1_ n2_;clear hb ho12))
       go_ret2
       exact ⟨_,fE,by (with_reducible repeat (first|apply Kd.R_alloc|apply Kd.R_drewN|apply Kd.R_drew));exact Kd.R_mono HO185.out (fun _ hk=>trivial),bH⟩
    ·rw [if_neg c6] at H
     exact absurd H (by simp)
   ·rw [if_neg c5] at H
    have c5b0:decide (x7_1 < (l0.length:Int))=false:=decide_eq_false c5
    clear c5
    simp only [Option.some.injEq,Prod.mk.injEq] at H
    obtain ⟨rfl,rfl⟩:=H
    go_wp2
    go_ret2
    exact ⟨_,fE,rS HO_6,bH⟩
def spec_l18CopyKept.f (l0:List (S83)):Option ((List (S83))):=(some (([]:List (S83)):List (S83))).bind fun y186=>(if y186.length+l0.length < 4398046511104 then (some (y186++l0)) else (none))
theorem spec_l18CopyKept.calls (A0:Option Addr) (c0:Nat) (l0:List (S83)) (r:List (S83)) (w:World) (hr0:Kd.C k83 w A0 l0.length l0) (hc0:l0.length≤c0) (h:spec_l18CopyKept.f l0=some r):
  Calls Try.prog 65 #[.slice A0 l0.length c0] w fun e w'=>∃ v0_:Value,e=.returned (v0_)∧Kd.R k83 83 w' w.heap.size (fun _=>True) v0_ r∧Below w.heap.size w w':=by
 have HR0:=Aside0.mk hr0
 have HC0:=Aside0.mk hc0
 clear hr0 hc0
 have HB:=Aside0.mk (Below.refl w.heap.size w)
 have H:=h
 clear h
 unfold spec_l18CopyKept.f at H
 obtain ⟨y186,hy186⟩:∃ y_:List (S83),y_=(([]:List (S83))):=⟨_,rfl⟩
 replace H:(if y186.length+l0.length < 4398046511104 then (some (y186++l0)) else (none))=some r:=by first|(rw [hy186];with_reducible exact H)|(have H2_:=(Option.bind_some _ _).symm.trans H;rw [hy186];with_reducible exact H2_)|(have H2_:=(Option.bind_some _ _).symm.trans H;with_reducible exact H2_)|with_reducible exact H|(rw [hy186];exact H)|exact H
 have Ny186:=Aside0.mk hy186
 clear hy186
 by_cases c2:y186.length+l0.length < 4398046511104
 ·rw [if_pos c2] at H
  have LMc2:=Aside0.mk c2
  clear c2
  obtain ⟨y189,hy189⟩:∃ y_:List (S83),y_=(y186++l0):=⟨_,rfl⟩
  replace H:(some y189)=some r:=by first|(rw [hy189];with_reducible exact H)|(have H2_:=(Option.bind_some _ _).symm.trans H;rw [hy189];with_reducible exact H2_)|(have H2_:=(Option.bind_some _ _).symm.trans H;with_reducible exact H2_)|with_reducible exact H|(rw [hy189];exact H)|exact H
  have Ny189:=Aside0.mk hy189
  clear hy189
  obtain rfl:=sI H
  go_enter Try.func65,Try.ntmps65
  go_wp2_with (first|((with_reducible refine gate_dst (N:=3) rfl ?_);refine Kd.R_lit k83 _ 83 ?hg (N:=3) ?hd (xs:=([]:List (S83))) (inner:=[]) (ok:=fun _=>True) (okp:=fun _=>True) ?hr ?hp (fun _ hk=>hk) trivial (Below.refl _ _) (Nat.le_refl _) (by simp) ?_;(case hd=>rfl);(case hg=>rfl);(case hr=>first|(go_simp;done)|(go_simp;rfl));(case hp=>exact (Reps.none _ _));intro v187 w3 ho4 hb hg_ hnew_;clear hg_ hnew_;(first|rw [← Ny186.out] at ho4|(simp only [Int.reduceToNat] at ho4;rw [← Ny186.out] at ho4));have HO188:=Aside0.mk (Kd.R_lower ho4 (below_size bH));replace HB:=Aside0.mk (below_step bH hb);clear hb ho4)|((with_reducible refine gate_builtin (b:=.append) (xs:=#[.tmp 3,.tmp 4]) rfl ?_);at_builtin;refine Kd.R_append_rows k83 (w0:=w) w.heap.size rfl (.tmp 3) (.tmp 4) 35 83 (.agg #[(.string ⟨#[]⟩),(.string ⟨#[]⟩)]) 32 rfl Try.underlying35 info83 rfl (by decide) (by omega) v187 y186 l0 _ _ _ (fun _=>True) (fun _=>False) rfl rfl ?aO ?aR (fun _ _ h=>h) (fun _ h=>h.elim) ?aF ?aB ?aS ?aL ?_;(case aR=>repeat (first|exact (Kd.C_below HR0.out HB.out)|(with_reducible refine Kd.C_alloc ?_ _)|(with_reducible refine Kd.C_drewN ?_ _)|(with_reducible refine Kd.C_drew ?_)));(case aB=>exact bH);(case aF=>exact (fun _ _=>trivial));(case aO=>exact (rS HO188));(case aS=>exact (below_size bH));(case aL=>have:=LMc2.out;omega);intro v190 w5 ho hb hg hat;rw [← Ny189.out] at ho;have HO191:=Aside0.mk ho;replace HB:=Aside0.mk hb;clear HO188;clear ho hb hg hat))
  go_ret
  exact ⟨_,fE,rS HO191,bH⟩
 ·rw [if_neg c2] at H
  exact absurd H (by simp)
def spec_l19With.f (a0_0:Int) (a0_1:Int) (a0_2:Int) (a0_3:Int) (a0_4:Bool) (l0_5:List (S95)) (l0_6:List Int) (a0_7:Int) (a0_8:Int) (a0_9:Int) (a0_10:Int) (l0_11:List Int) (l0_12:List (S83)) (a1:Int) (a2:Int) (l3:List Int) (l4:List Int):Option (Int×Int×Int×Int×Bool×(List (S95))×List Int×Int×Int×Int×Int×List Int×(List (S83))):=(spec_l18CopyKept.f l0_12).bind fun t194=>(some (a0_0,a0_1,a2,a1,a0_4,([]:List (S95)),l4,a0_0,a0_1,a1,a2,l3,t194))
def spec_l19With.T1:Bool×List (List Nat×List Nat):=(true,[([],[]),([0],[0]),([],[]),([],[]),([3],[3]),([4],[4]),([1,2,5],[1,2,5]),([],[]),([7,6,5,0,1,2,3,4,5,6,7],[6,7])])
def spec_l19With.B1:List Nat:=[0,1,0,0,8,24,63,0,255]
theorem spec_l19With.tab1:rtab .any (opsOf Try.f39 1)=spec_l19With.T1:=by kernel_rfl
theorem spec_l19With.bits1:waitsOk spec_l19With.T1.2 spec_l19With.B1=true:=by kernel_rfl
theorem spec_l19With.calls (a0_0:Int) (a0_1:Int) (a0_2:Int) (a0_3:Int) (a0_4:Bool) (A0_5:Option Addr) (c0_5:Nat) (l0_5:List (S95)) (A0_6:Option Addr) (c0_6:Nat) (l0_6:List Int) (a0_7:Int) (a0_8:Int) (a0_9:Int) (a0_10:Int) (A0_11:Option Addr) (c0_11:Nat) (l0_11:List Int) (A0_12:Option Addr) (c0_12:Nat) (l0_12:List (S83)) (a1:Int) (a2:Int) (P3_:Nat→Prop) (u9000_:Value) (l3:List Int) (P4_:Nat→Prop) (u9001_:Value) (l4:List Int) (r1:Int) (r2:Int) (r3:Int) (r4:Int) (r5:Bool) (r6:List (S95)) (r7:List Int) (r8:Int) (r9:Int) (r10:Int) (r11:Int) (r12:List Int) (r13:List (S83)) (w0 w:World) (hB:Below w0.heap.size w0 w) (hr0_5:∀ W_,Kept w W_ (fun k_=>P3_ k_∨P4_ k_)→Kd.C k95 W_ A0_5 l0_5.length l0_5) (hc0_5:l0_5.length≤c0_5) (hr0_6:∀ W_,Kept w W_ (fun k_=>P3_ k_∨P4_ k_)→Kd.C (Kd.int .i64) W_ A0_6 l0_6.length l0_6) (hc0_6:l0_6.length≤c0_6) (hr0_11:∀ W_,Kept w W_ (fun k_=>P3_ k_∨P4_ k_)→Kd.C (Kd.int .i64) W_ A0_11 l0_11.length l0_11) (hc0_11:l0_11.length≤c0_11) (hr0_12:∀ W_,Kept w W_ (fun k_=>P3_ k_∨P4_ k_)→Kd.C k83 W_ A0_12 l0_12.length l0_12) (hc0_12:l0_12.length≤c0_12) (ho3:Kd.R (Kd.int .i64) 3 w w0.heap.size P3_ u9000_ l3) (hp3_4:∀ k_,P3_ k_→¬ P4_ k_) (ho4:Kd.R (Kd.int .i64) 3 w w0.heap.size P4_ u9001_ l4) (hp4_3:∀ k_,P4_ k_→¬ P3_ k_) (h:spec_l19With.f a0_0 a0_1 a0_2 a0_3 a0_4 l0_5 l0_6 a0_7 a0_8 a0_9 a0_10 l0_11 l0_12 a1 a2 l3 l4=some (r1,r2,r3,r4,r5,r6,r7,r8,r9,r10,r11,r12,r13)):
  Calls Try.prog 39 #[.agg #[.int .i64 a0_0,.int .i64 a0_1,.int .i64 a0_2,.int .i64 a0_3,.bool a0_4,.slice A0_5 l0_5.length c0_5,.slice A0_6 l0_6.length c0_6,.int .i64 a0_7,.int .i64 a0_8,.int .i64 a0_9,.int .i64 a0_10,.slice A0_11 l0_11.length c0_11,.slice A0_12 l0_12.length c0_12],.int .i64 a1,.int .i64 a2,u9000_,u9001_] w fun e w'=>∃ v5_ v6_ v11_ v12_:Value,e=.returned (.agg #[.int .i64 r1,.int .i64 r2,.int .i64 r3,.int .i64 r4,.bool r5,v5_,v6_,.int .i64 r8,.int .i64 r9,.int .i64 r10,.int .i64 r11,v11_,v12_])∧Kd.R k95 95 w' w0.heap.size (fun k_=>((P3_ k_∨P4_ k_)∨w.heap.size≤k_)) v5_ r6∧Kd.R (Kd.int .i64) 3 w' w0.heap.size (fun k_=>((P3_ k_∨P4_ k_)∨w.heap.size≤k_)∧some k_≠(v11_:Value).ownBlock) v6_ r7∧Kd.R (Kd.int .i64) 3 w' w0.heap.size (fun k_=>((P3_ k_∨P4_ k_)∨w.heap.size≤k_)∧some k_≠(v6_:Value).ownBlock) v11_ r12∧Kd.R k83 83 w' w0.heap.size (fun k_=>((P3_ k_∨P4_ k_)∨w.heap.size≤k_)) v12_ r13∧Below w0.heap.size w0 w'∧Kept w w' (fun k_=>P3_ k_∨P4_ k_):=by
 have hu37:=Try.underlying37
 have hu32:=Try.underlying32
 have hu34:=Try.underlying34
 have HR0_5:=Aside0.mk hr0_5
 have HC0_5:=Aside0.mk hc0_5
 clear hr0_5 hc0_5
 have HR0_6:=Aside0.mk hr0_6
 have HC0_6:=Aside0.mk hc0_6
 clear hr0_6 hc0_6
 have HR0_11:=Aside0.mk hr0_11
 have HC0_11:=Aside0.mk hc0_11
 clear hr0_11 hc0_11
 have HR0_12:=Aside0.mk hr0_12
 have HC0_12:=Aside0.mk hc0_12
 clear hr0_12 hc0_12
 have HO3:=Aside0.mk (show Kd.R (Kd.int .i64) 3 w w0.heap.size (fun k_=>((P3_ k_∨P4_ k_)∨w.heap.size≤k_)∧some k_≠(u9001_:Value).ownBlock) u9000_ l3 from Kd.R_mono ho3 (fun k_ hk=>⟨(.inl (.inl hk)),fun e_=>hp3_4 k_ hk (ho4.1 k_ e_.symm)⟩))
 have HO4:=Aside0.mk (show Kd.R (Kd.int .i64) 3 w w0.heap.size (fun k_=>((P3_ k_∨P4_ k_)∨w.heap.size≤k_)∧some k_≠(u9000_:Value).ownBlock) u9001_ l4 from Kd.R_mono ho4 (fun k_ hk=>⟨(.inl (.inr hk)),fun e_=>hp4_3 k_ hk (ho3.1 k_ e_.symm)⟩))
 have HK:=Aside0.mk (Kept.refl w (fun k_=>P3_ k_∨P4_ k_))
 have HW0:=Aside0.mk hB.size
 have HB:=Aside0.mk hB
 clear hB
 have H:((spec_l18CopyKept.f l0_12).bind fun t194=>(some (a0_0,a0_1,a2,a1,a0_4,([]:List (S95)),l4,a0_0,a0_1,a1,a2,l3,t194)))=some (r1,r2,r3,r4,r5,r6,r7,r8,r9,r10,r11,r12,r13):=h
 clear h
 replace H:=Option.bind_eq_some_iff.mp H
 obtain ⟨t194,A60,H⟩:=H
 replace H:(some (a0_0,a0_1,a2,a1,a0_4,([]:List (S95)),l4,a0_0,a0_1,a1,a2,l3,t194))=some (r1,r2,r3,r4,r5,r6,r7,r8,r9,r10,r11,r12,r13):=H
 have A6:=Aside0.mk A60
 clear A60
 simp only [Option.some.injEq,Prod.mk.injEq] at H
 obtain ⟨rfl,rfl,rfl,rfl,rfl,rfl,rfl,rfl,rfl,rfl,rfl,rfl,rfl⟩:=H
 obtain ⟨Ao12,co12,eo12⟩:=Kd.R_slice HO4.out
 subst eo12
 go_enter Try.func39,Try.ntmps39
 try go_wp2_with (first|((with_reducible refine gate_dst (N:=5) rfl ?_);refine boxE 5 (#[.int .i64 a0_0,.int .i64 a0_1,.int .i64 a0_2,.int .i64 a0_3,.bool a0_4,.slice A0_5 l0_5.length c0_5,.slice A0_6 l0_6.length c0_6,.int .i64 a0_7,.int .i64 a0_8,.int .i64 a0_9,.int .i64 a0_10,.slice A0_11 l0_11.length c0_11,.slice A0_12 l0_12.length c0_12]) 37 ?_;intro gb192 hg w7 hbox hb;have n0_:=Aside0.mk (Kd.R_below (rS HO3) hb);have n1_:=Aside0.mk (Kd.R_below (rS HO4) hb);have n2_:=Aside0.mk (Kept.below (S:=(fun k_=>P3_ k_∨P4_ k_)) (by repeat (first|(with_reducible first|exact HK.out|apply Kept.alloc|apply Kept.drewN|apply Kept.drew)|exact HK.out)) hb);have n3_:=Aside0.mk (below_step bH hb);have n4_:=Aside0.mk hbox;have n5_:=Aside0.mk ((by rw [hg];exact (by first|exact HK.out.1|exact (show Kept w _ (fun k_=>P3_ k_∨P4_ k_) from by repeat (first|(with_reducible first|exact HK.out|apply Kept.alloc|apply Kept.drewN|apply Kept.drew)|exact HK.out)).1):w.heap.size≤gb192));have n6_:=(gwH (w:=w0) hg);clear HO3;clear HO4;clear HK;clear HB;have HO3:=n0_;have HO4:=n1_;have HK:=n2_;have HB:=n3_;have BK192:=n4_;have GW192:=n5_;have GE192:=n6_;clear n0_ n1_ n2_ n3_ n4_ n5_ n6_;clear hb hbox hg)|((with_reducible refine gate_dst (N:=10) rfl ?_);refine boxE 10 (#[.int .i64 0,.int .i64 0,.int .i64 0,.int .i64 0,.bool false,.slice none 0 0,.slice none 0 0,.int .i64 0,.int .i64 0,.int .i64 0,.int .i64 0,.slice none 0 0,.slice none 0 0]) 37 ?_;intro gb193 hg w8 hbox hb;have n0_:=Aside0.mk (Kd.R_below (rS HO3) hb);have n1_:=Aside0.mk (Kd.R_below (rS HO4) hb);have n2_:=Aside0.mk (bkb BK192 hb);have n3_:=Aside0.mk (Kept.below (S:=(fun k_=>P3_ k_∨P4_ k_)) (by repeat (first|(with_reducible first|exact HK.out|apply Kept.alloc|apply Kept.drewN|apply Kept.drew|refine Kept.setCell ?_ (.inr GW192.out) _)|exact HK.out)) hb);have n4_:=Aside0.mk (below_step bG hb);have n5_:=Aside0.mk hbox;have n6_:=Aside0.mk ((by rw [hg];exact (by first|exact HK.out.1|exact (show Kept w _ (fun k_=>P3_ k_∨P4_ k_) from by repeat (first|(with_reducible first|exact HK.out|apply Kept.alloc|apply Kept.drewN|apply Kept.drew|refine Kept.setCell ?_ (.inr GW192.out) _)|exact HK.out)).1):w.heap.size≤gb193));have n7_:=(gwG (w:=w0) hg);have n8_:=(nbl BK192 hg);have n9_:=(nbg BK192 hg);clear HO3;clear HO4;clear BK192;clear HK;clear HB;have HO3:=n0_;have HO4:=n1_;have BK192:=n2_;have HK:=n3_;have HB:=n4_;have BK193:=n5_;have GW193:=n6_;have GE193:=n7_;have NB192_193:=n8_;have NB193_192:=n9_;clear n0_ n1_ n2_ n3_ n4_ n5_ n6_ n7_ n8_ n9_;clear hb hbox hg))
 replace HO3:=Aside0.mk (Kd.R_drew HO3.out);replace HO4:=Aside0.mk (Kd.R_drew HO4.out);replace BK192:=Aside0.mk (blk_drew BK192.out);replace BK193:=Aside0.mk (blk_drew BK193.out);replace HK:=Aside0.mk (Kept.drew HK.out);replace HB:=Aside0.mk (below_drew1 HB.out)
 refine start_ (n:=9) (S:=fun w'=>w'.cell? ⟨gb192,0,none⟩=some (.int .i64 a0_0)∧w'.cell? ⟨gb192,1,none⟩=some (.int .i64 a0_1)∧w'.cell? ⟨gb192,2,none⟩=some (.int .i64 a0_2)∧w'.cell? ⟨gb192,3,none⟩=some (.int .i64 a0_3)∧w'.cell? ⟨gb192,4,none⟩=some (.bool a0_4)∧w'.cell? ⟨gb192,5,none⟩=some (.slice A0_5 l0_5.length c0_5)∧w'.cell? ⟨gb192,6,none⟩=some (.slice A0_6 l0_6.length c0_6)∧w'.cell? ⟨gb192,7,none⟩=some (.int .i64 a0_7)∧w'.cell? ⟨gb192,8,none⟩=some (.int .i64 a0_8)∧w'.cell? ⟨gb192,9,none⟩=some (.int .i64 a0_9)∧w'.cell? ⟨gb192,10,none⟩=some (.int .i64 a0_10)∧w'.cell? ⟨gb192,11,none⟩=some (.slice A0_11 l0_11.length c0_11)∧w'.cell? ⟨gb192,12,none⟩=some (.slice A0_12 l0_12.length c0_12)) (ds:=[]) #[false,false,false,false,false,false,false,false,false] (by kernel_rfl) rfl rfl (blk13 BK192) (fun hHeld=>?_);refine with_tabW spec_l19With.tab1 spec_l19With.bits1 (fun HT_ HW_=>?_)
 generalize w8.drew=w9 at HO3 HO4 BK192 BK193 HK HB hHeld ⊢
 refine pure_ (i:=0) (N:=some 12) (v:=?_) (a':=?_) #[true,false,false,false,false,false,false,false,false] rfl rfl (any_of HT_.out (by kernel_rfl)) (fun _ _ _ h=>h) (Or.inl ⟨by rfl,?_⟩) ?_ ?_
 rotate_left
 ·intro w'
  go_simp
  with_reducible rfl
 rotate_left
 ·simp only [Act.put,sA,sZ,sC,i64_w,i32_w]
  rfl
 refine pure_ (i:=2) (N:=some 14) (v:=?_) (a':=?_) #[true,false,true,false,false,false,false,false,false] rfl rfl (any_of HT_.out (by kernel_rfl)) (fun _ _ _ h=>h) (Or.inl ⟨by rfl,?_⟩) ?_ ?_
 rotate_left
 ·intro w'
  go_simp
  with_reducible rfl
 rotate_left
 ·simp only [Act.put,sA,sZ,sC,i64_w,i32_w]
  rfl
 refine pure_ (i:=3) (N:=some 15) (v:=?_) (a':=?_) #[true,false,true,true,false,false,false,false,false] rfl rfl (any_of HT_.out (by kernel_rfl)) (fun _ _ _ h=>h) (Or.inl ⟨by rfl,?_⟩) ?_ ?_
 rotate_left
 ·intro w'
  go_simp
  with_reducible rfl
 rotate_left
 ·simp only [Act.put,sA,sZ,sC,i64_w,i32_w]
  rfl
 refine take_ (i:=1) (N:=some 13) (v:=?_) (a':=?_) #[true,true,true,true,false,false,false,false,false] rfl rfl (take_ofW HT_.out HW_.out (by kernel_rfl)) (fun _ _ _ h=>h) (Or.inl ⟨by rfl,?_⟩) hHeld ?_ ?_
 rotate_left
 ·rintro w' ⟨s0,s1,s2,s3,s4,s5,s6,s7,s8,s9,s10,s11,s12⟩
  go_simp
  with_reducible rfl
 rotate_left
 ·simp only [Act.put,sA,sZ,sC,i64_w,i32_w]
  rfl
 refine take_ (i:=4) (N:=some 16) (v:=?_) (a':=?_) #[true,true,true,true,true,false,false,false,false] rfl rfl (take_ofW HT_.out HW_.out (by kernel_rfl)) (fun _ _ _ h=>h) (Or.inl ⟨by rfl,?_⟩) hHeld ?_ ?_
 rotate_left
 ·rintro w' ⟨s0,s1,s2,s3,s4,s5,s6,s7,s8,s9,s10,s11,s12⟩
  go_simp
  with_reducible rfl
 rotate_left
 ·simp only [Act.put,sA,sZ,sC,i64_w,i32_w]
  rfl
 refine join_ (σ:=Value×Nat) 1 #[true,true,true,true,true,true,true,true,false] (fun s_=>[(17,s_.1),(11,.pointer (some ⟨s_.2,0,none⟩)),(18,.agg #[.int .i64 a0_0,.int .i64 a0_1,.int .i64 a0_2,.int .i64 a0_3,.bool a0_4,.slice none 0 0,.slice Ao12 l4.length co12,.int .i64 0,.int .i64 0,.int .i64 0,.int .i64 0,.slice none 0 0,s_.1])]) (fun s_ w'=>(w'.cell? ⟨gb192,0,none⟩=some (.int .i64 a0_0)∧w'.cell? ⟨gb192,1,none⟩=some (.int .i64 a0_1)∧w'.cell? ⟨gb192,2,none⟩=some (.int .i64 a0_2)∧w'.cell? ⟨gb192,3,none⟩=some (.int .i64 a0_3)∧w'.cell? ⟨gb192,4,none⟩=some (.bool a0_4)∧w'.cell? ⟨gb192,5,none⟩=some (.slice A0_5 l0_5.length c0_5)∧w'.cell? ⟨gb192,6,none⟩=some (.slice A0_6 l0_6.length c0_6)∧w'.cell? ⟨gb192,7,none⟩=some (.int .i64 a0_7)∧w'.cell? ⟨gb192,8,none⟩=some (.int .i64 a0_8)∧w'.cell? ⟨gb192,9,none⟩=some (.int .i64 a0_9)∧w'.cell? ⟨gb192,10,none⟩=some (.int .i64 a0_10)∧w'.cell? ⟨gb192,11,none⟩=some (.slice A0_11 l0_11.length c0_11)∧w'.cell? ⟨gb192,12,none⟩=some (.slice A0_12 l0_12.length c0_12))∧(Kd.R k83 83 w' w0.heap.size (fun k_=>((P3_ k_∨P4_ k_)∨w.heap.size≤k_)) s_.1 t194)∧(Kd.R (Kd.int .i64) 3 w' w0.heap.size (fun k_=>((P3_ k_∨P4_ k_)∨w.heap.size≤k_)∧some k_≠(.slice Ao12 l4.length co12:Value).ownBlock) u9000_ l3)∧(Kd.R (Kd.int .i64) 3 w' w0.heap.size (fun k_=>((P3_ k_∨P4_ k_)∨w.heap.size≤k_)∧some k_≠(u9000_:Value).ownBlock) (.slice Ao12 l4.length co12) l4)∧(w'.heap[gb192]?=some (.cells #[.int .i64 a0_0,.int .i64 a0_1,.int .i64 a0_2,.int .i64 a0_3,.bool a0_4,.slice A0_5 l0_5.length c0_5,.slice A0_6 l0_6.length c0_6,.int .i64 a0_7,.int .i64 a0_8,.int .i64 a0_9,.int .i64 a0_10,.slice A0_11 l0_11.length c0_11,.slice A0_12 l0_12.length c0_12] 37 (0,0)))∧(w'.heap[gb193]?=some (.cells #[.int .i64 0,.int .i64 0,.int .i64 0,.int .i64 0,.bool false,.slice none 0 0,.slice none 0 0,.int .i64 0,.int .i64 0,.int .i64 0,.int .i64 0,.slice none 0 0,.slice none 0 0] 37 (0,0)))∧(w'.heap[s_.2]?=some (.cells #[.int .i64 0,.int .i64 0,.int .i64 0,.int .i64 0,.bool false,.slice none 0 0,.slice none 0 0,.int .i64 0,.int .i64 0,.int .i64 0,.int .i64 0,.slice none 0 0,.slice none 0 0] 37 (0,0)))∧(w.heap.size≤s_.2)∧(w0.heap.size≤s_.2)∧(gb192≠s_.2)∧(s_.2≠gb192)∧(gb193≠s_.2)∧(s_.2≠gb193)∧(Kept w w' (fun k_=>P3_ k_∨P4_ k_))∧(Below w0.heap.size w0 w')) ?_ ?_
 rotate_left
 ·intro hCont
  refine two_ (i:=5) (j:=7) (Ni:=some 17) (Nj:=some 11) #[true,true,true,true,true,true,false,false,false] #[true,true,true,true,true,false,false,true,false] rfl rfl rfl rfl (two_of HT_.out (by kernel_rfl)) (by decide) (by decide) (fun K hK=>?_) (fun K hK=>?_)
  ·skip
   refine goes_ Try.func65 (by kernel_rfl) rfl #[.slice A0_12 l0_12.length c0_12] (by rfl) rfl rfl (by (try simp only [List.map_toArray,List.map_cons,List.map_nil]);first|done|rfl|(simp only [List.length_drop,List.length_take];rfl)) ?_
   with_reducible refine (spec_l18CopyKept.calls _ _ l0_12 t194 _ ?side1 ?side2 A6.out).mono ?_
   (case side1=>exact Kd.C_kept_now HR0_12.out (by repeat (first|(with_reducible first|exact HK.out|apply Kept.alloc|apply Kept.drewN|apply Kept.drew|refine Kept.setCell ?_ (.inr GW192.out) _|refine Kept.setCell ?_ (.inr GW193.out) _)|exact HK.out)))
   (case side2=>exact HC0_12.out)
   rintro e w10 ⟨v195,rfl,ho0,hb⟩
   refine ⟨_,rfl,?_⟩
   replace HO3:=Aside0.mk (Kd.R_below (rS HO3) hb);replace HO4:=Aside0.mk (Kd.R_below (rS HO4) hb);have HO196:=Aside0.mk (Kd.R_lower (Kd.R_newM (M:=fun k_=>((P3_ k_∨P4_ k_)∨w.heap.size≤k_)) ho0 (by first|exact HK.out.1|exact (show Kept w _ (fun k_=>P3_ k_∨P4_ k_) from by repeat (first|(with_reducible first|exact HK.out|apply Kept.alloc|apply Kept.drewN|apply Kept.drew|refine Kept.setCell ?_ (.inr GW192.out) _|refine Kept.setCell ?_ (.inr GW193.out) _)|exact HK.out)).1) (fun k_ h_=>.inr h_)) (below_size bG));replace BK192:=Aside0.mk (bkb BK192 hb);replace BK193:=Aside0.mk (bkb BK193 hb);replace HK:=Aside0.mk (Kept.below (S:=(fun k_=>P3_ k_∨P4_ k_)) (by repeat (first|(with_reducible first|exact HK.out|apply Kept.alloc|apply Kept.drewN|apply Kept.drew|refine Kept.setCell ?_ (.inr GW192.out) _|refine Kept.setCell ?_ (.inr GW193.out) _)|exact HK.out)) hb);replace HB:=Aside0.mk (below_step bG hb)
   (try clear hb)
   (try clear hb2)
   (try clear hk)
   (try clear hi)
   (try clear ho0)
   obtain ⟨Ao11,co11,eo11⟩:=Kd.R_slice HO196.out
   (first|subst eo11|(injection eo11 with f1_ f2_ f3_;have f4_:=f1_.symm;have f5_:=f3_.symm;clear f1_ f2_ f3_;subst f4_;subst f5_))
   obtain ⟨Ao12,co12,eo12⟩:=Kd.R_slice HO4.out
   (first|subst eo12|(injection eo12 with f1_ f2_ f3_;have f4_:=f1_.symm;have f5_:=f3_.symm;clear f1_ f2_ f3_;subst f4_;subst f5_))
   refine hK.out _ _ (blk13 BK192) (fun hHeld=>?_)
   clear hK K
   refine norm_ (a':=?_) ?_ ?_
   rotate_left
   ·show Act.put _ (some 17) _=_
    simp only [Act.put,sA,sZ,sC,i64_w,i32_w]
    rfl
   refine pure_ (i:=6) (N:=some 18) (v:=?_) (a':=?_) #[true,true,true,true,true,true,true,false,false] rfl rfl (any_of HT_.out (by kernel_rfl)) (fun _ _ _ h=>h) (Or.inl ⟨by rfl,?_⟩) ?_ ?_
   rotate_left
   ·intro w'
    go_simp
    with_reducible rfl
   rotate_left
   ·simp only [Act.put,sA,sZ,sC,i64_w,i32_w]
    rfl
   refine one_ (i:=7) (N:=some 11) #[true,true,true,true,true,true,true,true,false] rfl rfl (one_of HT_.out (by kernel_rfl)) (by decide) (fun K hK=>?_)
   refine box_step ?hg (N:=11) ?hd (cs:=#[.int .i64 0,.int .i64 0,.int .i64 0,.int .i64 0,.bool false,.slice none 0 0,.slice none 0 0,.int .i64 0,.int .i64 0,.int .i64 0,.int .i64 0,.slice none 0 0,.slice none 0 0]) (t:=37) ?hr ?_;(case hd=>rfl);(case hg=>rfl);(case hr=>first|(go_simp;done)|(go_simp;rfl))
   intro gb197 hg w13 hbox hb
   have n0_:=Aside0.mk (Kd.R_below (rS HO3) hb)
   have n1_:=Aside0.mk (Kd.R_below (rS HO4) hb)
   have n2_:=Aside0.mk (Kd.R_below (rS HO196) hb)
   have n3_:=Aside0.mk (bkb BK192 hb)
   have n4_:=Aside0.mk (bkb BK193 hb)
   have n5_:=Aside0.mk (Kept.below (S:=(fun k_=>P3_ k_∨P4_ k_)) (by repeat (first|(with_reducible first|exact HK.out|apply Kept.alloc|apply Kept.drewN|apply Kept.drew|refine Kept.setCell ?_ (.inr GW192.out) _|refine Kept.setCell ?_ (.inr GW193.out) _)|exact HK.out)) hb)
   have n6_:=Aside0.mk (below_step bG hb)
   have n7_:=Aside0.mk hbox
   have n8_:=Aside0.mk ((by rw [hg];exact (by first|exact HK.out.1|exact (show Kept w _ (fun k_=>P3_ k_∨P4_ k_) from by repeat (first|(with_reducible first|exact HK.out|apply Kept.alloc|apply Kept.drewN|apply Kept.drew|refine Kept.setCell ?_ (.inr GW192.out) _|refine Kept.setCell ?_ (.inr GW193.out) _)|exact HK.out)).1):w.heap.size≤gb197))
   have n9_:=(gwG (w:=w0) hg)
   have n10_:=(nbl BK192 hg)
   have n11_:=(nbg BK192 hg)
   have n12_:=(nbl BK193 hg)
   have n13_:=(nbg BK193 hg)
   clear HO3
   clear HO4
   clear HO196
   clear BK192
   clear BK193
   clear HK
   clear HB
   have HO3:=n0_
   have HO4:=n1_
   have HO196:=n2_
   have BK192:=n3_
   have BK193:=n4_
   have HK:=n5_
   have HB:=n6_
   have BK197:=n7_
   have GW197:=n8_
   have GE197:=n9_
   have NB192_197:=n10_
   have NB197_192:=n11_
   have NB193_197:=n12_
   have NB197_193:=n13_
   clear n0_ n1_ n2_ n3_ n4_ n5_ n6_ n7_ n8_ n9_ n10_ n11_ n12_ n13_
   clear hb hbox hg
   refine hK.out _ _ (blk13 BK192) (fun hHeld=>?_)
   clear hK K
   refine norm_ (a':=?_) ?_ ?_
   rotate_left
   ·show Act.put _ (some 11) _=_
    simp only [Act.put,sA,sZ,sC,i64_w,i32_w]
    rfl
   exact norm_ (by simp only [putAll,Act.put,sA,sZ,sC]) (hCont (.slice Ao11 t194.length co11,gb197) _ ⟨hHeld,(by (with_reducible repeat (first|apply Kd.R_alloc|apply Kd.R_drewN|apply Kd.R_drew));exact Kd.R_mono HO196.out (fun _ hk=>hk.1)),(rS HO3),(rS HO4),(bk BK192),(bk BK193),(bk BK197),GW197.out,GE197.out,NB192_197.out,NB197_192.out,NB193_197.out,NB197_193.out,(by repeat (first|(with_reducible first|exact HK.out|apply Kept.alloc|apply Kept.drewN|apply Kept.drew|refine Kept.setCell ?_ (.inr GW192.out) _|refine Kept.setCell ?_ (.inr GW193.out) _|refine Kept.setCell ?_ (.inr GW197.out) _)|exact HK.out)),bG⟩)
  ·skip
   refine box_step ?hg (N:=11) ?hd (cs:=#[.int .i64 0,.int .i64 0,.int .i64 0,.int .i64 0,.bool false,.slice none 0 0,.slice none 0 0,.int .i64 0,.int .i64 0,.int .i64 0,.int .i64 0,.slice none 0 0,.slice none 0 0]) (t:=37) ?hr ?_;(case hd=>rfl);(case hg=>rfl);(case hr=>first|(go_simp;done)|(go_simp;rfl))
   intro gb197 hg w10 hbox hb
   have n0_:=Aside0.mk (Kd.R_below (rS HO3) hb)
   have n1_:=Aside0.mk (Kd.R_below (rS HO4) hb)
   have n2_:=Aside0.mk (bkb BK192 hb)
   have n3_:=Aside0.mk (bkb BK193 hb)
   have n4_:=Aside0.mk (Kept.below (S:=(fun k_=>P3_ k_∨P4_ k_)) (by repeat (first|(with_reducible first|exact HK.out|apply Kept.alloc|apply Kept.drewN|apply Kept.drew|refine Kept.setCell ?_ (.inr GW192.out) _|refine Kept.setCell ?_ (.inr GW193.out) _)|exact HK.out)) hb)
   have n5_:=Aside0.mk (below_step bG hb)
   have n6_:=Aside0.mk hbox
   have n7_:=Aside0.mk ((by rw [hg];exact (by first|exact HK.out.1|exact (show Kept w _ (fun k_=>P3_ k_∨P4_ k_) from by repeat (first|(with_reducible first|exact HK.out|apply Kept.alloc|apply Kept.drewN|apply Kept.drew|refine Kept.setCell ?_ (.inr GW192.out) _|refine Kept.setCell ?_ (.inr GW193.out) _)|exact HK.out)).1):w.heap.size≤gb197))
   have n8_:=(gwG (w:=w0) hg)
   have n9_:=(nbl BK192 hg)
   have n10_:=(nbg BK192 hg)
   have n11_:=(nbl BK193 hg)
   have n12_:=(nbg BK193 hg)
   clear HO3
   clear HO4
   clear BK192
   clear BK193
   clear HK
   clear HB
   have HO3:=n0_
   have HO4:=n1_
   have BK192:=n2_
   have BK193:=n3_
   have HK:=n4_
   have HB:=n5_
   have BK197:=n6_
   have GW197:=n7_
   have GE197:=n8_
   have NB192_197:=n9_
   have NB197_192:=n10_
   have NB193_197:=n11_
   have NB197_193:=n12_
   clear n0_ n1_ n2_ n3_ n4_ n5_ n6_ n7_ n8_ n9_ n10_ n11_ n12_
   clear hb hbox hg
   refine hK.out _ _ (blk13 BK192) (fun hHeld=>?_)
   clear hK K
   refine norm_ (a':=?_) ?_ ?_
   rotate_left
   ·show Act.put _ (some 11) _=_
    simp only [Act.put,sA,sZ,sC,i64_w,i32_w]
    rfl
   refine one_ (i:=5) (N:=some 17) #[true,true,true,true,true,true,false,true,false] rfl rfl (one_of HT_.out (by kernel_rfl)) (by decide) (fun K hK=>?_)
   refine goes_ Try.func65 (by kernel_rfl) rfl #[.slice A0_12 l0_12.length c0_12] (by rfl) rfl rfl (by (try simp only [List.map_toArray,List.map_cons,List.map_nil]);first|done|rfl|(simp only [List.length_drop,List.length_take];rfl)) ?_
   with_reducible refine (spec_l18CopyKept.calls _ _ l0_12 t194 _ ?side1 ?side2 A6.out).mono ?_
   (case side1=>exact Kd.C_kept_now HR0_12.out (by repeat (first|(with_reducible first|exact HK.out|apply Kept.alloc|apply Kept.drewN|apply Kept.drew|refine Kept.setCell ?_ (.inr GW192.out) _|refine Kept.setCell ?_ (.inr GW193.out) _|refine Kept.setCell ?_ (.inr GW197.out) _)|exact HK.out)))
   (case side2=>exact HC0_12.out)
   rintro e w11 ⟨v195,rfl,ho0,hb⟩
   refine ⟨_,rfl,?_⟩
   replace HO3:=Aside0.mk (Kd.R_below (rS HO3) hb);replace HO4:=Aside0.mk (Kd.R_below (rS HO4) hb);have HO196:=Aside0.mk (Kd.R_lower (Kd.R_newM (M:=fun k_=>((P3_ k_∨P4_ k_)∨w.heap.size≤k_)) ho0 (by first|exact HK.out.1|exact (show Kept w _ (fun k_=>P3_ k_∨P4_ k_) from by repeat (first|(with_reducible first|exact HK.out|apply Kept.alloc|apply Kept.drewN|apply Kept.drew|refine Kept.setCell ?_ (.inr GW192.out) _|refine Kept.setCell ?_ (.inr GW193.out) _|refine Kept.setCell ?_ (.inr GW197.out) _)|exact HK.out)).1) (fun k_ h_=>.inr h_)) (below_size bG));replace BK192:=Aside0.mk (bkb BK192 hb);replace BK193:=Aside0.mk (bkb BK193 hb);replace BK197:=Aside0.mk (bkb BK197 hb);replace HK:=Aside0.mk (Kept.below (S:=(fun k_=>P3_ k_∨P4_ k_)) (by repeat (first|(with_reducible first|exact HK.out|apply Kept.alloc|apply Kept.drewN|apply Kept.drew|refine Kept.setCell ?_ (.inr GW192.out) _|refine Kept.setCell ?_ (.inr GW193.out) _|refine Kept.setCell ?_ (.inr GW197.out) _)|exact HK.out)) hb);replace HB:=Aside0.mk (below_step bG hb)
   (try clear hb)
   (try clear hb2)
   (try clear hk)
   (try clear hi)
   (try clear ho0)
   obtain ⟨Ao12,co12,eo12⟩:=Kd.R_slice HO196.out
   (first|subst eo12|(injection eo12 with f1_ f2_ f3_;have f4_:=f1_.symm;have f5_:=f3_.symm;clear f1_ f2_ f3_;subst f4_;subst f5_))
   obtain ⟨Ao13,co13,eo13⟩:=Kd.R_slice HO4.out
   (first|subst eo13|(injection eo13 with f1_ f2_ f3_;have f4_:=f1_.symm;have f5_:=f3_.symm;clear f1_ f2_ f3_;subst f4_;subst f5_))
   refine hK.out _ _ (blk13 BK192) (fun hHeld=>?_)
   clear hK K
   refine norm_ (a':=?_) ?_ ?_
   rotate_left
   ·show Act.put _ (some 17) _=_
    simp only [Act.put,sA,sZ,sC,i64_w,i32_w]
    rfl
   refine pure_ (i:=6) (N:=some 18) (v:=?_) (a':=?_) #[true,true,true,true,true,true,true,true,false] rfl rfl (any_of HT_.out (by kernel_rfl)) (fun _ _ _ h=>h) (Or.inl ⟨by rfl,?_⟩) ?_ ?_
   rotate_left
   ·intro w'
    go_simp
    with_reducible rfl
   rotate_left
   ·simp only [Act.put,sA,sZ,sC,i64_w,i32_w]
    rfl
   exact norm_ (by simp only [putAll,Act.put,sA,sZ,sC]) (hCont (.slice Ao12 t194.length co12,gb197) _ ⟨hHeld,(by (with_reducible repeat (first|apply Kd.R_alloc|apply Kd.R_drewN|apply Kd.R_drew));exact Kd.R_mono HO196.out (fun _ hk=>hk.1)),(rS HO3),(rS HO4),(bk BK192),(bk BK193),(bk BK197),GW197.out,GE197.out,NB192_197.out,NB197_192.out,NB193_197.out,NB197_193.out,(by repeat (first|(with_reducible first|exact HK.out|apply Kept.alloc|apply Kept.drewN|apply Kept.drew|refine Kept.setCell ?_ (.inr GW192.out) _|refine Kept.setCell ?_ (.inr GW193.out) _|refine Kept.setCell ?_ (.inr GW197.out) _)|exact HK.out)),bG⟩)
 rintro ⟨v195,gb197⟩ w14 ⟨hS_,h0_,h1_,h2_,h3_,h4_,h5_,h6_,h7_,h8_,h9_,h10_,h11_,h12_,h13_⟩
 have n0_:Aside0 (Kd.R k83 83 w14 w0.heap.size (fun k_=>((P3_ k_∨P4_ k_)∨w.heap.size≤k_)) v195 t194):=⟨h0_⟩
 have n1_:Aside0 (Kd.R (Kd.int .i64) 3 w14 w0.heap.size (fun k_=>((P3_ k_∨P4_ k_)∨w.heap.size≤k_)∧some k_≠(.slice Ao12 l4.length co12:Value).ownBlock) u9000_ l3):=⟨h1_⟩
 have n2_:Aside0 (Kd.R (Kd.int .i64) 3 w14 w0.heap.size (fun k_=>((P3_ k_∨P4_ k_)∨w.heap.size≤k_)∧some k_≠(u9000_:Value).ownBlock) (.slice Ao12 l4.length co12) l4):=⟨h2_⟩
 have n3_:Aside0 (w14.heap[gb192]?=some (.cells #[.int .i64 a0_0,.int .i64 a0_1,.int .i64 a0_2,.int .i64 a0_3,.bool a0_4,.slice A0_5 l0_5.length c0_5,.slice A0_6 l0_6.length c0_6,.int .i64 a0_7,.int .i64 a0_8,.int .i64 a0_9,.int .i64 a0_10,.slice A0_11 l0_11.length c0_11,.slice A0_12 l0_12.length c0_12] 37 (0,0))):=⟨h3_⟩
 have n4_:Aside0 (w14.heap[gb193]?=some (.cells #[.int .i64 0,.int .i64 0,.int .i64 0,.int .i64 0,.bool false,.slice none 0 0,.slice none 0 0,.int .i64 0,.int .i64 0,.int .i64 0,.int .i64 0,.slice none 0 0,.slice none 0 0] 37 (0,0))):=⟨h4_⟩
 have n5_:Aside0 (w14.heap[gb197]?=some (.cells #[.int .i64 0,.int .i64 0,.int .i64 0,.int .i64 0,.bool false,.slice none 0 0,.slice none 0 0,.int .i64 0,.int .i64 0,.int .i64 0,.int .i64 0,.slice none 0 0,.slice none 0 0] 37 (0,0))):=⟨h5_⟩
 have n6_:Aside0 (w.heap.size≤gb197):=⟨h6_⟩
 have n7_:Aside0 (w0.heap.size≤gb197):=⟨h7_⟩
 have n8_:Aside0 (gb192≠gb197):=⟨h8_⟩
 have n9_:Aside0 (gb197≠gb192):=⟨h9_⟩
 have n10_:Aside0 (gb193≠gb197):=⟨h10_⟩
 have n11_:Aside0 (gb197≠gb193):=⟨h11_⟩
 have n12_:Aside0 (Kept w w14 (fun k_=>P3_ k_∨P4_ k_)):=⟨h12_⟩
 have n13_:Aside0 (Below w0.heap.size w0 w14):=⟨h13_⟩
 clear HO3
 clear HO4
 clear BK192
 clear BK193
 clear HK
 clear HB
 clear h0_ h1_ h2_ h3_ h4_ h5_ h6_ h7_ h8_ h9_ h10_ h11_ h12_ h13_
 have HO196:=n0_
 have HO3:=n1_
 have HO4:=n2_
 have BK192:=n3_
 have BK193:=n4_
 have BK197:=n5_
 have GW197:=n6_
 have GE197:=n7_
 have NB192_197:=n8_
 have NB197_192:=n9_
 have NB193_197:=n10_
 have NB197_193:=n11_
 have HK:=n12_
 have HB:=n13_
 clear n0_ n1_ n2_ n3_ n4_ n5_ n6_ n7_ n8_ n9_ n10_ n11_ n12_ n13_
 have hHeld:w14.cell? ⟨gb192,0,none⟩=some (.int .i64 a0_0)∧w14.cell? ⟨gb192,1,none⟩=some (.int .i64 a0_1)∧w14.cell? ⟨gb192,2,none⟩=some (.int .i64 a0_2)∧w14.cell? ⟨gb192,3,none⟩=some (.int .i64 a0_3)∧w14.cell? ⟨gb192,4,none⟩=some (.bool a0_4)∧w14.cell? ⟨gb192,5,none⟩=some (.slice A0_5 l0_5.length c0_5)∧w14.cell? ⟨gb192,6,none⟩=some (.slice A0_6 l0_6.length c0_6)∧w14.cell? ⟨gb192,7,none⟩=some (.int .i64 a0_7)∧w14.cell? ⟨gb192,8,none⟩=some (.int .i64 a0_8)∧w14.cell? ⟨gb192,9,none⟩=some (.int .i64 a0_9)∧w14.cell? ⟨gb192,10,none⟩=some (.int .i64 a0_10)∧w14.cell? ⟨gb192,11,none⟩=some (.slice A0_11 l0_11.length c0_11)∧w14.cell? ⟨gb192,12,none⟩=some (.slice A0_12 l0_12.length c0_12):=hS_
 obtain ⟨Ao15,co15,eo15⟩:=Kd.R_slice HO196.out
 (first|subst eo15|(injection eo15 with f1_ f2_ f3_;have f4_:=f1_.symm;have f5_:=f3_.symm;clear f1_ f2_ f3_;subst f4_;subst f5_))
 refine norm_ (a':=?_) ?_ ?_
 rotate_left
 ·simp only [putAll,Act.put,sA,sZ,sC]
  rfl
 refine one_ (i:=8) (N:=none) #[true,true,true,true,true,true,true,true,true] rfl rfl (one_of HT_.out (by kernel_rfl)) (by decide) (fun K hK=>?_)
 have hs16:w14.cell? ⟨gb197,0,none⟩=some (.int .i64 0):=(blk_cell BK197.out 0).trans rfl
 have hfs16:=blk_frozen BK197.out 0
 have hns16_0:=NB192_197.out
 have hns16_1:=NB193_197.out
 have hms16_0:=NB197_192.out
 have hms16_1:=NB197_193.out
 have hs17:w14.cell? ⟨gb197,1,none⟩=some (.int .i64 0):=(blk_cell BK197.out 1).trans rfl
 have hfs17:=blk_frozen BK197.out 1
 have hns17_0:=NB192_197.out
 have hns17_1:=NB193_197.out
 have hms17_0:=NB197_192.out
 have hms17_1:=NB197_193.out
 have hs18:w14.cell? ⟨gb197,2,none⟩=some (.int .i64 0):=(blk_cell BK197.out 2).trans rfl
 have hfs18:=blk_frozen BK197.out 2
 have hns18_0:=NB192_197.out
 have hns18_1:=NB193_197.out
 have hms18_0:=NB197_192.out
 have hms18_1:=NB197_193.out
 have hs19:w14.cell? ⟨gb197,3,none⟩=some (.int .i64 0):=(blk_cell BK197.out 3).trans rfl
 have hfs19:=blk_frozen BK197.out 3
 have hns19_0:=NB192_197.out
 have hns19_1:=NB193_197.out
 have hms19_0:=NB197_192.out
 have hms19_1:=NB197_193.out
 have hs20:w14.cell? ⟨gb197,4,none⟩=some (.bool false):=(blk_cell BK197.out 4).trans rfl
 have hfs20:=blk_frozen BK197.out 4
 have hns20_0:=NB192_197.out
 have hns20_1:=NB193_197.out
 have hms20_0:=NB197_192.out
 have hms20_1:=NB197_193.out
 have hs21:w14.cell? ⟨gb197,5,none⟩=some (.slice none 0 0):=(blk_cell BK197.out 5).trans rfl
 have hfs21:=blk_frozen BK197.out 5
 have hns21_0:=NB192_197.out
 have hns21_1:=NB193_197.out
 have hms21_0:=NB197_192.out
 have hms21_1:=NB197_193.out
 have hs22:w14.cell? ⟨gb197,6,none⟩=some (.slice none 0 0):=(blk_cell BK197.out 6).trans rfl
 have hfs22:=blk_frozen BK197.out 6
 have hns22_0:=NB192_197.out
 have hns22_1:=NB193_197.out
 have hms22_0:=NB197_192.out
 have hms22_1:=NB197_193.out
 have hs23:w14.cell? ⟨gb197,7,none⟩=some (.int .i64 0):=(blk_cell BK197.out 7).trans rfl
 have hfs23:=blk_frozen BK197.out 7
 have hns23_0:=NB192_197.out
 have hns23_1:=NB193_197.out
 have hms23_0:=NB197_192.out
 have hms23_1:=NB197_193.out
 have hs24:w14.cell? ⟨gb197,8,none⟩=some (.int .i64 0):=(blk_cell BK197.out 8).trans rfl
 have hfs24:=blk_frozen BK197.out 8
 have hns24_0:=NB192_197.out
 have hns24_1:=NB193_197.out
 have hms24_0:=NB197_192.out
 have hms24_1:=NB197_193.out
 have hs25:w14.cell? ⟨gb197,9,none⟩=some (.int .i64 0):=(blk_cell BK197.out 9).trans rfl
 have hfs25:=blk_frozen BK197.out 9
 have hns25_0:=NB192_197.out
 have hns25_1:=NB193_197.out
 have hms25_0:=NB197_192.out
 have hms25_1:=NB197_193.out
 have hs26:w14.cell? ⟨gb197,10,none⟩=some (.int .i64 0):=(blk_cell BK197.out 10).trans rfl
 have hfs26:=blk_frozen BK197.out 10
 have hns26_0:=NB192_197.out
 have hns26_1:=NB193_197.out
 have hms26_0:=NB197_192.out
 have hms26_1:=NB197_193.out
 have hs27:w14.cell? ⟨gb197,11,none⟩=some (.slice none 0 0):=(blk_cell BK197.out 11).trans rfl
 have hfs27:=blk_frozen BK197.out 11
 have hns27_0:=NB192_197.out
 have hns27_1:=NB193_197.out
 have hms27_0:=NB197_192.out
 have hms27_1:=NB197_193.out
 have hs28:w14.cell? ⟨gb197,12,none⟩=some (.slice none 0 0):=(blk_cell BK197.out 12).trans rfl
 have hfs28:=blk_frozen BK197.out 12
 have hns28_0:=NB192_197.out
 have hns28_1:=NB193_197.out
 have hms28_0:=NB197_192.out
 have hms28_1:=NB197_193.out
 refine skip_ (w1:=?_) (by rfl) rfl ?_ ?_
 rotate_left
 ·go_simp
  rfl
 refine hK.out _ _ ⟨(cf NB192_197 ((cf NB192_197 ((cf NB192_197 ((cf NB192_197 ((cf NB192_197 ((cf NB192_197 ((cf NB192_197 ((cf NB192_197 ((cf NB192_197 ((cf NB192_197 ((cf NB192_197 ((cf NB192_197 ((cf NB192_197 (hHeld.1)))))))))))))))))))))))))),(cf NB192_197 ((cf NB192_197 ((cf NB192_197 ((cf NB192_197 ((cf NB192_197 ((cf NB192_197 ((cf NB192_197 ((cf NB192_197 ((cf NB192_197 ((cf NB192_197 ((cf NB192_197 ((cf NB192_197 ((cf NB192_197 (hHeld.2.1)))))))))))))))))))))))))),(cf NB192_197 ((cf NB192_197 ((cf NB192_197 ((cf NB192_197 ((cf NB192_197 ((cf NB192_197 ((cf NB192_197 ((cf NB192_197 ((cf NB192_197 ((cf NB192_197 ((cf NB192_197 ((cf NB192_197 ((cf NB192_197 (hHeld.2.2.1)))))))))))))))))))))))))),(cf NB192_197 ((cf NB192_197 ((cf NB192_197 ((cf NB192_197 ((cf NB192_197 ((cf NB192_197 ((cf NB192_197 ((cf NB192_197 ((cf NB192_197 ((cf NB192_197 ((cf NB192_197 ((cf NB192_197 ((cf NB192_197 (hHeld.2.2.2.1)))))))))))))))))))))))))),(cf NB192_197 ((cf NB192_197 ((cf NB192_197 ((cf NB192_197 ((cf NB192_197 ((cf NB192_197 ((cf NB192_197 ((cf NB192_197 ((cf NB192_197 ((cf NB192_197 ((cf NB192_197 ((cf NB192_197 ((cf NB192_197 (hHeld.2.2.2.2.1)))))))))))))))))))))))))),(cf NB192_197 ((cf NB192_197 ((cf NB192_197 ((cf NB192_197 ((cf NB192_197 ((cf NB192_197 ((cf NB192_197 ((cf NB192_197 ((cf NB192_197 ((cf NB192_197 ((cf NB192_197 ((cf NB192_197 ((cf NB192_197 (hHeld.2.2.2.2.2.1)))))))))))))))))))))))))),(cf NB192_197 ((cf NB192_197 ((cf NB192_197 ((cf NB192_197 ((cf NB192_197 ((cf NB192_197 ((cf NB192_197 ((cf NB192_197 ((cf NB192_197 ((cf NB192_197 ((cf NB192_197 ((cf NB192_197 ((cf NB192_197 (hHeld.2.2.2.2.2.2.1)))))))))))))))))))))))))),(cf NB192_197 ((cf NB192_197 ((cf NB192_197 ((cf NB192_197 ((cf NB192_197 ((cf NB192_197 ((cf NB192_197 ((cf NB192_197 ((cf NB192_197 ((cf NB192_197 ((cf NB192_197 ((cf NB192_197 ((cf NB192_197 (hHeld.2.2.2.2.2.2.2.1)))))))))))))))))))))))))),(cf NB192_197 ((cf NB192_197 ((cf NB192_197 ((cf NB192_197 ((cf NB192_197 ((cf NB192_197 ((cf NB192_197 ((cf NB192_197 ((cf NB192_197 ((cf NB192_197 ((cf NB192_197 ((cf NB192_197 ((cf NB192_197 (hHeld.2.2.2.2.2.2.2.2.1)))))))))))))))))))))))))),(cf NB192_197 ((cf NB192_197 ((cf NB192_197 ((cf NB192_197 ((cf NB192_197 ((cf NB192_197 ((cf NB192_197 ((cf NB192_197 ((cf NB192_197 ((cf NB192_197 ((cf NB192_197 ((cf NB192_197 ((cf NB192_197 (hHeld.2.2.2.2.2.2.2.2.2.1)))))))))))))))))))))))))),(cf NB192_197 ((cf NB192_197 ((cf NB192_197 ((cf NB192_197 ((cf NB192_197 ((cf NB192_197 ((cf NB192_197 ((cf NB192_197 ((cf NB192_197 ((cf NB192_197 ((cf NB192_197 ((cf NB192_197 ((cf NB192_197 (hHeld.2.2.2.2.2.2.2.2.2.2.1)))))))))))))))))))))))))),(cf NB192_197 ((cf NB192_197 ((cf NB192_197 ((cf NB192_197 ((cf NB192_197 ((cf NB192_197 ((cf NB192_197 ((cf NB192_197 ((cf NB192_197 ((cf NB192_197 ((cf NB192_197 ((cf NB192_197 ((cf NB192_197 (hHeld.2.2.2.2.2.2.2.2.2.2.2.1)))))))))))))))))))))))))),(cf NB192_197 ((cf NB192_197 ((cf NB192_197 ((cf NB192_197 ((cf NB192_197 ((cf NB192_197 ((cf NB192_197 ((cf NB192_197 ((cf NB192_197 ((cf NB192_197 ((cf NB192_197 ((cf NB192_197 ((cf NB192_197 (hHeld.2.2.2.2.2.2.2.2.2.2.2.2))))))))))))))))))))))))))⟩ (fun hHeld=>?_)
 clear hK K
 refine done_ (done_of HT_.out (by kernel_rfl)) ?_
 have hnb29:=NB197_192.out
 have hnc29:=NB192_197.out
 have hnb30:=NB197_193.out
 have hnc30:=NB193_197.out
 obtain ⟨z31_0,z31_1,z31_2,z31_3,z31_4,z31_5,z31_6,z31_7,z31_8,z31_9,z31_10,z31_11,z31_12,y31_0,y31_1,y31_2,y31_3,y31_4,y31_5,y31_6,y31_7,y31_8,y31_9,y31_10,y31_11,y31_12⟩:=blk13f BK197
 have hnb32:=NB192_193.out
 have hnc32:=NB193_192.out
 obtain ⟨z33_0,z33_1,z33_2,z33_3,z33_4,z33_5,z33_6,z33_7,z33_8,z33_9,z33_10,z33_11,z33_12,y33_0,y33_1,y33_2,y33_3,y33_4,y33_5,y33_6,y33_7,y33_8,y33_9,y33_10,y33_11,y33_12⟩:=blk13f BK192
 obtain ⟨Ao34,co34,eo34⟩:=Kd.R_slice HO3.out
 subst eo34
 obtain ⟨z35_0,z35_1,z35_2,z35_3,z35_4,z35_5,z35_6,z35_7,z35_8,z35_9,z35_10,z35_11,z35_12,y35_0,y35_1,y35_2,y35_3,y35_4,y35_5,y35_6,y35_7,y35_8,y35_9,y35_10,y35_11,y35_12⟩:=blk13f BK193
 refine reletE (fun w2=>w2.heap[gb197]?=some (.cells #[.int .i64 a0_0,.int .i64 a0_1,.int .i64 a0_2,.int .i64 a0_3,.bool a0_4,.slice none 0 0,.slice Ao12 l4.length co12,.int .i64 0,.int .i64 0,.int .i64 0,.int .i64 0,.slice none 0 0,.slice Ao15 t194.length co15] 37 (0,0))∧(∀ k,k≠gb197→w2.heap[k]?=w14.heap[k]?)∧Below w0.heap.size w0 w2∧Kept w w2 (fun k_=>P3_ k_∨P4_ k_)) ⟨by refine bP (cs:=?_) ?_ 12 ?_;rotate_left;refine bP (cs:=?_) ?_ 11 ?_;rotate_left;refine bP (cs:=?_) ?_ 10 ?_;rotate_left;refine bP (cs:=?_) ?_ 9 ?_;rotate_left;refine bP (cs:=?_) ?_ 8 ?_;rotate_left;refine bP (cs:=?_) ?_ 7 ?_;rotate_left;refine bP (cs:=?_) ?_ 6 ?_;rotate_left;refine bP (cs:=?_) ?_ 5 ?_;rotate_left;refine bP (cs:=?_) ?_ 4 ?_;rotate_left;refine bP (cs:=?_) ?_ 3 ?_;rotate_left;refine bP (cs:=?_) ?_ 2 ?_;rotate_left;refine bP (cs:=?_) ?_ 1 ?_;rotate_left;refine bP (cs:=?_) ?_ 0 ?_;rotate_left;exact BK197.out;all_goals ((try simp only [sA,sZ,sC]);first|done|rfl),by ((with_reducible repeat (refine farS ?_));intro k hk;with_reducible exact Eq.refl _),bG,by repeat (with_reducible first|exact HK.out|refine Kept.setCell ?_ (.inr GW197.out) _)⟩ ?_
 rintro w20 ⟨b1,hs,hb,hk⟩
 replace HO196:=rowStay HO196 BK197 (by decide) hs
 replace HO3:=rowStay HO3 BK197 (by decide) hs
 replace HO4:=rowStay HO4 BK197 (by decide) hs
 replace BK192:=Aside0.mk ((hs gb192 NB192_197.out).trans BK192.out)
 replace BK193:=Aside0.mk ((hs gb193 NB193_197.out).trans BK193.out)
 replace BK197:=Aside0.mk b1
 replace HB:=Aside0.mk hb
 replace HK:=Aside0.mk hk
 clear b1 hs hb hk
 clear z31_0 z31_1 z31_2 z31_3 z31_4 z31_5 z31_6 z31_7 z31_8 z31_9 z31_10 z31_11 z31_12 y31_0 y31_1 y31_2 y31_3 y31_4 y31_5 y31_6 y31_7 y31_8 y31_9 y31_10 y31_11 y31_12 z33_0 z33_1 z33_2 z33_3 z33_4 z33_5 z33_6 z33_7 z33_8 z33_9 z33_10 z33_11 z33_12 y33_0 y33_1 y33_2 y33_3 y33_4 y33_5 y33_6 y33_7 y33_8 y33_9 y33_10 y33_11 y33_12 z35_0 z35_1 z35_2 z35_3 z35_4 z35_5 z35_6 z35_7 z35_8 z35_9 z35_10 z35_11 z35_12 y35_0 y35_1 y35_2 y35_3 y35_4 y35_5 y35_6 y35_7 y35_8 y35_9 y35_10 y35_11 y35_12 hs16 hfs16 hns16_0 hns16_1 hms16_0 hms16_1 hs17 hfs17 hns17_0 hns17_1 hms17_0 hms17_1 hs18 hfs18 hns18_0 hns18_1 hms18_0 hms18_1 hs19 hfs19 hns19_0 hns19_1 hms19_0 hms19_1 hs20 hfs20 hns20_0 hns20_1 hms20_0 hms20_1 hs21 hfs21 hns21_0 hns21_1 hms21_0 hms21_1 hs22 hfs22 hns22_0 hns22_1 hms22_0 hms22_1 hs23 hfs23 hns23_0 hns23_1 hms23_0 hms23_1 hs24 hfs24 hns24_0 hns24_1 hms24_0 hms24_1 hs25 hfs25 hns25_0 hns25_1 hms25_0 hms25_1 hs26 hfs26 hns26_0 hns26_1 hms26_0 hms26_1 hs27 hfs27 hns27_0 hns27_1 hms27_0 hms27_1 hs28 hfs28 hns28_0 hns28_1 hms28_0 hms28_1
 obtain ⟨x0,x1,x2,x3,x4,x5,x6,x7,x8,x9,x10,x11,x12,y0,y1,y2,y3,y4,y5,y6,y7,y8,y9,y10,y11,y12⟩:=blk13f BK197
 obtain ⟨u0,u1,u2,u3,u4,u5,u6,u7,u8,u9,u10,u11,u12,v0,v1,v2,v3,v4,v5,v6,v7,v8,v9,v10,v11,v12⟩:=blk13f BK192
 go_upto_region 5 with (fail)
 refine reletC (fun w2=>w2.heap[gb197]?=some (.cells #[.int .i64 a0_0,.int .i64 a0_1,.int .i64 a2,.int .i64 a1,.bool a0_4,.slice none 0 0,.slice Ao12 l4.length co12,.int .i64 a0_0,.int .i64 a0_1,.int .i64 a1,.int .i64 a2,.slice Ao34 l3.length co34,.slice Ao15 t194.length co15] 37 (0,0))∧(∀ k,k≠gb197→w2.heap[k]?=w20.heap[k]?)∧Below w0.heap.size w0 w2∧Kept w w2 (fun k_=>P3_ k_∨P4_ k_)) ⟨by refine bP (cs:=?_) ?_ 11 ?_;rotate_left;refine bP (cs:=?_) ?_ 10 ?_;rotate_left;refine bP (cs:=?_) ?_ 9 ?_;rotate_left;refine bP (cs:=?_) ?_ 8 ?_;rotate_left;refine bP (cs:=?_) ?_ 7 ?_;rotate_left;refine bP (cs:=?_) ?_ 2 ?_;rotate_left;refine bP (cs:=?_) ?_ 3 ?_;rotate_left;exact BK197.out;all_goals ((try simp only [sA,sZ,sC]);first|done|rfl),by ((with_reducible repeat (refine farS ?_));intro k hk;with_reducible exact Eq.refl _),bG,by repeat (with_reducible first|exact HK.out|refine Kept.setCell ?_ (.inr GW197.out) _)⟩ ?_
 rintro w21 ⟨b1,hs,hb,hk⟩
 replace HO196:=rowStay HO196 BK197 (by decide) hs
 replace HO3:=rowStay HO3 BK197 (by decide) hs
 replace HO4:=rowStay HO4 BK197 (by decide) hs
 replace BK192:=Aside0.mk ((hs gb192 NB192_197.out).trans BK192.out)
 replace BK193:=Aside0.mk ((hs gb193 NB193_197.out).trans BK193.out)
 replace BK197:=Aside0.mk b1
 replace HB:=Aside0.mk hb
 replace HK:=Aside0.mk hk
 clear b1 hs hb hk
 clear x0
 clear x1
 clear x2
 clear x3
 clear x4
 clear x5
 clear x6
 clear x7
 clear x8
 clear x9
 clear x10
 clear x11
 clear x12
 clear y0
 clear y1
 clear y2
 clear y3
 clear y4
 clear y5
 clear y6
 clear y7
 clear y8
 clear y9
 clear y10
 clear y11
 clear y12
 clear u0
 clear u1
 clear u2
 clear u3
 clear u4
 clear u5
 clear u6
 clear u7
 clear u8
 clear u9
 clear u10
 clear u11
 clear u12
 clear v0
 clear v1
 clear v2
 clear v3
 clear v4
 clear v5
 clear v6
 clear v7
 clear v8
 clear v9
 clear v10
 clear v11
 clear v12
 obtain ⟨x0,x1,x2,x3,x4,x5,x6,x7,x8,x9,x10,x11,x12,y0,y1,y2,y3,y4,y5,y6,y7,y8,y9,y10,y11,y12⟩:=blk13f BK197
 obtain ⟨u0,u1,u2,u3,u4,u5,u6,u7,u8,u9,u10,u11,u12,v0,v1,v2,v3,v4,v5,v6,v7,v8,v9,v10,v11,v12⟩:=blk13f BK193
 go_wp2
 refine bodyPost_ret (results_cell_row rfl _ _ gb193 37 #[.int .i64 a0_0,.int .i64 a0_1,.int .i64 a2,.int .i64 a1,.bool a0_4,.slice none 0 0,.slice Ao12 l4.length co12,.int .i64 a0_0,.int .i64 a0_1,.int .i64 a1,.int .i64 a2,.slice Ao34 l3.length co34,.slice Ao15 t194.length co15] (0,0) _ rfl (by refine bP (cs:=?_) ?_ 12 ?_;rotate_left;refine bP (cs:=?_) ?_ 11 ?_;rotate_left;refine bP (cs:=?_) ?_ 10 ?_;rotate_left;refine bP (cs:=?_) ?_ 9 ?_;rotate_left;refine bP (cs:=?_) ?_ 8 ?_;rotate_left;refine bP (cs:=?_) ?_ 7 ?_;rotate_left;refine bP (cs:=?_) ?_ 6 ?_;rotate_left;refine bP (cs:=?_) ?_ 5 ?_;rotate_left;refine bP (cs:=?_) ?_ 4 ?_;rotate_left;refine bP (cs:=?_) ?_ 3 ?_;rotate_left;refine bP (cs:=?_) ?_ 2 ?_;rotate_left;refine bP (cs:=?_) ?_ 1 ?_;rotate_left;refine bP (cs:=?_) ?_ 0 ?_;rotate_left;exact BK193.out;all_goals ((try simp only [sA,sZ,sC]);first|done|rfl)) Try.underlying37 rfl (by kernel_rfl)) rfl ?_
 exact ⟨_,_,_,_,fE,Kd.R_nil _ _ _ _ _,Kd.R_mono (rowStay HO4 BK193 (by decide) (by ((with_reducible repeat (refine farS ?_));intro k hk;with_reducible exact Eq.refl _))).out (fun _ hk=>hk),Kd.R_mono (rowStay HO3 BK193 (by decide) (by ((with_reducible repeat (refine farS ?_));intro k hk;with_reducible exact Eq.refl _))).out (fun _ hk=>hk),(rowStay HO196 BK193 (by decide) (by ((with_reducible repeat (refine farS ?_));intro k hk;with_reducible exact Eq.refl _))).out,bG,by repeat (with_reducible first|exact HK.out|refine Kept.setCell ?_ (.inr GW193.out) _)⟩
end Go.Proofs.Ytjpfhldklbgdcaa.Ld
