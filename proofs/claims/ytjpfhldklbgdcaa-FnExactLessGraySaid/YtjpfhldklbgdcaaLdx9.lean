import Derived.Test.YtjpfhldklbgdcaaLdx0
import Derived.Test.YtjpfhldklbgdcaaLdx2
import Derived.Test.YtjpfhldklbgdcaaLdx7
import Derived.Test.YtjpfhldklbgdcaaLdx8
set_option maxHeartbeats 8000000
set_option maxRecDepth 100000
namespace Go.Proofs.Ytjpfhldklbgdcaa.Ld
open Go.RowKit Go.Proofs.Ytjpfhldklbgdcaa.Sq Go.Proofs.YtjpfhldklbgdcaaW.PrintWords Go.Proofs.YtjpfhldklbgdcaaW.PrintLast Go.Proofs.YtjpfhldklbgdcaaW.PrintMore
attribute [local go_sem] max2_int min2_int max_two min_two max_three min_three max_four min_four   -- for this text's walks alone
set_option linter.unusedVariables false
set_option linter.unusedSimpArgs false
def laws_toHead.f (a0_0:Int) (a0_1:Int) (a0_2:Int) (a0_3:Int) (a0_4:Bool):Option (Int×Int×Int×Int×Bool):=some (a0_0,a0_1,a0_2,a0_3,a0_4)
theorem laws_toHead.calls (a0_0:Int) (a0_1:Int) (a0_2:Int) (a0_3:Int) (a0_4:Bool) (r1:Int) (r2:Int) (r3:Int) (r4:Int) (r5:Bool) (w:World) (h:laws_toHead.f a0_0 a0_1 a0_2 a0_3 a0_4=some (r1,r2,r3,r4,r5)):
  Calls Try.prog 40 #[.agg #[.int .i64 a0_0,.int .i64 a0_1,.int .i64 a0_2,.int .i64 a0_3,.bool a0_4]] w fun e w'=>e=.returned (.agg #[.int .i64 r1,.int .i64 r2,.int .i64 r3,.int .i64 r4,.bool r5])∧Below w.heap.size w w':=by
 have hu23:=Try.underlying23
 have hu32:=Try.underlying32
 have HB:=Aside0.mk (Below.refl w.heap.size w)
 have H:(some (a0_0,a0_1,a0_2,a0_3,a0_4))=some (r1,r2,r3,r4,r5):=h
 clear h
 simp only [Option.some.injEq,Prod.mk.injEq] at H
 obtain ⟨rfl,rfl,rfl,rfl,rfl⟩:=H
 go_enter Try.func40,Try.ntmps40
 go_wp2_with (first|((with_reducible refine gate_dst (N:=1) rfl ?_);refine boxE 1 (#[.int .i64 a0_0,.int .i64 a0_1,.int .i64 a0_2,.int .i64 a0_3,.bool a0_4]) 23 ?_;intro gb231 hg w2 hbox hb;have BK231:=Aside0.mk hbox;have GW231:=(gwH (w:=w) hg);have GE231:=(gwH (w:=w) hg);replace HB:=Aside0.mk (below_step bH hb);clear hb hbox hg)|((with_reducible refine gate_dst (N:=2) rfl ?_);refine boxE 2 (#[.int .i64 0,.int .i64 0,.int .i64 0,.int .i64 0,.bool false]) 32 ?_;intro gb232 hg w3 hbox hb;have n0_:=Aside0.mk (bkb BK231 hb);have n1_:=Aside0.mk (below_step bG hb);have n2_:=Aside0.mk hbox;have n3_:=(gwG (w:=w) hg);have n4_:=(gwG (w:=w) hg);have n5_:=(nbl BK231 hg);have n6_:=(nbg BK231 hg);clear BK231;clear HB;have BK231:=n0_;have HB:=n1_;have BK232:=n2_;have GW232:=n3_;have GE232:=n4_;have NB231_232:=n5_;have NB232_231:=n6_;clear n0_ n1_ n2_ n3_ n4_ n5_ n6_;clear hb hbox hg)|((with_reducible refine gate_dst (N:=3) rfl ?_);refine boxE 3 (#[.int .i64 0,.int .i64 0,.int .i64 0,.int .i64 0,.bool false]) 32 ?_;intro gb233 hg w4 hbox hb;have n0_:=Aside0.mk (bkb BK231 hb);have n1_:=Aside0.mk (bkb BK232 hb);have n2_:=Aside0.mk (below_step bG hb);have n3_:=Aside0.mk hbox;have n4_:=(gwG (w:=w) hg);have n5_:=(gwG (w:=w) hg);have n6_:=(nbl BK231 hg);have n7_:=(nbg BK231 hg);have n8_:=(nbl BK232 hg);have n9_:=(nbg BK232 hg);clear BK231;clear BK232;clear HB;have BK231:=n0_;have BK232:=n1_;have HB:=n2_;have BK233:=n3_;have GW233:=n4_;have GE233:=n5_;have NB231_233:=n6_;have NB233_231:=n7_;have NB232_233:=n8_;have NB233_232:=n9_;clear n0_ n1_ n2_ n3_ n4_ n5_ n6_ n7_ n8_ n9_;clear hb hbox hg;have hnb5:=NB231_232.out;have hnc5:=NB232_231.out;have hnb6:=NB231_233.out;have hnc6:=NB233_231.out;obtain ⟨z7_0,z7_1,z7_2,z7_3,z7_4,y7_0,y7_1,y7_2,y7_3,y7_4⟩:=blk5f BK231;have hnb8:=NB233_232.out;have hnc8:=NB232_233.out;obtain ⟨z9_0,z9_1,z9_2,z9_3,z9_4,y9_0,y9_1,y9_2,y9_3,y9_4⟩:=blk5f BK233;obtain ⟨z10_0,z10_1,z10_2,z10_3,z10_4,y10_0,y10_1,y10_2,y10_3,y10_4⟩:=blk5f BK232))
 refine bodyPost_ret (results_cell_row rfl _ _ gb232 32 #[.int .i64 a0_0,.int .i64 a0_1,.int .i64 a0_2,.int .i64 a0_3,.bool a0_4] (0,0) _ rfl (by refine bP (cs:=?_) ?_ 4 ?_;rotate_left;refine bP (cs:=?_) ?_ 3 ?_;rotate_left;refine bP (cs:=?_) ?_ 2 ?_;rotate_left;refine bP (cs:=?_) ?_ 1 ?_;rotate_left;refine bP (cs:=?_) ?_ 0 ?_;rotate_left;refine blk_far ?_ NB232_233.out _;refine blk_far ?_ NB232_233.out _;refine blk_far ?_ NB232_233.out _;refine blk_far ?_ NB232_233.out _;refine blk_far ?_ NB232_233.out _;(with_reducible repeat (first|refine blk_drewN ?_ _|refine blk_drew ?_|refine blk_alloc ?_ _));exact BK232.out;all_goals ((try simp only [sA,sZ,sC]);first|done|rfl)) Try.underlying32 rfl (by kernel_rfl)) rfl ?_
 exact ⟨fE,bG⟩
def laws_toRgb.f (a0_0:Int) (a0_1:Int) (a0_2:Int):Option (Int×Int×Int):=some (a0_0,a0_1,a0_2)
theorem laws_toRgb.calls (a0_0:Int) (a0_1:Int) (a0_2:Int) (r1:Int) (r2:Int) (r3:Int) (w:World) (h:laws_toRgb.f a0_0 a0_1 a0_2=some (r1,r2,r3)):
  Calls Try.prog 89 #[.agg #[.int .i64 a0_0,.int .i64 a0_1,.int .i64 a0_2]] w fun e w'=>e=.returned (.agg #[.int .i64 r1,.int .i64 r2,.int .i64 r3])∧Below w.heap.size w w':=by
 have hu106:=Try.underlying106
 have hu95:=Try.underlying95
 have HB:=Aside0.mk (Below.refl w.heap.size w)
 have H:(some (a0_0,a0_1,a0_2))=some (r1,r2,r3):=h
 clear h
 simp only [Option.some.injEq,Prod.mk.injEq] at H
 obtain ⟨rfl,rfl,rfl⟩:=H
 go_enter Try.func89,Try.ntmps89
 go_wp2_with (first|((with_reducible refine gate_dst (N:=1) rfl ?_);refine boxE 1 (#[.int .i64 a0_0,.int .i64 a0_1,.int .i64 a0_2]) 106 ?_;intro gb234 hg w2 hbox hb;have BK234:=Aside0.mk hbox;have GW234:=(gwH (w:=w) hg);have GE234:=(gwH (w:=w) hg);replace HB:=Aside0.mk (below_step bH hb);clear hb hbox hg)|((with_reducible refine gate_dst (N:=2) rfl ?_);refine boxE 2 (#[.int .i64 0,.int .i64 0,.int .i64 0]) 95 ?_;intro gb235 hg w3 hbox hb;have n0_:=Aside0.mk (bkb BK234 hb);have n1_:=Aside0.mk (below_step bG hb);have n2_:=Aside0.mk hbox;have n3_:=(gwG (w:=w) hg);have n4_:=(gwG (w:=w) hg);have n5_:=(nbl BK234 hg);have n6_:=(nbg BK234 hg);clear BK234;clear HB;have BK234:=n0_;have HB:=n1_;have BK235:=n2_;have GW235:=n3_;have GE235:=n4_;have NB234_235:=n5_;have NB235_234:=n6_;clear n0_ n1_ n2_ n3_ n4_ n5_ n6_;clear hb hbox hg)|((with_reducible refine gate_dst (N:=3) rfl ?_);refine boxE 3 (#[.int .i64 0,.int .i64 0,.int .i64 0]) 95 ?_;intro gb236 hg w4 hbox hb;have n0_:=Aside0.mk (bkb BK234 hb);have n1_:=Aside0.mk (bkb BK235 hb);have n2_:=Aside0.mk (below_step bG hb);have n3_:=Aside0.mk hbox;have n4_:=(gwG (w:=w) hg);have n5_:=(gwG (w:=w) hg);have n6_:=(nbl BK234 hg);have n7_:=(nbg BK234 hg);have n8_:=(nbl BK235 hg);have n9_:=(nbg BK235 hg);clear BK234;clear BK235;clear HB;have BK234:=n0_;have BK235:=n1_;have HB:=n2_;have BK236:=n3_;have GW236:=n4_;have GE236:=n5_;have NB234_236:=n6_;have NB236_234:=n7_;have NB235_236:=n8_;have NB236_235:=n9_;clear n0_ n1_ n2_ n3_ n4_ n5_ n6_ n7_ n8_ n9_;clear hb hbox hg;have hnb5:=NB234_235.out;have hnc5:=NB235_234.out;have hnb6:=NB234_236.out;have hnc6:=NB236_234.out;obtain ⟨z7_0,z7_1,z7_2,y7_0,y7_1,y7_2⟩:=blk3f BK234;have hnb8:=NB236_235.out;have hnc8:=NB235_236.out;obtain ⟨z9_0,z9_1,z9_2,y9_0,y9_1,y9_2⟩:=blk3f BK236;obtain ⟨z10_0,z10_1,z10_2,y10_0,y10_1,y10_2⟩:=blk3f BK235))
 refine bodyPost_ret (results_cell_row rfl _ _ gb235 95 #[.int .i64 a0_0,.int .i64 a0_1,.int .i64 a0_2] (0,0) _ rfl (by refine bP (cs:=?_) ?_ 2 ?_;rotate_left;refine bP (cs:=?_) ?_ 1 ?_;rotate_left;refine bP (cs:=?_) ?_ 0 ?_;rotate_left;refine blk_far ?_ NB235_236.out _;refine blk_far ?_ NB235_236.out _;refine blk_far ?_ NB235_236.out _;(with_reducible repeat (first|refine blk_drewN ?_ _|refine blk_drew ?_|refine blk_alloc ?_ _));exact BK235.out;all_goals ((try simp only [sA,sZ,sC]);first|done|rfl)) Try.underlying95 rfl (by kernel_rfl)) rfl ?_
 exact ⟨fE,bG⟩
def laws_toRgbS.l0:Nat→List (S106)→List (S95)→Int→Option ((List (S95)))
 | 0,_,_,_=>none
 | k+1,x0,x3,x4=>if x4 < (x0.length:Int) then (if 0≤x4 then ((laws_toRgb.f ((rd_T106 x0 x4).f0) ((rd_T106 x0 x4).f1) ((rd_T106 x0 x4).f2)).bind fun bt241=>(if x4 < (x3.length:Int) then (laws_toRgbS.l0 k x0 (x3.set (x4:Int).toNat (⟨bt241.1,bt241.2.1,bt241.2.2⟩:S95)) (wrap64 (x4+1))) else (none))) else (none)) else (some x3)
def laws_toRgbS.f (k:Nat) (l0:List (S106)):Option ((List (S95))):=if 0≤(l0.length:Int) then (if ((l0.length:Int):Int).toNat≤11728124029610 then (laws_toRgbS.l0 k l0 (List.replicate ((l0.length:Int):Int).toNat z95) 0) else (none)) else (none)
theorem laws_toRgbS.mono_l:∀ k,(∀ y0 y1 y2,LeO (laws_toRgbS.l0 k y0 y1 y2) (laws_toRgbS.l0 (k+1) y0 y1 y2))
 | 0=>fun _ _ _ r h=>by simp [laws_toRgbS.l0] at h
 | k+1=>by
  have ih0:=laws_toRgbS.mono_l k
  ·intro y0 y1 y2
   unfold laws_toRgbS.l0
   repeat' first
   | (with_reducible exact ih0 _ _ _)
   | (with_reducible exact LeO.refl _)
   | (with_reducible exact LeO.none _)
   | (with_reducible refine LeO.ite ?_ ?_)
   | (with_reducible refine LeO.bind ?_ (fun _=>?_))
   | exact ih0 _ _ _
   | exact LeO.none _
   | refine LeO.ite ?_ ?_
   | refine LeO.bind ?_ (fun _=>?_)
theorem laws_toRgbS.mono:∀ a0 k,LeO (laws_toRgbS.f k a0) (laws_toRgbS.f (k+1) a0):=by
 intro a0 k
 have ih0:=laws_toRgbS.mono_l k
 unfold laws_toRgbS.f
 repeat' first
   | (with_reducible exact ih0 _ _ _)
   | (with_reducible exact LeO.refl _)
   | (with_reducible exact LeO.none _)
   | (with_reducible refine LeO.ite ?_ ?_)
   | (with_reducible refine LeO.bind ?_ (fun _=>?_))
   | exact ih0 _ _ _
   | exact LeO.none _
   | refine LeO.ite ?_ ?_
   | refine LeO.bind ?_ (fun _=>?_)
theorem laws_toRgbS.calls (k:Nat) (A0:Option Addr) (c0:Nat) (l0:List (S106)) (r:List (S95)) (w:World) (hr0:Kd.C k106 w A0 l0.length l0) (hc0:l0.length≤c0) (h:laws_toRgbS.f k l0=some r):
  Calls Try.prog 41 #[.slice A0 l0.length c0] w fun e w'=>∃ v0_:Value,e=.returned (v0_)∧Kd.R k95 95 w' w.heap.size (fun _=>True) v0_ r∧Below w.heap.size w w':=by
 have hu106:=Try.underlying106
 have hu95:=Try.underlying95
 have HR0:=Aside0.mk hr0
 have HC0:=Aside0.mk hc0
 clear hr0 hc0
 have HB:=Aside0.mk (Below.refl w.heap.size w)
 have H:=h
 clear h
 unfold laws_toRgbS.f at H
 by_cases c2:0≤(l0.length:Int)
 ·rw [if_pos c2] at H
  have c2b0:=eq_true c2
  have c2b1:decide (0≤(l0.length:Int))=true:=decide_eq_true c2
  clear c2
  by_cases c3:((l0.length:Int):Int).toNat≤11728124029610
  ·rw [if_pos c3] at H
   have c3b0:=eq_true c3
   have c3b1:decide (((l0.length:Int):Int).toNat≤11728124029610)=true:=decide_eq_true c3
   clear c3
   obtain ⟨y237,hy237⟩:∃ y_:List (S95),y_=(List.replicate ((l0.length:Int):Int).toNat z95):=⟨_,rfl⟩
   replace H:(laws_toRgbS.l0 k l0 y237 0)=some r:=by first|(rw [hy237];with_reducible exact H)|(have H2_:=(Option.bind_some _ _).symm.trans H;rw [hy237];with_reducible exact H2_)|(have H2_:=(Option.bind_some _ _).symm.trans H;with_reducible exact H2_)|with_reducible exact H|(rw [hy237];exact H)|exact H
   have Ny237:=Aside0.mk hy237
   clear hy237
   have H':=Aside0.mk H
   clear H
   go_enter Try.func41,Try.ntmps41
   go_wp2_with (first|((with_reducible refine gate_dst (N:=7) rfl ?_);refine Kd.R_make k95 _ 95 rfl (N:=7) rfl 33 _ _ rfl (l0.length:Int) rfl rfl Try.underlying33 (.agg #[(.int .i64 0),(.int .i64 0),(.int .i64 0)]) 24 info95 rfl (by decide) (by omega) z95 (ok:=fun _=>True) (okp:=fun _=>True) (k95_mkM _ _ _ z95 ) (fun _ hk=>hk) trivial (oD) (Nat.le_trans (Nat.mul_le_mul_right _ (oD:(l0.length:Int).toNat≤11728124029610)) (by omega)) (Below.refl _ _) (Nat.le_refl _) ?_;intro v238 w4 ho5 hb hg_ hnew_;clear hg_ hnew_;(first|rw [← Ny237.out] at ho5|(simp only [Int.reduceToNat] at ho5;rw [← Ny237.out] at ho5));have HO239:=Aside0.mk (Kd.R_lower ho5 (below_size bH));replace HB:=Aside0.mk (below_step bH hb);clear hb ho5))
   go_loopg [4] k (fun kq v4 w'=>∃ (x3_1:List (S95)) (x4_1:Int),v4=.int .i64 x4_1∧Aside0 (laws_toRgbS.l0 kq l0 x3_1 x4_1=some r)∧Aside0 (kq≤k)∧Aside0 (Kd.R k95 95 w' w.heap.size (fun _=>True) v238 x3_1)∧Aside0 (Below w.heap.size w w'))
   case atStart=>exact ⟨(y237),(0),fS,H',⟨Nat.le_refl _⟩,⟨rS HO239⟩,⟨bH⟩⟩
   case round =>
    clear H'
    clear c2b0 c2b1 c3b0 c3b1
    obtain ⟨x3_1,x4_1,rfl,HA,HK1,HO_3,HB⟩:=hrel
    cases gk with
    | zero=>exact absurd HA.out (by simp [laws_toRgbS.l0])
    | succ k1 =>
     have H:=HA.out
     clear HA
     simp only [laws_toRgbS.l0] at H
     by_cases c6:x4_1 < (l0.length:Int)
     ·rw [if_pos c6] at H
      have c6b0:decide (x4_1 < (l0.length:Int))=true:=decide_eq_true c6
      clear c6
      by_cases c7:0≤x4_1
      ·rw [if_pos c7] at H
       have c7b0:decide (0≤x4_1)=true:=decide_eq_true c7
       clear c7
       replace H:=Option.bind_eq_some_iff.mp H
       obtain ⟨⟨t241,t242,t243⟩,A80,H⟩:=H
       try dsimp only at H
       have A8:=Aside0.mk A80
       clear A80
       by_cases c9:x4_1 < (x3_1.length:Int)
       ·rw [if_pos c9] at H
        have c9b0:decide (x4_1 < (x3_1.length:Int))=true:=decide_eq_true c9
        clear c9
        obtain ⟨y244,hy244⟩:∃ y_:List (S95),y_=(x3_1.set (x4_1:Int).toNat (⟨t241,t242,t243⟩:S95)):=⟨_,rfl⟩
        replace H:(laws_toRgbS.l0 k1 l0 y244 (wrap64 (x4_1+1)))=some r:=by first|(rw [hy244];with_reducible exact H)|(have H2_:=(Option.bind_some _ _).symm.trans H;rw [hy244];with_reducible exact H2_)|(have H2_:=(Option.bind_some _ _).symm.trans H;with_reducible exact H2_)|with_reducible exact H|(rw [hy244];exact H)|exact H
        have Ny244:=Aside0.mk hy244
        clear hy244
        have H':=Aside0.mk H
        clear H
        have p240:0≤(x4_1:Int):=oD
        have q240:x4_1 < (l0.length:Int):=oD
        obtain ⟨ad240,e240,hx240_0,hx240_1,hx240_2⟩:=at_T106 HR0.out x4_1 p240 q240
        cases e240
        replace hx240_0:=(HB.out.cell (World.block_lt_of_cell? w _ hx240_0)).trans hx240_0
        replace hx240_1:=(HB.out.cell (World.block_lt_of_cell? w _ hx240_1)).trans hx240_1
        replace hx240_2:=(HB.out.cell (World.block_lt_of_cell? w _ hx240_2)).trans hx240_2
        replace p240:=eq_true p240
        replace q240:=eq_true q240
        go_wp2_with (first|((with_reducible refine gate_callee (f:=89) rfl ?_);refine gL (some 20) Try.func89 #[.agg #[.int .i64 ((rd_T106 l0 x4_1).f0),.int .i64 ((rd_T106 l0 x4_1).f1),.int .i64 ((rd_T106 l0 x4_1).f2)]] ?_;(with_reducible refine (laws_toRgb.calls ((rd_T106 l0 x4_1).f0) ((rd_T106 l0 x4_1).f1) ((rd_T106 l0 x4_1).f2) t241 t242 t243 _ A8.out).mono ?_);rintro e w11 ⟨rfl,hb⟩;refine ⟨_,rfl,?_⟩;replace HO_3:=Aside0.mk (Kd.R_below (rS HO_3) hb);replace HB:=Aside0.mk (below_step bH hb);(try clear hb);have p10:0≤(x4_1:Int):=oD;have q10:(x4_1:Int) < ((x3_1.length:Int):Int):=oD;obtain ⟨go10,co10,eo10,gb10,gl10,cl10,HG10⟩:=Kd.R_form HO_3.out (by omega);(first|cases eo10|(injection eo10 with ea_ en_ ec_;(first|subst ea_|(injection ea_ with ea_;subst ea_));subst ec_;clear en_));have GB10:=Aside0.mk gb10;have GG10:=Aside0.mk HG10;clear gb10 gl10 HG10;obtain ⟨ce10,hcl10,hM10,hcc10,hfr10⟩:=Kd.R_elem HO_3.out z95 (x4_1:Int) p10 q10;obtain rfl:=k95_openM hM10;have hx10_0:w11.cell? ⟨go10,(x4_1:Int).toNat * 3,none⟩=some (.int .i64 ((rd_T95 x3_1 x4_1).f0)):=hcc10 0 _ rfl;have hx10_1:w11.cell? ⟨go10,(x4_1:Int).toNat * 3+1,none⟩=some (.int .i64 ((rd_T95 x3_1 x4_1).f1)):=hcc10 1 _ rfl;have hx10_2:w11.cell? ⟨go10,(x4_1:Int).toNat * 3+2,none⟩=some (.int .i64 ((rd_T95 x3_1 x4_1).f2)):=hcc10 2 _ rfl;have hf10_0:w11.frozen? ⟨go10,(x4_1:Int).toNat * 3,none⟩=false:=hfr10 0;have hf10_1:w11.frozen? ⟨go10,(x4_1:Int).toNat * 3+1,none⟩=false:=hfr10 1;have hf10_2:w11.frozen? ⟨go10,(x4_1:Int).toNat * 3+2,none⟩=false:=hfr10 2;clear hcl10 hcc10 hfr10 hM10;replace p10:=eq_true p10;replace q10:=eq_true q10;have HX12:=Aside0.mk (show Kd.R k95 95 w11 w.heap.size (fun _=>True) (.slice (some ⟨go10,0,none⟩) x3_1.length co10) x3_1 from (rS HO_3));obtain ⟨ce12,hcl12,hM12,hcc12,hfr12⟩:=Kd.R_elem HX12.out z95 (x4_1:Int) (oD) (by have h_:(x4_1:Int) < ((x3_1.length:Int):Int):=oD;first|exact h_|(have e_:=(Kd.R_reads' HO_3.out).1;omega)|simpa using h_);obtain rfl:=k95_openM hM12;have HP12:=Kd.R_seg HX12.out (x4_1:Int) (oD) (by have h_:(x4_1:Int) < ((x3_1.length:Int):Int):=oD;first|exact h_|(have e_:=(Kd.R_reads' HO_3.out).1;omega)|simpa using h_) (seg:=[.int .i64 t241,.int .i64 t242,.int .i64 t243]) (j:=0) hcl12 hcc12 (show 3≤3 from by decide) (x':=(⟨t241,t242,t243⟩:S95)) (k95_mkM _ _ _ (⟨t241,t242,t243⟩:S95) ) (fun _ hk=>hk);have hx12_0:=hcc12 0 _ rfl;(try simp only [show (k95).sz=3 from rfl,Nat.mul_one,Nat.add_zero] at hx12_0);have hf12_0:=hfr12 0;(try simp only [show (k95).sz=3 from rfl,Nat.mul_one,Nat.add_zero] at hf12_0);have hx12_1:=hcc12 1 _ rfl;(try simp only [show (k95).sz=3 from rfl,Nat.mul_one,Nat.add_zero] at hx12_1);have hf12_1:=hfr12 1;(try simp only [show (k95).sz=3 from rfl,Nat.mul_one,Nat.add_zero] at hf12_1);have hx12_2:=hcc12 2 _ rfl;(try simp only [show (k95).sz=3 from rfl,Nat.mul_one,Nat.add_zero] at hx12_2);have hf12_2:=hfr12 2;(try simp only [show (k95).sz=3 from rfl,Nat.mul_one,Nat.add_zero] at hf12_2);clear hcl12 hcc12 hfr12 hM12)|((with_reducible refine gate_store (t:=95) (p:=21) rfl ?_);refine store_event (t:=95) (p:=21) (v:=?vo_w13) (w1:=(((w11.setCell ⟨go10,(x4_1:Int).toNat * 3,none⟩ (.int .i64 t241)).setCell ⟨go10,(x4_1:Int).toNat * 3+1,none⟩ (.int .i64 t242)).setCell ⟨go10,(x4_1:Int).toNat * 3+2,none⟩ (.int .i64 t243))) ?hg ?ho ?hn ?hr ?_;(case ho=>rfl);(case hg=>rfl);(case hn=>rfl);(case hr=>first|(go_simp;done)|(go_simp;rfl));intro w13 hw;have hg:w11.grownBy w13 (some go10):=(by rw [hw];exact HP12.2);have hp_:Kd.R k95 95 w13 w.heap.size (fun _=>True) (.slice (some ⟨go10,0,none⟩) x3_1.length co10) y244:=(by rw [hw,Ny244.out];exact HP12.1);clear HP12;replace HO_3:=Aside0.mk hp_;replace HB:=Aside0.mk ((by rw [hw];exact below_set (below_set (below_set (HB.out) GB10.out) GB10.out) GB10.out:Below w.heap.size w w13));clear hg hw hp_))
        go_roundg k1
        case measure=>have:=HK1.out;omega
        case rel=>exact ⟨(y244),(wrap64 (x4_1+1)),fS,H',⟨by have:=HK1.out;omega⟩,⟨rS HO_3⟩,⟨bH⟩⟩
       ·rw [if_neg c9] at H
        exact absurd H (by simp)
      ·rw [if_neg c7] at H
       exact absurd H (by simp)
     ·rw [if_neg c6] at H
      have c6b0:decide (x4_1 < (l0.length:Int))=false:=decide_eq_false c6
      clear c6
      obtain rfl:=sI H
      go_wp2
      go_ret
      exact ⟨_,fE,rS HO_3,bH⟩
  ·rw [if_neg c3] at H
   exact absurd H (by simp)
 ·rw [if_neg c2] at H
  exact absurd H (by simp)
def laws_toIntS.l0:Nat→List Int→List Int→Int→Option (List Int)
 | 0,_,_,_=>none
 | k+1,x0,x3,x4=>if x4 < (x0.length:Int) then (if 0≤x4 then (if x4 < (x3.length:Int) then (laws_toIntS.l0 k x0 (x3.set (x4:Int).toNat (rd x0 x4)) (wrap64 (x4+1))) else (none)) else (none)) else (some x3)
def laws_toIntS.f (k:Nat) (l0:List Int):Option (List Int):=if 0≤(l0.length:Int) then (if ((l0.length:Int):Int).toNat≤35184372088832 then (laws_toIntS.l0 k l0 (List.replicate ((l0.length:Int):Int).toNat 0) 0) else (none)) else (none)
theorem laws_toIntS.mono_l:∀ k,(∀ y0 y1 y2,LeO (laws_toIntS.l0 k y0 y1 y2) (laws_toIntS.l0 (k+1) y0 y1 y2))
 | 0=>fun _ _ _ r h=>by simp [laws_toIntS.l0] at h
 | k+1=>by
  have ih0:=laws_toIntS.mono_l k
  ·intro y0 y1 y2
   unfold laws_toIntS.l0
   repeat' first
   | (with_reducible exact ih0 _ _ _)
   | (with_reducible exact LeO.refl _)
   | (with_reducible exact LeO.none _)
   | (with_reducible refine LeO.ite ?_ ?_)
   | (with_reducible refine LeO.bind ?_ (fun _=>?_))
   | exact ih0 _ _ _
   | exact LeO.none _
   | refine LeO.ite ?_ ?_
   | refine LeO.bind ?_ (fun _=>?_)
theorem laws_toIntS.mono:∀ a0 k,LeO (laws_toIntS.f k a0) (laws_toIntS.f (k+1) a0):=by
 intro a0 k
 have ih0:=laws_toIntS.mono_l k
 unfold laws_toIntS.f
 repeat' first
   | (with_reducible exact ih0 _ _ _)
   | (with_reducible exact LeO.refl _)
   | (with_reducible exact LeO.none _)
   | (with_reducible refine LeO.ite ?_ ?_)
   | (with_reducible refine LeO.bind ?_ (fun _=>?_))
   | exact ih0 _ _ _
   | exact LeO.none _
   | refine LeO.ite ?_ ?_
   | refine LeO.bind ?_ (fun _=>?_)
theorem laws_toIntS.calls (k:Nat) (A0:Option Addr) (c0:Nat) (l0:List Int) (r:List Int) (w:World) (hr0:Kd.C (Kd.int .i64) w A0 l0.length l0) (hc0:l0.length≤c0) (h:laws_toIntS.f k l0=some r):
  Calls Try.prog 42 #[.slice A0 l0.length c0] w fun e w'=>∃ v0_:Value,e=.returned (v0_)∧Kd.R (Kd.int .i64) 3 w' w.heap.size (fun _=>True) v0_ r∧Below w.heap.size w w':=by
 have HR0:=Aside0.mk hr0
 have HC0:=Aside0.mk hc0
 clear hr0 hc0
 have HB:=Aside0.mk (Below.refl w.heap.size w)
 have H:=h
 clear h
 unfold laws_toIntS.f at H
 by_cases c2:0≤(l0.length:Int)
 ·rw [if_pos c2] at H
  have c2b0:=eq_true c2
  have c2b1:decide (0≤(l0.length:Int))=true:=decide_eq_true c2
  clear c2
  by_cases c3:((l0.length:Int):Int).toNat≤35184372088832
  ·rw [if_pos c3] at H
   have c3b0:=eq_true c3
   have c3b1:decide (((l0.length:Int):Int).toNat≤35184372088832)=true:=decide_eq_true c3
   clear c3
   obtain ⟨y245,hy245⟩:∃ y_:List Int,y_=(List.replicate ((l0.length:Int):Int).toNat 0):=⟨_,rfl⟩
   replace H:(laws_toIntS.l0 k l0 y245 0)=some r:=by first|(rw [hy245];with_reducible exact H)|(have H2_:=(Option.bind_some _ _).symm.trans H;rw [hy245];with_reducible exact H2_)|(have H2_:=(Option.bind_some _ _).symm.trans H;with_reducible exact H2_)|with_reducible exact H|(rw [hy245];exact H)|exact H
   have Ny245:=Aside0.mk hy245
   clear hy245
   have H':=Aside0.mk H
   clear H
   go_enter Try.func42,Try.ntmps42
   go_wp2_with (first|((with_reducible refine gate_dst (N:=7) rfl ?_);refine Kd.R_make (Kd.int .i64) _ 3 rfl (N:=7) rfl 25 _ _ rfl (l0.length:Int) rfl rfl Try.underlying25 (.int .i64 0) 8 info3 rfl (by decide) (by omega) 0 (ok:=fun _=>True) (okp:=fun _=>True) rfl (fun _ hk=>hk) trivial (oD) (Nat.le_trans (Nat.mul_le_mul_right _ (oD:(l0.length:Int).toNat≤35184372088832)) (by omega)) (Below.refl _ _) (Nat.le_refl _) ?_;intro v246 w4 ho5 hb hg_ hnew_;clear hg_ hnew_;(first|rw [← Ny245.out] at ho5|(simp only [Int.reduceToNat] at ho5;rw [← Ny245.out] at ho5));have HO247:=Aside0.mk (Kd.R_lower ho5 (below_size bH));replace HB:=Aside0.mk (below_step bH hb);clear hb ho5))
   go_loopg [4] k (fun kq v4 w'=>∃ (x3_1:List Int) (x4_1:Int),v4=.int .i64 x4_1∧Aside0 (laws_toIntS.l0 kq l0 x3_1 x4_1=some r)∧Aside0 (kq≤k)∧Aside0 (Kd.R (Kd.int .i64) 3 w' w.heap.size (fun _=>True) v246 x3_1)∧Aside0 (Below w.heap.size w w'))
   case atStart=>exact ⟨(y245),(0),fS,H',⟨Nat.le_refl _⟩,⟨rS HO247⟩,⟨bH⟩⟩
   case round =>
    clear H'
    clear c2b0 c2b1 c3b0 c3b1
    obtain ⟨x3_1,x4_1,rfl,HA,HK1,HO_3,HB⟩:=hrel
    cases gk with
    | zero=>exact absurd HA.out (by simp [laws_toIntS.l0])
    | succ k1 =>
     have H:=HA.out
     clear HA
     simp only [laws_toIntS.l0] at H
     by_cases c6:x4_1 < (l0.length:Int)
     ·rw [if_pos c6] at H
      have c6b0:decide (x4_1 < (l0.length:Int))=true:=decide_eq_true c6
      clear c6
      by_cases c7:0≤x4_1
      ·rw [if_pos c7] at H
       have c7b0:decide (0≤x4_1)=true:=decide_eq_true c7
       clear c7
       by_cases c8:x4_1 < (x3_1.length:Int)
       ·rw [if_pos c8] at H
        have c8b0:decide (x4_1 < (x3_1.length:Int))=true:=decide_eq_true c8
        clear c8
        obtain ⟨y249,hy249⟩:∃ y_:List Int,y_=(x3_1.set (x4_1:Int).toNat (rd l0 x4_1)):=⟨_,rfl⟩
        replace H:(laws_toIntS.l0 k1 l0 y249 (wrap64 (x4_1+1)))=some r:=by first|(rw [hy249];with_reducible exact H)|(have H2_:=(Option.bind_some _ _).symm.trans H;rw [hy249];with_reducible exact H2_)|(have H2_:=(Option.bind_some _ _).symm.trans H;with_reducible exact H2_)|with_reducible exact H|(rw [hy249];exact H)|exact H
        have Ny249:=Aside0.mk hy249
        clear hy249
        have H':=Aside0.mk H
        clear H
        have p248:0≤(x4_1:Int):=oD
        have q248:x4_1 < (l0.length:Int):=oD
        obtain ⟨ad248,e248,hx248_0⟩:=Kd.at_int HR0.out x4_1 p248 q248
        cases e248
        replace hx248_0:=(HB.out.cell (World.block_lt_of_cell? w _ hx248_0)).trans hx248_0
        replace p248:=eq_true p248
        replace q248:=eq_true q248
        have p9:0≤(x4_1:Int):=oD
        have q9:(x4_1:Int) < ((x3_1.length:Int):Int):=oD
        obtain ⟨go9,co9,eo9,gb9,gl9,cl9,HG9⟩:=Kd.R_form HO_3.out (by omega)
        (first|cases eo9|(injection eo9 with ea_ en_ ec_;(first|subst ea_|(injection ea_ with ea_;subst ea_));subst ec_;clear en_))
        have GB9:=Aside0.mk gb9
        have GG9:=Aside0.mk HG9
        clear gb9 gl9 HG9
        obtain ⟨hx9_0,hf9_0⟩:=Kd.R_celln 0 HO_3.out (x4_1:Int) p9 q9
        replace p9:=eq_true p9
        replace q9:=eq_true q9
        have HP10:=Kd.R_putg HO_3.out (x4_1:Int) (rd l0 x4_1)
        go_wp2_with (first|((with_reducible refine gate_store (t:=3) (p:=20) rfl ?_);refine store_event (t:=3) (p:=20) (v:=?vo_w11) (w1:=(wr.setCell ⟨go9,(x4_1:Int).toNat,none⟩ (.int .i64 (rd l0 x4_1)))) ?hg ?ho ?hn ?hr ?_;(case ho=>rfl);(case hg=>rfl);(case hn=>rfl);(case hr=>first|(go_simp;done)|(go_simp;rfl));intro w11 hw;have hg:wr.grownBy w11 (some go9):=(by rw [hw];exact HP10.2);have hp_:Kd.R (Kd.int .i64) 3 w11 w.heap.size (fun _=>True) (.slice (some ⟨go9,0,none⟩) x3_1.length co9) y249:=(by rw [hw,Ny249.out];exact HP10.1);clear HP10;replace HO_3:=Aside0.mk hp_;replace HB:=Aside0.mk ((by rw [hw];exact below_set (HB.out) GB9.out:Below w.heap.size w w11));clear hg hw hp_))
        go_roundg k1
        case measure=>have:=HK1.out;omega
        case rel=>exact ⟨(y249),(wrap64 (x4_1+1)),fS,H',⟨by have:=HK1.out;omega⟩,⟨rS HO_3⟩,⟨bH⟩⟩
       ·rw [if_neg c8] at H
        exact absurd H (by simp)
      ·rw [if_neg c7] at H
       exact absurd H (by simp)
     ·rw [if_neg c6] at H
      have c6b0:decide (x4_1 < (l0.length:Int))=false:=decide_eq_false c6
      clear c6
      obtain rfl:=sI H
      go_wp2
      go_ret
      exact ⟨_,fE,rS HO_3,bH⟩
  ·rw [if_neg c3] at H
   exact absurd H (by simp)
 ·rw [if_neg c2] at H
  exact absurd H (by simp)
end Go.Proofs.Ytjpfhldklbgdcaa.Ld
