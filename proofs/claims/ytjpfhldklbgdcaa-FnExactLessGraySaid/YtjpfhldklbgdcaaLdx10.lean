import Derived.Test.YtjpfhldklbgdcaaLdx0
import Derived.Test.YtjpfhldklbgdcaaLdx9
set_option maxHeartbeats 8000000
set_option maxRecDepth 100000
namespace Go.Proofs.Ytjpfhldklbgdcaa.Ld
open Go.RowKit Go.Proofs.Ytjpfhldklbgdcaa.Sq Go.Proofs.YtjpfhldklbgdcaaW.PrintWords Go.Proofs.YtjpfhldklbgdcaaW.PrintLast Go.Proofs.YtjpfhldklbgdcaaW.PrintMore
attribute [local go_sem] max2_int min2_int max_two min_two max_three min_three max_four min_four   -- for this text's walks alone
set_option linter.unusedVariables false
set_option linter.unusedSimpArgs false
def laws_toRaster.f (k:Nat) (a0_0:Int) (a0_1:Int) (a0_2:Int) (a0_3:Int) (l0_4:List Int):Option (Int×Int×Int×Int×List Int):=(laws_toIntS.f k l0_4).bind fun t253=>(some (a0_0,a0_1,a0_2,a0_3,t253))
theorem laws_toRaster.mono:∀ a0 a1 a2 a3 a4 k,LeO (laws_toRaster.f k a0 a1 a2 a3 a4) (laws_toRaster.f (k+1) a0 a1 a2 a3 a4):=by
 intro a0 a1 a2 a3 a4 k
 unfold laws_toRaster.f
 repeat' first
   | (with_reducible exact laws_toIntS.mono _ _)
   | (with_reducible exact LeO.refl _)
   | (with_reducible exact LeO.none _)
   | (with_reducible refine LeO.ite ?_ ?_)
   | (with_reducible refine LeO.bind ?_ (fun _=>?_))
   | exact laws_toIntS.mono _ _
   | exact LeO.none _
   | refine LeO.ite ?_ ?_
   | refine LeO.bind ?_ (fun _=>?_)
theorem laws_toRaster.calls (k:Nat) (a0_0:Int) (a0_1:Int) (a0_2:Int) (a0_3:Int) (A0_4:Option Addr) (c0_4:Nat) (l0_4:List Int) (r1:Int) (r2:Int) (r3:Int) (r4:Int) (r5:List Int) (w:World) (hr0_4:Kd.C (Kd.int .i64) w A0_4 l0_4.length l0_4) (hc0_4:l0_4.length≤c0_4) (h:laws_toRaster.f k a0_0 a0_1 a0_2 a0_3 l0_4=some (r1,r2,r3,r4,r5)):
  Calls Try.prog 43 #[.agg #[.int .i64 a0_0,.int .i64 a0_1,.int .i64 a0_2,.int .i64 a0_3,.slice A0_4 l0_4.length c0_4]] w fun e w'=>∃ v4_:Value,e=.returned (.agg #[.int .i64 r1,.int .i64 r2,.int .i64 r3,.int .i64 r4,v4_])∧Kd.R (Kd.int .i64) 3 w' w.heap.size (fun _=>True) v4_ r5∧Below w.heap.size w w':=by
 have hu27:=Try.underlying27
 have hu34:=Try.underlying34
 have HR0_4:=Aside0.mk hr0_4
 have HC0_4:=Aside0.mk hc0_4
 clear hr0_4 hc0_4
 have HB:=Aside0.mk (Below.refl w.heap.size w)
 have H:((laws_toIntS.f k l0_4).bind fun t253=>(some (a0_0,a0_1,a0_2,a0_3,t253)))=some (r1,r2,r3,r4,r5):=h
 clear h
 replace H:=Option.bind_eq_some_iff.mp H
 obtain ⟨t253,A20,H⟩:=H
 replace H:(some (a0_0,a0_1,a0_2,a0_3,t253))=some (r1,r2,r3,r4,r5):=H
 have A2:=Aside0.mk A20
 clear A20
 simp only [Option.some.injEq,Prod.mk.injEq] at H
 obtain ⟨rfl,rfl,rfl,rfl,rfl⟩:=H
 go_enter Try.func43,Try.ntmps43
 go_wp2_with (first|((with_reducible refine gate_dst (N:=1) rfl ?_);refine boxE 1 (#[.int .i64 a0_0,.int .i64 a0_1,.int .i64 a0_2,.int .i64 a0_3,.slice A0_4 l0_4.length c0_4]) 27 ?_;intro gb250 hg w3 hbox hb;have BK250:=Aside0.mk hbox;have GW250:=(gwH (w:=w) hg);have GE250:=(gwH (w:=w) hg);replace HB:=Aside0.mk (below_step bH hb);clear hb hbox hg)|((with_reducible refine gate_dst (N:=2) rfl ?_);refine boxE 2 (#[.int .i64 0,.int .i64 0,.int .i64 0,.int .i64 0,.slice none 0 0]) 34 ?_;intro gb251 hg w4 hbox hb;have n0_:=Aside0.mk (bkb BK250 hb);have n1_:=Aside0.mk (below_step bG hb);have n2_:=Aside0.mk hbox;have n3_:=(gwG (w:=w) hg);have n4_:=(gwG (w:=w) hg);have n5_:=(nbl BK250 hg);have n6_:=(nbg BK250 hg);clear BK250;clear HB;have BK250:=n0_;have HB:=n1_;have BK251:=n2_;have GW251:=n3_;have GE251:=n4_;have NB250_251:=n5_;have NB251_250:=n6_;clear n0_ n1_ n2_ n3_ n4_ n5_ n6_;clear hb hbox hg)|((with_reducible refine gate_dst (N:=3) rfl ?_);refine boxE 3 (#[.int .i64 0,.int .i64 0,.int .i64 0,.int .i64 0,.slice none 0 0]) 34 ?_;intro gb252 hg w5 hbox hb;have n0_:=Aside0.mk (bkb BK250 hb);have n1_:=Aside0.mk (bkb BK251 hb);have n2_:=Aside0.mk (below_step bG hb);have n3_:=Aside0.mk hbox;have n4_:=(gwG (w:=w) hg);have n5_:=(gwG (w:=w) hg);have n6_:=(nbl BK250 hg);have n7_:=(nbg BK250 hg);have n8_:=(nbl BK251 hg);have n9_:=(nbg BK251 hg);clear BK250;clear BK251;clear HB;have BK250:=n0_;have BK251:=n1_;have HB:=n2_;have BK252:=n3_;have GW252:=n4_;have GE252:=n5_;have NB250_252:=n6_;have NB252_250:=n7_;have NB251_252:=n8_;have NB252_251:=n9_;clear n0_ n1_ n2_ n3_ n4_ n5_ n6_ n7_ n8_ n9_;clear hb hbox hg;have hnb6:=NB250_251.out;have hnc6:=NB251_250.out;have hnb7:=NB250_252.out;have hnc7:=NB252_250.out;obtain ⟨z8_0,z8_1,z8_2,z8_3,z8_4,y8_0,y8_1,y8_2,y8_3,y8_4⟩:=blk5f BK250;have hnb9:=NB252_251.out;have hnc9:=NB251_252.out;obtain ⟨z10_0,z10_1,z10_2,z10_3,z10_4,y10_0,y10_1,y10_2,y10_3,y10_4⟩:=blk5f BK252)|((with_reducible refine gate_callee (f:=42) rfl ?_);refine gL (some 18) Try.func42 #[.slice A0_4 l0_4.length c0_4] ?_;(with_reducible refine (laws_toIntS.calls k _ _ l0_4 t253 _ ?side1 HC0_4.out A2.out).mono ?_);(case side1=>exact Kd.C_below HR0_4.out bG);rintro e w11 ⟨v254,rfl,ho0,hb⟩;refine ⟨_,rfl,?_⟩;have HO255:=Aside0.mk (Kd.R_lower ho0 (below_size bG));replace BK250:=Aside0.mk (bfb BK250 hb);replace BK251:=Aside0.mk (bfb BK251 hb);replace BK252:=Aside0.mk (blk_below (g:=gb252) (o:=.cells #[.int .i64 a0_0,.int .i64 a0_1,.int .i64 a0_2,.int .i64 a0_3,.slice none 0 0] 34 (0,0)) (by refine bP (cs:=?_) ?_ 3 ?_;rotate_left;refine bP (cs:=?_) ?_ 2 ?_;rotate_left;refine bP (cs:=?_) ?_ 1 ?_;rotate_left;refine bP (cs:=?_) ?_ 0 ?_;rotate_left;exact BK252.out;all_goals ((try simp only [sA,sZ,sC]);first|done|rfl)) hb);replace HB:=Aside0.mk (below_step bG hb);(try clear hb);(try clear ho0);obtain ⟨Ao12,co12,eo12⟩:=Kd.R_slice HO255.out;subst eo12;obtain ⟨z13_0,z13_1,z13_2,z13_3,z13_4,y13_0,y13_1,y13_2,y13_3,y13_4⟩:=blk5f BK252;obtain ⟨z14_0,z14_1,z14_2,z14_3,z14_4,y14_0,y14_1,y14_2,y14_3,y14_4⟩:=blk5f BK251))
 refine bodyPost_ret (results_cell_row rfl _ _ gb251 34 #[.int .i64 a0_0,.int .i64 a0_1,.int .i64 a0_2,.int .i64 a0_3,.slice Ao12 t253.length co12] (0,0) _ rfl (by refine bP (cs:=?_) ?_ 4 ?_;rotate_left;refine bP (cs:=?_) ?_ 3 ?_;rotate_left;refine bP (cs:=?_) ?_ 2 ?_;rotate_left;refine bP (cs:=?_) ?_ 1 ?_;rotate_left;refine bP (cs:=?_) ?_ 0 ?_;rotate_left;refine blk_far ?_ NB251_252.out _;(with_reducible repeat (first|refine blk_drewN ?_ _|refine blk_drew ?_|refine blk_alloc ?_ _));exact BK251.out;all_goals ((try simp only [sA,sZ,sC]);first|done|rfl)) Try.underlying34 rfl (by kernel_rfl)) rfl ?_
 exact ⟨_,fE,by (with_reducible repeat (first|apply Kd.R_alloc|apply Kd.R_drewN|apply Kd.R_drew));exact Kd.R_mono (rf (rf (rf (rf (rf (rg (Kd.R_types (Kd.R_types HO255.out BK252.out (by decide)) BK251.out (by decide)))))))) (fun _ hk=>trivial),bG⟩
def laws_toChunk.f (a0_0:ByteArray) (a0_1:ByteArray):Option (ByteArray×ByteArray):=some (a0_0,a0_1)
theorem laws_toChunk.calls (a0_0:ByteArray) (a0_1:ByteArray) (r1:ByteArray) (r2:ByteArray) (w:World) (h:laws_toChunk.f a0_0 a0_1=some (r1,r2)):
  Calls Try.prog 90 #[.agg #[.string a0_0,.string a0_1]] w fun e w'=>e=.returned (.agg #[.string r1,.string r2])∧Below w.heap.size w w':=by
 have hu98:=Try.underlying98
 have hu83:=Try.underlying83
 have HB:=Aside0.mk (Below.refl w.heap.size w)
 have H:(some (a0_0,a0_1))=some (r1,r2):=h
 clear h
 simp only [Option.some.injEq,Prod.mk.injEq] at H
 obtain ⟨rfl,rfl⟩:=H
 go_enter Try.func90,Try.ntmps90
 go_wp2_with (first|((with_reducible refine gate_dst (N:=1) rfl ?_);refine boxE 1 (#[.string a0_0,.string a0_1]) 98 ?_;intro gb256 hg w2 hbox hb;have BK256:=Aside0.mk hbox;have GW256:=(gwH (w:=w) hg);have GE256:=(gwH (w:=w) hg);replace HB:=Aside0.mk (below_step bH hb);clear hb hbox hg)|((with_reducible refine gate_dst (N:=2) rfl ?_);refine boxE 2 (#[.string (⟨#[]⟩:ByteArray),.string (⟨#[]⟩:ByteArray)]) 83 ?_;intro gb257 hg w3 hbox hb;have n0_:=Aside0.mk (bkb BK256 hb);have n1_:=Aside0.mk (below_step bG hb);have n2_:=Aside0.mk hbox;have n3_:=(gwG (w:=w) hg);have n4_:=(gwG (w:=w) hg);have n5_:=(nbl BK256 hg);have n6_:=(nbg BK256 hg);clear BK256;clear HB;have BK256:=n0_;have HB:=n1_;have BK257:=n2_;have GW257:=n3_;have GE257:=n4_;have NB256_257:=n5_;have NB257_256:=n6_;clear n0_ n1_ n2_ n3_ n4_ n5_ n6_;clear hb hbox hg)|((with_reducible refine gate_dst (N:=3) rfl ?_);refine boxE 3 (#[.string (⟨#[]⟩:ByteArray),.string (⟨#[]⟩:ByteArray)]) 83 ?_;intro gb258 hg w4 hbox hb;have n0_:=Aside0.mk (bkb BK256 hb);have n1_:=Aside0.mk (bkb BK257 hb);have n2_:=Aside0.mk (below_step bG hb);have n3_:=Aside0.mk hbox;have n4_:=(gwG (w:=w) hg);have n5_:=(gwG (w:=w) hg);have n6_:=(nbl BK256 hg);have n7_:=(nbg BK256 hg);have n8_:=(nbl BK257 hg);have n9_:=(nbg BK257 hg);clear BK256;clear BK257;clear HB;have BK256:=n0_;have BK257:=n1_;have HB:=n2_;have BK258:=n3_;have GW258:=n4_;have GE258:=n5_;have NB256_258:=n6_;have NB258_256:=n7_;have NB257_258:=n8_;have NB258_257:=n9_;clear n0_ n1_ n2_ n3_ n4_ n5_ n6_ n7_ n8_ n9_;clear hb hbox hg;have hnb5:=NB256_257.out;have hnc5:=NB257_256.out;have hnb6:=NB256_258.out;have hnc6:=NB258_256.out;obtain ⟨z7_0,z7_1,y7_0,y7_1⟩:=blk2f BK256;have hnb8:=NB258_257.out;have hnc8:=NB257_258.out;obtain ⟨z9_0,z9_1,y9_0,y9_1⟩:=blk2f BK258;obtain ⟨z10_0,z10_1,y10_0,y10_1⟩:=blk2f BK257))
 refine bodyPost_ret (results_cell_row rfl _ _ gb257 83 #[.string a0_0,.string a0_1] (0,0) _ rfl (by refine bP (cs:=?_) ?_ 1 ?_;rotate_left;refine bP (cs:=?_) ?_ 0 ?_;rotate_left;refine blk_far ?_ NB257_258.out _;refine blk_far ?_ NB257_258.out _;(with_reducible repeat (first|refine blk_drewN ?_ _|refine blk_drew ?_|refine blk_alloc ?_ _));exact BK257.out;all_goals ((try simp only [sA,sZ,sC]);first|done|rfl)) Try.underlying83 rfl (by kernel_rfl)) rfl ?_
 exact ⟨fE,bG⟩
def laws_toChunkS.l0:Nat→List (S98)→List (S83)→Int→Option ((List (S83)))
 | 0,_,_,_=>none
 | k+1,x0,x3,x4=>if x4 < (x0.length:Int) then (if 0≤x4 then ((laws_toChunk.f ((rd_T98 x0 x4).f0) ((rd_T98 x0 x4).f1)).bind fun bt263=>(if x4 < (x3.length:Int) then (laws_toChunkS.l0 k x0 (x3.set (x4:Int).toNat (⟨bt263.1,bt263.2⟩:S83)) (wrap64 (x4+1))) else (none))) else (none)) else (some x3)
def laws_toChunkS.f (k:Nat) (l0:List (S98)):Option ((List (S83))):=if 0≤(l0.length:Int) then (if ((l0.length:Int):Int).toNat≤8796093022208 then (laws_toChunkS.l0 k l0 (List.replicate ((l0.length:Int):Int).toNat z83) 0) else (none)) else (none)
theorem laws_toChunkS.mono_l:∀ k,(∀ y0 y1 y2,LeO (laws_toChunkS.l0 k y0 y1 y2) (laws_toChunkS.l0 (k+1) y0 y1 y2))
 | 0=>fun _ _ _ r h=>by simp [laws_toChunkS.l0] at h
 | k+1=>by
  have ih0:=laws_toChunkS.mono_l k
  ·intro y0 y1 y2
   unfold laws_toChunkS.l0
   repeat' first
   | (with_reducible exact ih0 _ _ _)
   | (with_reducible exact LeO.refl _)
   | (with_reducible exact LeO.none _)
   | (with_reducible refine LeO.ite ?_ ?_)
   | (with_reducible refine LeO.bind ?_ (fun _=>?_))
   | exact ih0 _ _ _
   | exact LeO.none _
   | refine LeO.ite ?_ ?_
   | refine LeO.bind ?_ (fun _=>?_)
theorem laws_toChunkS.mono:∀ a0 k,LeO (laws_toChunkS.f k a0) (laws_toChunkS.f (k+1) a0):=by
 intro a0 k
 have ih0:=laws_toChunkS.mono_l k
 unfold laws_toChunkS.f
 repeat' first
   | (with_reducible exact ih0 _ _ _)
   | (with_reducible exact LeO.refl _)
   | (with_reducible exact LeO.none _)
   | (with_reducible refine LeO.ite ?_ ?_)
   | (with_reducible refine LeO.bind ?_ (fun _=>?_))
   | exact ih0 _ _ _
   | exact LeO.none _
   | refine LeO.ite ?_ ?_
   | refine LeO.bind ?_ (fun _=>?_)
theorem laws_toChunkS.calls (k:Nat) (A0:Option Addr) (c0:Nat) (l0:List (S98)) (r:List (S83)) (w:World) (hr0:Kd.C k98 w A0 l0.length l0) (hc0:l0.length≤c0) (h:laws_toChunkS.f k l0=some r):
  Calls Try.prog 44 #[.slice A0 l0.length c0] w fun e w'=>∃ v0_:Value,e=.returned (v0_)∧Kd.R k83 83 w' w.heap.size (fun _=>True) v0_ r∧Below w.heap.size w w':=by
 have hu98:=Try.underlying98
 have hu83:=Try.underlying83
 have HR0:=Aside0.mk hr0
 have HC0:=Aside0.mk hc0
 clear hr0 hc0
 have HB:=Aside0.mk (Below.refl w.heap.size w)
 have H:=h
 clear h
 unfold laws_toChunkS.f at H
 by_cases c2:0≤(l0.length:Int)
 ·rw [if_pos c2] at H
  have c2b0:=eq_true c2
  have c2b1:decide (0≤(l0.length:Int))=true:=decide_eq_true c2
  clear c2
  by_cases c3:((l0.length:Int):Int).toNat≤8796093022208
  ·rw [if_pos c3] at H
   have c3b0:=eq_true c3
   have c3b1:decide (((l0.length:Int):Int).toNat≤8796093022208)=true:=decide_eq_true c3
   clear c3
   obtain ⟨y259,hy259⟩:∃ y_:List (S83),y_=(List.replicate ((l0.length:Int):Int).toNat z83):=⟨_,rfl⟩
   replace H:(laws_toChunkS.l0 k l0 y259 0)=some r:=by first|(rw [hy259];with_reducible exact H)|(have H2_:=(Option.bind_some _ _).symm.trans H;rw [hy259];with_reducible exact H2_)|(have H2_:=(Option.bind_some _ _).symm.trans H;with_reducible exact H2_)|with_reducible exact H|(rw [hy259];exact H)|exact H
   have Ny259:=Aside0.mk hy259
   clear hy259
   have H':=Aside0.mk H
   clear H
   go_enter Try.func44,Try.ntmps44
   go_wp2_with (first|((with_reducible refine gate_dst (N:=7) rfl ?_);refine Kd.R_make k83 _ 83 rfl (N:=7) rfl 35 _ _ rfl (l0.length:Int) rfl rfl Try.underlying35 (.agg #[(.string ⟨#[]⟩),(.string ⟨#[]⟩)]) 32 info83 rfl (by decide) (by omega) z83 (ok:=fun _=>True) (okp:=fun _=>True) (k83_mkM _ _ _ z83 ) (fun _ hk=>hk) trivial (oD) (Nat.le_trans (Nat.mul_le_mul_right _ (oD:(l0.length:Int).toNat≤8796093022208)) (by omega)) (Below.refl _ _) (Nat.le_refl _) ?_;intro v260 w4 ho5 hb hg_ hnew_;clear hg_ hnew_;(first|rw [← Ny259.out] at ho5|(simp only [Int.reduceToNat] at ho5;rw [← Ny259.out] at ho5));have HO261:=Aside0.mk (Kd.R_lower ho5 (below_size bH));replace HB:=Aside0.mk (below_step bH hb);clear hb ho5))
   go_loopg [4] k (fun kq v4 w'=>∃ (x3_1:List (S83)) (x4_1:Int),v4=.int .i64 x4_1∧Aside0 (laws_toChunkS.l0 kq l0 x3_1 x4_1=some r)∧Aside0 (kq≤k)∧Aside0 (Kd.R k83 83 w' w.heap.size (fun _=>True) v260 x3_1)∧Aside0 (Below w.heap.size w w'))
   case atStart=>exact ⟨(y259),(0),fS,H',⟨Nat.le_refl _⟩,⟨rS HO261⟩,⟨bH⟩⟩
   case round =>
    clear H'
    clear c2b0 c2b1 c3b0 c3b1
    obtain ⟨x3_1,x4_1,rfl,HA,HK1,HO_3,HB⟩:=hrel
    cases gk with
    | zero=>exact absurd HA.out (by simp [laws_toChunkS.l0])
    | succ k1 =>
     have H:=HA.out
     clear HA
     simp only [laws_toChunkS.l0] at H
     by_cases c6:x4_1 < (l0.length:Int)
     ·rw [if_pos c6] at H
      have c6b0:decide (x4_1 < (l0.length:Int))=true:=decide_eq_true c6
      clear c6
      by_cases c7:0≤x4_1
      ·rw [if_pos c7] at H
       have c7b0:decide (0≤x4_1)=true:=decide_eq_true c7
       clear c7
       replace H:=Option.bind_eq_some_iff.mp H
       obtain ⟨⟨t263,t264⟩,A80,H⟩:=H
       try dsimp only at H
       have A8:=Aside0.mk A80
       clear A80
       by_cases c9:x4_1 < (x3_1.length:Int)
       ·rw [if_pos c9] at H
        have c9b0:decide (x4_1 < (x3_1.length:Int))=true:=decide_eq_true c9
        clear c9
        obtain ⟨y265,hy265⟩:∃ y_:List (S83),y_=(x3_1.set (x4_1:Int).toNat (⟨t263,t264⟩:S83)):=⟨_,rfl⟩
        replace H:(laws_toChunkS.l0 k1 l0 y265 (wrap64 (x4_1+1)))=some r:=by first|(rw [hy265];with_reducible exact H)|(have H2_:=(Option.bind_some _ _).symm.trans H;rw [hy265];with_reducible exact H2_)|(have H2_:=(Option.bind_some _ _).symm.trans H;with_reducible exact H2_)|with_reducible exact H|(rw [hy265];exact H)|exact H
        have Ny265:=Aside0.mk hy265
        clear hy265
        have H':=Aside0.mk H
        clear H
        have p262:0≤(x4_1:Int):=oD
        have q262:x4_1 < (l0.length:Int):=oD
        obtain ⟨ad262,e262,hx262_0,hx262_1⟩:=at_T98 HR0.out x4_1 p262 q262
        cases e262
        replace hx262_0:=(HB.out.cell (World.block_lt_of_cell? w _ hx262_0)).trans hx262_0
        replace hx262_1:=(HB.out.cell (World.block_lt_of_cell? w _ hx262_1)).trans hx262_1
        replace p262:=eq_true p262
        replace q262:=eq_true q262
        go_wp2_with (first|((with_reducible refine gate_callee (f:=90) rfl ?_);refine gL (some 20) Try.func90 #[.agg #[.string ((rd_T98 l0 x4_1).f0),.string ((rd_T98 l0 x4_1).f1)]] ?_;(with_reducible refine (laws_toChunk.calls ((rd_T98 l0 x4_1).f0) ((rd_T98 l0 x4_1).f1) t263 t264 _ A8.out).mono ?_);rintro e w11 ⟨rfl,hb⟩;refine ⟨_,rfl,?_⟩;replace HO_3:=Aside0.mk (Kd.R_below (rS HO_3) hb);replace HB:=Aside0.mk (below_step bH hb);(try clear hb);have p10:0≤(x4_1:Int):=oD;have q10:(x4_1:Int) < ((x3_1.length:Int):Int):=oD;obtain ⟨go10,co10,eo10,gb10,gl10,cl10,HG10⟩:=Kd.R_form HO_3.out (by omega);(first|cases eo10|(injection eo10 with ea_ en_ ec_;(first|subst ea_|(injection ea_ with ea_;subst ea_));subst ec_;clear en_));have GB10:=Aside0.mk gb10;have GG10:=Aside0.mk HG10;clear gb10 gl10 HG10;obtain ⟨ce10,hcl10,hM10,hcc10,hfr10⟩:=Kd.R_elem HO_3.out z83 (x4_1:Int) p10 q10;obtain rfl:=k83_openM hM10;have hx10_0:w11.cell? ⟨go10,(x4_1:Int).toNat * 2,none⟩=some (.string ((rd_T83 x3_1 x4_1).f0)):=hcc10 0 _ rfl;have hx10_1:w11.cell? ⟨go10,(x4_1:Int).toNat * 2+1,none⟩=some (.string ((rd_T83 x3_1 x4_1).f1)):=hcc10 1 _ rfl;have hf10_0:w11.frozen? ⟨go10,(x4_1:Int).toNat * 2,none⟩=false:=hfr10 0;have hf10_1:w11.frozen? ⟨go10,(x4_1:Int).toNat * 2+1,none⟩=false:=hfr10 1;clear hcl10 hcc10 hfr10 hM10;replace p10:=eq_true p10;replace q10:=eq_true q10;have HX12:=Aside0.mk (show Kd.R k83 83 w11 w.heap.size (fun _=>True) (.slice (some ⟨go10,0,none⟩) x3_1.length co10) x3_1 from (rS HO_3));obtain ⟨ce12,hcl12,hM12,hcc12,hfr12⟩:=Kd.R_elem HX12.out z83 (x4_1:Int) (oD) (by have h_:(x4_1:Int) < ((x3_1.length:Int):Int):=oD;first|exact h_|(have e_:=(Kd.R_reads' HO_3.out).1;omega)|simpa using h_);obtain rfl:=k83_openM hM12;have HP12:=Kd.R_seg HX12.out (x4_1:Int) (oD) (by have h_:(x4_1:Int) < ((x3_1.length:Int):Int):=oD;first|exact h_|(have e_:=(Kd.R_reads' HO_3.out).1;omega)|simpa using h_) (seg:=[.string t263,.string t264]) (j:=0) hcl12 hcc12 (show 2≤2 from by decide) (x':=(⟨t263,t264⟩:S83)) (k83_mkM _ _ _ (⟨t263,t264⟩:S83) ) (fun _ hk=>hk);have hx12_0:=hcc12 0 _ rfl;(try simp only [show (k83).sz=2 from rfl,Nat.mul_one,Nat.add_zero] at hx12_0);have hf12_0:=hfr12 0;(try simp only [show (k83).sz=2 from rfl,Nat.mul_one,Nat.add_zero] at hf12_0);have hx12_1:=hcc12 1 _ rfl;(try simp only [show (k83).sz=2 from rfl,Nat.mul_one,Nat.add_zero] at hx12_1);have hf12_1:=hfr12 1;(try simp only [show (k83).sz=2 from rfl,Nat.mul_one,Nat.add_zero] at hf12_1);clear hcl12 hcc12 hfr12 hM12)|((with_reducible refine gate_store (t:=83) (p:=21) rfl ?_);refine store_event (t:=83) (p:=21) (v:=?vo_w13) (w1:=((w11.setCell ⟨go10,(x4_1:Int).toNat * 2,none⟩ (.string t263)).setCell ⟨go10,(x4_1:Int).toNat * 2+1,none⟩ (.string t264))) ?hg ?ho ?hn ?hr ?_;(case ho=>rfl);(case hg=>rfl);(case hn=>rfl);(case hr=>first|(go_simp;done)|(go_simp;rfl));intro w13 hw;have hg:w11.grownBy w13 (some go10):=(by rw [hw];exact HP12.2);have hp_:Kd.R k83 83 w13 w.heap.size (fun _=>True) (.slice (some ⟨go10,0,none⟩) x3_1.length co10) y265:=(by rw [hw,Ny265.out];exact HP12.1);clear HP12;replace HO_3:=Aside0.mk hp_;replace HB:=Aside0.mk ((by rw [hw];exact below_set (below_set (HB.out) GB10.out) GB10.out:Below w.heap.size w w13));clear hg hw hp_))
        go_roundg k1
        case measure=>have:=HK1.out;omega
        case rel=>exact ⟨(y265),(wrap64 (x4_1+1)),fS,H',⟨by have:=HK1.out;omega⟩,⟨rS HO_3⟩,⟨bH⟩⟩
       ·rw [if_neg c9] at H
        exact absurd H (by simp)
      ·rw [if_neg c7] at H
       exact absurd H (by simp)
     ·rw [if_neg c6] at H
      have c6b0:decide (x4_1 < (l0.length:Int))=false:=decide_eq_false c6
      clear c6
      obtain rfl:=sI H
      go_wp2
      go_ret
      exact ⟨_,fE,rS HO_3,bH⟩
  ·rw [if_neg c3] at H
   exact absurd H (by simp)
 ·rw [if_neg c2] at H
  exact absurd H (by simp)
def laws_toPng.f (k:Nat) (a0_0:Int) (a0_1:Int) (a0_2:Int) (a0_3:Int) (a0_4:Bool) (l0_5:List (S106)) (l0_6:List Int) (a0_7:Int) (a0_8:Int) (a0_9:Int) (a0_10:Int) (l0_11:List Int) (l0_12:List (S98)):Option (Int×Int×Int×Int×Bool×(List (S95))×List Int×Int×Int×Int×Int×List Int×(List (S83))):=(laws_toHead.f a0_0 a0_1 a0_2 a0_3 a0_4).bind fun bt269=>((laws_toRgbS.f k l0_5).bind fun t274=>((laws_toIntS.f k l0_6).bind fun t277=>((laws_toRaster.f k a0_7 a0_8 a0_9 a0_10 l0_11).bind fun bt280=>((laws_toChunkS.f k l0_12).bind fun t287=>(some (bt269.1,bt269.2.1,bt269.2.2.1,bt269.2.2.2.1,bt269.2.2.2.2,t274,t277,bt280.1,bt280.2.1,bt280.2.2.1,bt280.2.2.2.1,bt280.2.2.2.2,t287))))))
theorem laws_toPng.mono:∀ a0 a1 a2 a3 a4 a5 a6 a7 a8 a9 a10 a11 a12 k,LeO (laws_toPng.f k a0 a1 a2 a3 a4 a5 a6 a7 a8 a9 a10 a11 a12) (laws_toPng.f (k+1) a0 a1 a2 a3 a4 a5 a6 a7 a8 a9 a10 a11 a12):=by
 intro a0 a1 a2 a3 a4 a5 a6 a7 a8 a9 a10 a11 a12 k
 unfold laws_toPng.f
 repeat' first
   | (with_reducible exact laws_toChunkS.mono _ _)
   | (with_reducible exact laws_toIntS.mono _ _)
   | (with_reducible exact laws_toRaster.mono _ _ _ _ _ _)
   | (with_reducible exact laws_toRgbS.mono _ _)
   | (with_reducible exact LeO.refl _)
   | (with_reducible exact LeO.none _)
   | (with_reducible refine LeO.ite ?_ ?_)
   | (with_reducible refine LeO.bind ?_ (fun _=>?_))
   | exact laws_toChunkS.mono _ _
   | exact laws_toIntS.mono _ _
   | exact laws_toRaster.mono _ _ _ _ _ _
   | exact laws_toRgbS.mono _ _
   | exact LeO.none _
   | refine LeO.ite ?_ ?_
   | refine LeO.bind ?_ (fun _=>?_)
theorem laws_toPng.calls (k:Nat) (a0_0:Int) (a0_1:Int) (a0_2:Int) (a0_3:Int) (a0_4:Bool) (A0_5:Option Addr) (c0_5:Nat) (l0_5:List (S106)) (A0_6:Option Addr) (c0_6:Nat) (l0_6:List Int) (a0_7:Int) (a0_8:Int) (a0_9:Int) (a0_10:Int) (A0_11:Option Addr) (c0_11:Nat) (l0_11:List Int) (A0_12:Option Addr) (c0_12:Nat) (l0_12:List (S98)) (r1:Int) (r2:Int) (r3:Int) (r4:Int) (r5:Bool) (r6:List (S95)) (r7:List Int) (r8:Int) (r9:Int) (r10:Int) (r11:Int) (r12:List Int) (r13:List (S83)) (w:World) (hr0_5:Kd.C k106 w A0_5 l0_5.length l0_5) (hc0_5:l0_5.length≤c0_5) (hr0_6:Kd.C (Kd.int .i64) w A0_6 l0_6.length l0_6) (hc0_6:l0_6.length≤c0_6) (hr0_11:Kd.C (Kd.int .i64) w A0_11 l0_11.length l0_11) (hc0_11:l0_11.length≤c0_11) (hr0_12:Kd.C k98 w A0_12 l0_12.length l0_12) (hc0_12:l0_12.length≤c0_12) (h:laws_toPng.f k a0_0 a0_1 a0_2 a0_3 a0_4 l0_5 l0_6 a0_7 a0_8 a0_9 a0_10 l0_11 l0_12=some (r1,r2,r3,r4,r5,r6,r7,r8,r9,r10,r11,r12,r13)):
  Calls Try.prog 11 #[.agg #[.int .i64 a0_0,.int .i64 a0_1,.int .i64 a0_2,.int .i64 a0_3,.bool a0_4,.slice A0_5 l0_5.length c0_5,.slice A0_6 l0_6.length c0_6,.int .i64 a0_7,.int .i64 a0_8,.int .i64 a0_9,.int .i64 a0_10,.slice A0_11 l0_11.length c0_11,.slice A0_12 l0_12.length c0_12]] w fun e w'=>∃ v5_ v6_ v11_ v12_:Value,e=.returned (.agg #[.int .i64 r1,.int .i64 r2,.int .i64 r3,.int .i64 r4,.bool r5,v5_,v6_,.int .i64 r8,.int .i64 r9,.int .i64 r10,.int .i64 r11,v11_,v12_])∧Kd.R k95 95 w' w.heap.size (fun _=>True) v5_ r6∧Kd.R (Kd.int .i64) 3 w' w.heap.size (fun k_=>some k_≠(v11_:Value).ownBlock) v6_ r7∧Kd.R (Kd.int .i64) 3 w' w.heap.size (fun k_=>some k_≠(v6_:Value).ownBlock) v11_ r12∧Kd.R k83 83 w' w.heap.size (fun _=>True) v12_ r13∧Below w.heap.size w w':=by
 have hu30:=Try.underlying30
 have hu37:=Try.underlying37
 have hu23:=Try.underlying23
 have hu32:=Try.underlying32
 have hu27:=Try.underlying27
 have hu34:=Try.underlying34
 have HR0_5:=Aside0.mk hr0_5
 have HC0_5:=Aside0.mk hc0_5
 clear hr0_5 hc0_5
 have HR0_6:=Aside0.mk hr0_6
 have HC0_6:=Aside0.mk hc0_6
 clear hr0_6 hc0_6
 have HR0_11:=Aside0.mk hr0_11
 have HC0_11:=Aside0.mk hc0_11
 clear hr0_11 hc0_11
 have HR0_12:=Aside0.mk hr0_12
 have HC0_12:=Aside0.mk hc0_12
 clear hr0_12 hc0_12
 have HB:=Aside0.mk (Below.refl w.heap.size w)
 have H:((laws_toHead.f a0_0 a0_1 a0_2 a0_3 a0_4).bind fun bt269=>((laws_toRgbS.f k l0_5).bind fun t274=>((laws_toIntS.f k l0_6).bind fun t277=>((laws_toRaster.f k a0_7 a0_8 a0_9 a0_10 l0_11).bind fun bt280=>((laws_toChunkS.f k l0_12).bind fun t287=>(some (bt269.1,bt269.2.1,bt269.2.2.1,bt269.2.2.2.1,bt269.2.2.2.2,t274,t277,bt280.1,bt280.2.1,bt280.2.2.1,bt280.2.2.2.1,bt280.2.2.2.2,t287)))))))=some (r1,r2,r3,r4,r5,r6,r7,r8,r9,r10,r11,r12,r13):=h
 clear h
 replace H:=Option.bind_eq_some_iff.mp H
 obtain ⟨⟨t269,t270,t271,t272,t273⟩,A20,H⟩:=H
 replace H:((laws_toRgbS.f k l0_5).bind fun t274=>((laws_toIntS.f k l0_6).bind fun t277=>((laws_toRaster.f k a0_7 a0_8 a0_9 a0_10 l0_11).bind fun bt280=>((laws_toChunkS.f k l0_12).bind fun t287=>(some (t269,t270,t271,t272,t273,t274,t277,bt280.1,bt280.2.1,bt280.2.2.1,bt280.2.2.2.1,bt280.2.2.2.2,t287))))))=some (r1,r2,r3,r4,r5,r6,r7,r8,r9,r10,r11,r12,r13):=H
 have A2:=Aside0.mk A20
 clear A20
 replace H:=Option.bind_eq_some_iff.mp H
 obtain ⟨t274,A30,H⟩:=H
 replace H:((laws_toIntS.f k l0_6).bind fun t277=>((laws_toRaster.f k a0_7 a0_8 a0_9 a0_10 l0_11).bind fun bt280=>((laws_toChunkS.f k l0_12).bind fun t287=>(some (t269,t270,t271,t272,t273,t274,t277,bt280.1,bt280.2.1,bt280.2.2.1,bt280.2.2.2.1,bt280.2.2.2.2,t287)))))=some (r1,r2,r3,r4,r5,r6,r7,r8,r9,r10,r11,r12,r13):=H
 have A3:=Aside0.mk A30
 clear A30
 replace H:=Option.bind_eq_some_iff.mp H
 obtain ⟨t277,A40,H⟩:=H
 replace H:((laws_toRaster.f k a0_7 a0_8 a0_9 a0_10 l0_11).bind fun bt280=>((laws_toChunkS.f k l0_12).bind fun t287=>(some (t269,t270,t271,t272,t273,t274,t277,bt280.1,bt280.2.1,bt280.2.2.1,bt280.2.2.2.1,bt280.2.2.2.2,t287))))=some (r1,r2,r3,r4,r5,r6,r7,r8,r9,r10,r11,r12,r13):=H
 have A4:=Aside0.mk A40
 clear A40
 replace H:=Option.bind_eq_some_iff.mp H
 obtain ⟨⟨t280,t281,t282,t283,t284⟩,A50,H⟩:=H
 replace H:((laws_toChunkS.f k l0_12).bind fun t287=>(some (t269,t270,t271,t272,t273,t274,t277,t280,t281,t282,t283,t284,t287)))=some (r1,r2,r3,r4,r5,r6,r7,r8,r9,r10,r11,r12,r13):=H
 have A5:=Aside0.mk A50
 clear A50
 replace H:=Option.bind_eq_some_iff.mp H
 obtain ⟨t287,A60,H⟩:=H
 replace H:(some (t269,t270,t271,t272,t273,t274,t277,t280,t281,t282,t283,t284,t287))=some (r1,r2,r3,r4,r5,r6,r7,r8,r9,r10,r11,r12,r13):=H
 have A6:=Aside0.mk A60
 clear A60
 simp only [Option.some.injEq,Prod.mk.injEq] at H
 obtain ⟨rfl,rfl,rfl,rfl,rfl,rfl,rfl,rfl,rfl,rfl,rfl,rfl,rfl⟩:=H
 go_enter Try.func11,Try.ntmps11
 go_wp2_with (first|((with_reducible refine gate_dst (N:=1) rfl ?_);refine boxE 1 (#[.int .i64 a0_0,.int .i64 a0_1,.int .i64 a0_2,.int .i64 a0_3,.bool a0_4,.slice A0_5 l0_5.length c0_5,.slice A0_6 l0_6.length c0_6,.int .i64 a0_7,.int .i64 a0_8,.int .i64 a0_9,.int .i64 a0_10,.slice A0_11 l0_11.length c0_11,.slice A0_12 l0_12.length c0_12]) 30 ?_;intro gb266 hg w7 hbox hb;have BK266:=Aside0.mk hbox;have GW266:=(gwH (w:=w) hg);have GE266:=(gwH (w:=w) hg);replace HB:=Aside0.mk (below_step bH hb);clear hb hbox hg)|((with_reducible refine gate_dst (N:=2) rfl ?_);refine boxE 2 (#[.int .i64 0,.int .i64 0,.int .i64 0,.int .i64 0,.bool false,.slice none 0 0,.slice none 0 0,.int .i64 0,.int .i64 0,.int .i64 0,.int .i64 0,.slice none 0 0,.slice none 0 0]) 37 ?_;intro gb267 hg w8 hbox hb;have n0_:=Aside0.mk (bkb BK266 hb);have n1_:=Aside0.mk (below_step bG hb);have n2_:=Aside0.mk hbox;have n3_:=(gwG (w:=w) hg);have n4_:=(gwG (w:=w) hg);have n5_:=(nbl BK266 hg);have n6_:=(nbg BK266 hg);clear BK266;clear HB;have BK266:=n0_;have HB:=n1_;have BK267:=n2_;have GW267:=n3_;have GE267:=n4_;have NB266_267:=n5_;have NB267_266:=n6_;clear n0_ n1_ n2_ n3_ n4_ n5_ n6_;clear hb hbox hg)|((with_reducible refine gate_dst (N:=3) rfl ?_);refine boxE 3 (#[.int .i64 0,.int .i64 0,.int .i64 0,.int .i64 0,.bool false,.slice none 0 0,.slice none 0 0,.int .i64 0,.int .i64 0,.int .i64 0,.int .i64 0,.slice none 0 0,.slice none 0 0]) 37 ?_;intro gb268 hg w9 hbox hb;have n0_:=Aside0.mk (bkb BK266 hb);have n1_:=Aside0.mk (bkb BK267 hb);have n2_:=Aside0.mk (below_step bG hb);have n3_:=Aside0.mk hbox;have n4_:=(gwG (w:=w) hg);have n5_:=(gwG (w:=w) hg);have n6_:=(nbl BK266 hg);have n7_:=(nbg BK266 hg);have n8_:=(nbl BK267 hg);have n9_:=(nbg BK267 hg);clear BK266;clear BK267;clear HB;have BK266:=n0_;have BK267:=n1_;have HB:=n2_;have BK268:=n3_;have GW268:=n4_;have GE268:=n5_;have NB266_268:=n6_;have NB268_266:=n7_;have NB267_268:=n8_;have NB268_267:=n9_;clear n0_ n1_ n2_ n3_ n4_ n5_ n6_ n7_ n8_ n9_;clear hb hbox hg;have hnb10:=NB266_267.out;have hnc10:=NB267_266.out;have hnb11:=NB266_268.out;have hnc11:=NB268_266.out;obtain ⟨z12_0,z12_1,z12_2,z12_3,z12_4,z12_5,z12_6,z12_7,z12_8,z12_9,z12_10,z12_11,z12_12,y12_0,y12_1,y12_2,y12_3,y12_4,y12_5,y12_6,y12_7,y12_8,y12_9,y12_10,y12_11,y12_12⟩:=blk13f BK266)|((with_reducible refine gate_callee (f:=40) rfl ?_);refine gL (some 6) Try.func40 #[.agg #[.int .i64 a0_0,.int .i64 a0_1,.int .i64 a0_2,.int .i64 a0_3,.bool a0_4]] ?_;(with_reducible refine (laws_toHead.calls a0_0 a0_1 a0_2 a0_3 a0_4 t269 t270 t271 t272 t273 _ A2.out).mono ?_);rintro e w13 ⟨rfl,hb⟩;refine ⟨_,rfl,?_⟩;replace BK266:=Aside0.mk (bkb BK266 hb);replace BK267:=Aside0.mk (bkb BK267 hb);replace BK268:=Aside0.mk (bkb BK268 hb);replace HB:=Aside0.mk (below_step bG hb);(try clear hb);have hnb14:=NB268_267.out;have hnc14:=NB267_268.out;obtain ⟨z15_0,z15_1,z15_2,z15_3,z15_4,z15_5,z15_6,z15_7,z15_8,z15_9,z15_10,z15_11,z15_12,y15_0,y15_1,y15_2,y15_3,y15_4,y15_5,y15_6,y15_7,y15_8,y15_9,y15_10,y15_11,y15_12⟩:=blk13f BK268;obtain ⟨z16_0,z16_1,z16_2,z16_3,z16_4,z16_5,z16_6,z16_7,z16_8,z16_9,z16_10,z16_11,z16_12,y16_0,y16_1,y16_2,y16_3,y16_4,y16_5,y16_6,y16_7,y16_8,y16_9,y16_10,y16_11,y16_12⟩:=blk13f BK266)|((with_reducible refine gate_callee (f:=41) rfl ?_);refine gL (some 10) Try.func41 #[.slice A0_5 l0_5.length c0_5] ?_;(with_reducible refine (laws_toRgbS.calls k _ _ l0_5 t274 _ ?side1 HC0_5.out A3.out).mono ?_);(case side1=>exact Kd.C_below HR0_5.out bG);rintro e w17 ⟨v275,rfl,ho0,hb⟩;refine ⟨_,rfl,?_⟩;have HO276:=Aside0.mk (Kd.R_lower ho0 (below_size bG));replace BK266:=Aside0.mk (bfb BK266 hb);replace BK267:=Aside0.mk (bfb BK267 hb);replace BK268:=Aside0.mk (blk_below (g:=gb268) (o:=.cells #[.int .i64 t269,.int .i64 t270,.int .i64 t271,.int .i64 t272,.bool t273,.slice none 0 0,.slice none 0 0,.int .i64 0,.int .i64 0,.int .i64 0,.int .i64 0,.slice none 0 0,.slice none 0 0] 37 (0,0)) (by refine bP (cs:=?_) ?_ 4 ?_;rotate_left;refine bP (cs:=?_) ?_ 3 ?_;rotate_left;refine bP (cs:=?_) ?_ 2 ?_;rotate_left;refine bP (cs:=?_) ?_ 1 ?_;rotate_left;refine bP (cs:=?_) ?_ 0 ?_;rotate_left;exact BK268.out;all_goals ((try simp only [sA,sZ,sC]);first|done|rfl)) hb);replace HB:=Aside0.mk (below_step bG hb);(try clear hb);(try clear ho0);obtain ⟨Ao18,co18,eo18⟩:=Kd.R_slice HO276.out;subst eo18;obtain ⟨z19_0,z19_1,z19_2,z19_3,z19_4,z19_5,z19_6,z19_7,z19_8,z19_9,z19_10,z19_11,z19_12,y19_0,y19_1,y19_2,y19_3,y19_4,y19_5,y19_6,y19_7,y19_8,y19_9,y19_10,y19_11,y19_12⟩:=blk13f BK268;obtain ⟨z20_0,z20_1,z20_2,z20_3,z20_4,z20_5,z20_6,z20_7,z20_8,z20_9,z20_10,z20_11,z20_12,y20_0,y20_1,y20_2,y20_3,y20_4,y20_5,y20_6,y20_7,y20_8,y20_9,y20_10,y20_11,y20_12⟩:=blk13f BK266)|((with_reducible refine gate_callee (f:=42) rfl ?_);refine gL (some 14) Try.func42 #[.slice A0_6 l0_6.length c0_6] ?_;(with_reducible refine (laws_toIntS.calls k _ _ l0_6 t277 _ ?side1 HC0_6.out A4.out).mono ?_);(case side1=>exact Kd.C_below HR0_6.out bG);rintro e w21 ⟨v278,rfl,ho0,hb⟩;refine ⟨_,rfl,?_⟩;replace HO276:=Aside0.mk (Kd.R_below (by (with_reducible repeat (first|apply Kd.R_alloc|apply Kd.R_drewN|apply Kd.R_drew));exact (Kd.R_mono (rf (Kd.R_types HO276.out BK268.out (by decide))) (fun _ h_=>h_.1))) hb);have HO279:=Aside0.mk (Kd.R_lower ho0 (below_size bG));replace BK266:=Aside0.mk (bfb BK266 hb);replace BK267:=Aside0.mk (bfb BK267 hb);replace BK268:=Aside0.mk (blk_below (g:=gb268) (o:=.cells #[.int .i64 t269,.int .i64 t270,.int .i64 t271,.int .i64 t272,.bool t273,.slice Ao18 t274.length co18,.slice none 0 0,.int .i64 0,.int .i64 0,.int .i64 0,.int .i64 0,.slice none 0 0,.slice none 0 0] 37 (0,0)) (by refine bP (cs:=?_) ?_ 5 ?_;rotate_left;exact BK268.out;all_goals ((try simp only [sA,sZ,sC]);first|done|rfl)) hb);replace HB:=Aside0.mk (below_step bG hb);(try clear hb);(try clear ho0);obtain ⟨Ao22,co22,eo22⟩:=Kd.R_slice HO279.out;subst eo22;obtain ⟨z23_0,z23_1,z23_2,z23_3,z23_4,z23_5,z23_6,z23_7,z23_8,z23_9,z23_10,z23_11,z23_12,y23_0,y23_1,y23_2,y23_3,y23_4,y23_5,y23_6,y23_7,y23_8,y23_9,y23_10,y23_11,y23_12⟩:=blk13f BK268;obtain ⟨z24_0,z24_1,z24_2,z24_3,z24_4,z24_5,z24_6,z24_7,z24_8,z24_9,z24_10,z24_11,z24_12,y24_0,y24_1,y24_2,y24_3,y24_4,y24_5,y24_6,y24_7,y24_8,y24_9,y24_10,y24_11,y24_12⟩:=blk13f BK266)|((with_reducible refine gate_callee (f:=43) rfl ?_);refine gL (some 18) Try.func43 #[.agg #[.int .i64 a0_7,.int .i64 a0_8,.int .i64 a0_9,.int .i64 a0_10,.slice A0_11 l0_11.length c0_11]] ?_;(with_reducible refine (laws_toRaster.calls k a0_7 a0_8 a0_9 a0_10 _ _ l0_11 t280 t281 t282 t283 t284 _ ?side1 HC0_11.out A5.out).mono ?_);(case side1=>exact Kd.C_below HR0_11.out bG);rintro e w25 ⟨v285,rfl,ho0,hb⟩;refine ⟨_,rfl,?_⟩;have n0_:=Aside0.mk (Kd.R_below (by (with_reducible repeat (first|apply Kd.R_alloc|apply Kd.R_drewN|apply Kd.R_drew));exact (Kd.R_mono (rf (Kd.R_types HO276.out BK268.out (by decide))) (fun _ h_=>h_.1))) hb);have n1_:=Aside0.mk (Kd.R_elder' (by (with_reducible repeat (first|apply Kd.R_alloc|apply Kd.R_drewN|apply Kd.R_drew));exact (Kd.R_mono (rf (Kd.R_types HO279.out BK268.out (by decide))) (fun _ h_=>h_.1))) (Kd.R_base ho0) hb);have n2_:=Aside0.mk (Kd.R_lower (Kd.R_new' ho0 (Kd.R_lt (by (with_reducible repeat (first|apply Kd.R_alloc|apply Kd.R_drewN|apply Kd.R_drew));exact (Kd.R_mono (rf (Kd.R_types HO279.out BK268.out (by decide))) (fun _ h_=>h_.1))))) (below_size bG));have n3_:=Aside0.mk (bfb BK266 hb);have n4_:=Aside0.mk (bfb BK267 hb);have n5_:=Aside0.mk (blk_below (g:=gb268) (o:=.cells #[.int .i64 t269,.int .i64 t270,.int .i64 t271,.int .i64 t272,.bool t273,.slice Ao18 t274.length co18,.slice Ao22 t277.length co22,.int .i64 0,.int .i64 0,.int .i64 0,.int .i64 0,.slice none 0 0,.slice none 0 0] 37 (0,0)) (by refine bP (cs:=?_) ?_ 6 ?_;rotate_left;exact BK268.out;all_goals ((try simp only [sA,sZ,sC]);first|done|rfl)) hb);have n6_:=Aside0.mk (below_step bG hb);clear HO276;clear HO279;clear BK266;clear BK267;clear BK268;clear HB;have HO276:=n0_;have HO279:=n1_;have HO286:=n2_;have BK266:=n3_;have BK267:=n4_;have BK268:=n5_;have HB:=n6_;clear n0_ n1_ n2_ n3_ n4_ n5_ n6_;(try clear hb);(try clear ho0);obtain ⟨z26_0,z26_1,z26_2,z26_3,z26_4,z26_5,z26_6,z26_7,z26_8,z26_9,z26_10,z26_11,z26_12,y26_0,y26_1,y26_2,y26_3,y26_4,y26_5,y26_6,y26_7,y26_8,y26_9,y26_10,y26_11,y26_12⟩:=blk13f BK268;obtain ⟨Ao27,co27,eo27⟩:=Kd.R_slice HO286.out;subst eo27;obtain ⟨z28_0,z28_1,z28_2,z28_3,z28_4,z28_5,z28_6,z28_7,z28_8,z28_9,z28_10,z28_11,z28_12,y28_0,y28_1,y28_2,y28_3,y28_4,y28_5,y28_6,y28_7,y28_8,y28_9,y28_10,y28_11,y28_12⟩:=blk13f BK266)|((with_reducible refine gate_callee (f:=44) rfl ?_);refine gL (some 22) Try.func44 #[.slice A0_12 l0_12.length c0_12] ?_;(with_reducible refine (laws_toChunkS.calls k _ _ l0_12 t287 _ ?side1 HC0_12.out A6.out).mono ?_);(case side1=>exact Kd.C_below HR0_12.out bG);rintro e w29 ⟨v288,rfl,ho0,hb⟩;refine ⟨_,rfl,?_⟩;replace HO276:=Aside0.mk (Kd.R_below (by (with_reducible repeat (first|apply Kd.R_alloc|apply Kd.R_drewN|apply Kd.R_drew));exact (Kd.R_mono (rf (rf (rf (rf (rf (Kd.R_types HO276.out BK268.out (by decide))))))) (fun _ h_=>h_.1))) hb);replace HO279:=Aside0.mk (Kd.R_below (by (with_reducible repeat (first|apply Kd.R_alloc|apply Kd.R_drewN|apply Kd.R_drew));exact (Kd.R_mono (rf (rf (rf (rf (rf (Kd.R_types HO279.out BK268.out (by decide))))))) (fun _ h_=>h_.1))) hb);replace HO286:=Aside0.mk (Kd.R_below (by (with_reducible repeat (first|apply Kd.R_alloc|apply Kd.R_drewN|apply Kd.R_drew));exact (Kd.R_mono (rf (rf (rf (rf (rf (Kd.R_types HO286.out BK268.out (by decide))))))) (fun _ h_=>h_.1))) hb);have HO289:=Aside0.mk (Kd.R_lower ho0 (below_size bG));replace BK266:=Aside0.mk (bfb BK266 hb);replace BK267:=Aside0.mk (bfb BK267 hb);replace BK268:=Aside0.mk (blk_below (g:=gb268) (o:=.cells #[.int .i64 t269,.int .i64 t270,.int .i64 t271,.int .i64 t272,.bool t273,.slice Ao18 t274.length co18,.slice Ao22 t277.length co22,.int .i64 t280,.int .i64 t281,.int .i64 t282,.int .i64 t283,.slice Ao27 t284.length co27,.slice none 0 0] 37 (0,0)) (by refine bP (cs:=?_) ?_ 11 ?_;rotate_left;refine bP (cs:=?_) ?_ 10 ?_;rotate_left;refine bP (cs:=?_) ?_ 9 ?_;rotate_left;refine bP (cs:=?_) ?_ 8 ?_;rotate_left;refine bP (cs:=?_) ?_ 7 ?_;rotate_left;exact BK268.out;all_goals ((try simp only [sA,sZ,sC]);first|done|rfl)) hb);replace HB:=Aside0.mk (below_step bG hb);(try clear hb);(try clear ho0);obtain ⟨Ao30,co30,eo30⟩:=Kd.R_slice HO289.out;subst eo30;obtain ⟨z31_0,z31_1,z31_2,z31_3,z31_4,z31_5,z31_6,z31_7,z31_8,z31_9,z31_10,z31_11,z31_12,y31_0,y31_1,y31_2,y31_3,y31_4,y31_5,y31_6,y31_7,y31_8,y31_9,y31_10,y31_11,y31_12⟩:=blk13f BK268;obtain ⟨z32_0,z32_1,z32_2,z32_3,z32_4,z32_5,z32_6,z32_7,z32_8,z32_9,z32_10,z32_11,z32_12,y32_0,y32_1,y32_2,y32_3,y32_4,y32_5,y32_6,y32_7,y32_8,y32_9,y32_10,y32_11,y32_12⟩:=blk13f BK267))
 refine bodyPost_ret (results_cell_row rfl _ _ gb267 37 #[.int .i64 t269,.int .i64 t270,.int .i64 t271,.int .i64 t272,.bool t273,.slice Ao18 t274.length co18,.slice Ao22 t277.length co22,.int .i64 t280,.int .i64 t281,.int .i64 t282,.int .i64 t283,.slice Ao27 t284.length co27,.slice Ao30 t287.length co30] (0,0) _ rfl (by refine bP (cs:=?_) ?_ 12 ?_;rotate_left;refine bP (cs:=?_) ?_ 11 ?_;rotate_left;refine bP (cs:=?_) ?_ 10 ?_;rotate_left;refine bP (cs:=?_) ?_ 9 ?_;rotate_left;refine bP (cs:=?_) ?_ 8 ?_;rotate_left;refine bP (cs:=?_) ?_ 7 ?_;rotate_left;refine bP (cs:=?_) ?_ 6 ?_;rotate_left;refine bP (cs:=?_) ?_ 5 ?_;rotate_left;refine bP (cs:=?_) ?_ 4 ?_;rotate_left;refine bP (cs:=?_) ?_ 3 ?_;rotate_left;refine bP (cs:=?_) ?_ 2 ?_;rotate_left;refine bP (cs:=?_) ?_ 1 ?_;rotate_left;refine bP (cs:=?_) ?_ 0 ?_;rotate_left;refine blk_far ?_ NB267_268.out _;(with_reducible repeat (first|refine blk_drewN ?_ _|refine blk_drew ?_|refine blk_alloc ?_ _));exact BK267.out;all_goals ((try simp only [sA,sZ,sC]);first|done|rfl)) Try.underlying37 rfl (by kernel_rfl)) rfl ?_
 exact ⟨_,_,_,_,fE,by (with_reducible repeat (first|apply Kd.R_alloc|apply Kd.R_drewN|apply Kd.R_drew));exact Kd.R_mono (rf (rf (rf (rf (rf (rf (rf (rf (rf (rf (rf (rf (rf (rg (Kd.R_types (Kd.R_types HO276.out BK268.out (by decide)) BK267.out (by decide)))))))))))))))) (fun _ hk=>trivial),by (with_reducible repeat (first|apply Kd.R_alloc|apply Kd.R_drewN|apply Kd.R_drew));exact Kd.R_mono (rf (rf (rf (rf (rf (rf (rf (rf (rf (rf (rf (rf (rf (rg (Kd.R_types (Kd.R_types HO279.out BK268.out (by decide)) BK267.out (by decide)))))))))))))))) (fun _ hk=>hk.1.1.2),by (with_reducible repeat (first|apply Kd.R_alloc|apply Kd.R_drewN|apply Kd.R_drew));exact Kd.R_mono (rf (rf (rf (rf (rf (rf (rf (rf (rf (rf (rf (rf (rf (rg (Kd.R_types (Kd.R_types HO286.out BK268.out (by decide)) BK267.out (by decide)))))))))))))))) (fun _ hk=>hk.1.1.2),by (with_reducible repeat (first|apply Kd.R_alloc|apply Kd.R_drewN|apply Kd.R_drew));exact Kd.R_mono (rf (rf (rf (rf (rf (rf (rf (rf (rf (rf (rf (rf (rf (rg (Kd.R_types (Kd.R_types HO289.out BK268.out (by decide)) BK267.out (by decide)))))))))))))))) (fun _ hk=>trivial),bG⟩
def impl_within.f (a0:Int) (a1:Int) (a2:Int):Option (Bool):=if a0≥a1 then (some (decide (a0≤a2))) else (some false)
theorem impl_within.calls (a0:Int) (a1:Int) (a2:Int) (r:Bool) (w:World) (h:impl_within.f a0 a1 a2=some r):
  Calls Try.prog 99 #[.int .i64 a0,.int .i64 a1,.int .i64 a2] w fun e w'=>e=.returned (.bool r)∧Drawn0 w w':=by
 have H:=h
 clear h
 unfold impl_within.f at H
 by_cases c4:a0≥a1
 ·rw [if_pos c4] at H
  have c4b0:decide (a1≤a0)=true:=decide_eq_true c4
  clear c4
  obtain rfl:=sI H
  go_enter Try.func99,Try.ntmps99
  go_wp2
  go_ret
  exact ⟨fS,by repeat (first|exact Drawn0.refl _|apply Drawn0.step)⟩
 ·rw [if_neg c4] at H
  have c4b0:decide (a1≤a0)=false:=decide_eq_false c4
  clear c4
  obtain rfl:=sI H
  go_enter Try.func99,Try.ntmps99
  go_wp2
  go_ret
  exact ⟨fS,by repeat (first|exact Drawn0.refl _|apply Drawn0.step)⟩
def impl_isSmall.f (a0:Int):Option (Bool):=(impl_within.f (wrap64 (a0)) 97 122).bind fun t290=>(some t290)
theorem impl_isSmall.calls (a0:Int) (r:Bool) (w:World) (h:impl_isSmall.f a0=some r):
  Calls Try.prog 104 #[.int .u8 a0] w fun e w'=>e=.returned (.bool r)∧Drawn0 w w':=by
 have H:=h
 clear h
 unfold impl_isSmall.f at H
 obtain ⟨t290,A2,H⟩:=bS H
 try dsimp only at H
 obtain rfl:=sI H
 go_enter Try.func104,Try.ntmps104
 go_wp2_with (first|((with_reducible refine gate_callee (f:=99) rfl ?_);refine gL (some 5) Try.func99 #[.int .i64 (wrap64 (a0)),.int .i64 97,.int .i64 122] ?_;(with_reducible refine (impl_within.calls (wrap64 (a0)) 97 122 t290 _ A2.out).mono ?_);rintro e w' ⟨rfl,⟨nd,rfl⟩⟩;refine ⟨_,rfl,?_⟩))
 go_ret
 exact ⟨fS,by repeat (first|exact Drawn0.refl _|apply Drawn0.step)⟩
def impl_isGreat.f (a0:Int):Option (Bool):=(impl_within.f (wrap64 (a0)) 65 90).bind fun t291=>(some t291)
theorem impl_isGreat.calls (a0:Int) (r:Bool) (w:World) (h:impl_isGreat.f a0=some r):
  Calls Try.prog 124 #[.int .u8 a0] w fun e w'=>e=.returned (.bool r)∧Drawn0 w w':=by
 have H:=h
 clear h
 unfold impl_isGreat.f at H
 obtain ⟨t291,A2,H⟩:=bS H
 try dsimp only at H
 obtain rfl:=sI H
 go_enter Try.func124,Try.ntmps124
 go_wp2_with (first|((with_reducible refine gate_callee (f:=99) rfl ?_);refine gL (some 5) Try.func99 #[.int .i64 (wrap64 (a0)),.int .i64 65,.int .i64 90] ?_;(with_reducible refine (impl_within.calls (wrap64 (a0)) 65 90 t291 _ A2.out).mono ?_);rintro e w' ⟨rfl,⟨nd,rfl⟩⟩;refine ⟨_,rfl,?_⟩))
 go_ret
 exact ⟨fS,by repeat (first|exact Drawn0.refl _|apply Drawn0.step)⟩
def impl_NameOk.l0:Nat→ByteArray→Int→Int→Option (Bool)
 | 0,_,_,_=>none
 | k+1,x0,x5,x6=>if x6 < x5 then (if 0≤x6 then (if x6 < (x0.size:Int) then ((impl_isGreat.f (bt x0 x6)).bind fun t292=>(if t292=true then (impl_NameOk.l0 k x0 x5 (wrap64 (x6+1))) else ((impl_isSmall.f (bt x0 x6)).bind fun t293=>(if t293=true then (if x6=2 then (some false) else (impl_NameOk.l0 k x0 x5 (wrap64 (x6+1)))) else (some false))))) else (none)) else (none)) else (some ((x0.size:Int) == 4))
def impl_NameOk.f (k:Nat) (a0:ByteArray):Option (Bool):=impl_NameOk.l0 k a0 (a0.size:Int) 0
theorem impl_NameOk.mono_l:∀ k,(∀ y0 y1 y2,LeO (impl_NameOk.l0 k y0 y1 y2) (impl_NameOk.l0 (k+1) y0 y1 y2))
 | 0=>fun _ _ _ r h=>by simp [impl_NameOk.l0] at h
 | k+1=>by
  have ih0:=impl_NameOk.mono_l k
  ·intro y0 y1 y2
   unfold impl_NameOk.l0
   repeat' first
   | (with_reducible exact ih0 _ _ _)
   | (with_reducible exact LeO.refl _)
   | (with_reducible exact LeO.none _)
   | (with_reducible refine LeO.ite ?_ ?_)
   | (with_reducible refine LeO.bind ?_ (fun _=>?_))
   | exact ih0 _ _ _
   | exact LeO.none _
   | refine LeO.ite ?_ ?_
   | refine LeO.bind ?_ (fun _=>?_)
theorem impl_NameOk.mono:∀ a0 k,LeO (impl_NameOk.f k a0) (impl_NameOk.f (k+1) a0):=by
 intro a0 k
 have ih0:=impl_NameOk.mono_l k
 unfold impl_NameOk.f
 repeat' first
   | (with_reducible exact ih0 _ _ _)
   | (with_reducible exact LeO.refl _)
   | (with_reducible exact LeO.none _)
   | (with_reducible refine LeO.ite ?_ ?_)
   | (with_reducible refine LeO.bind ?_ (fun _=>?_))
   | exact ih0 _ _ _
   | exact LeO.none _
   | refine LeO.ite ?_ ?_
   | refine LeO.bind ?_ (fun _=>?_)
theorem impl_NameOk.calls (k:Nat) (a0:ByteArray) (r:Bool) (w:World) (h:impl_NameOk.f k a0=some r):
  Calls Try.prog 103 #[.string a0] w fun e w'=>e=.returned (.bool r)∧Drawn0 w w':=by
 have H:=h
 clear h
 unfold impl_NameOk.f at H
 have H':=Aside0.mk H
 clear H
 go_enter Try.func103,Try.ntmps103
 go_wp2
 go_loopg [6] k (fun kq v6 w'=>∃ (x6_1:Int),v6=.int .i64 x6_1∧Aside0 (impl_NameOk.l0 kq a0 (a0.size:Int) x6_1=some r)∧Aside0 (kq≤k)∧Drawn0 w w')
 case atStart=>exact ⟨(0),fS,H',⟨Nat.le_refl _⟩,by repeat (first|exact Drawn0.refl _|apply Drawn0.step)⟩
 case round =>
  clear H'
  obtain ⟨x6_1,rfl,HA,HK1,⟨m1,rfl⟩⟩:=hrel
  cases gk with
  | zero=>exact absurd HA.out (by simp [impl_NameOk.l0])
  | succ k1 =>
   have H:=HA.out
   clear HA
   simp only [impl_NameOk.l0] at H
   by_cases c2:x6_1 < (a0.size:Int)
   ·rw [if_pos c2] at H
    have c2b0:decide (x6_1 < (a0.size:Int))=true:=decide_eq_true c2
    clear c2
    by_cases c3:0≤x6_1
    ·rw [if_pos c3] at H
     have c3b0:decide (0≤x6_1)=true:=decide_eq_true c3
     clear c3
     by_cases c4:x6_1 < (a0.size:Int)
     ·rw [if_pos c4] at H
      have c4b0:decide (x6_1 < (a0.size:Int))=true:=decide_eq_true c4
      clear c4
      obtain ⟨t292,A6,H⟩:=bS H
      try dsimp only at H
      by_cases c7:t292=true
      ·subst c7
       rw [if_pos rfl] at H
       have H':=Aside0.mk H
       clear H
       have p5:0≤(x6_1:Int):=oD
       have q5:x6_1 < (a0.size:Int):=oD
       have hx5:=bt_at a0 x6_1
       replace p5:=eq_true p5
       replace q5:=eq_true q5
       go_wp2_with (first|((with_reducible refine gate_callee (f:=124) rfl ?_);refine gL (some 12) Try.func124 #[.int .u8 (bt a0 x6_1)] ?_;(with_reducible refine (impl_isGreat.calls (bt a0 x6_1) true _ A6.out).mono ?_);rintro e w' ⟨rfl,⟨nd,rfl⟩⟩;refine ⟨_,rfl,?_⟩))
       go_roundg k1
       case measure=>have:=HK1.out;omega
       case rel=>exact ⟨(wrap64 (x6_1+1)),fS,H',⟨by have:=HK1.out;omega⟩,by repeat (first|exact Drawn0.refl _|apply Drawn0.step)⟩
      ·obtain rfl:=bF c7
       rw [if_neg nF] at H
       obtain ⟨t293,A9,H⟩:=bS H
       try dsimp only at H
       by_cases c10:t293=true
       ·subst c10
        rw [if_pos rfl] at H
        by_cases c11:x6_1=2
        ·rw [if_pos c11] at H
         have c11b0:(x6_1 == 2)=true:=beq_iff_eq.mpr c11
         have c11b1:(x6_1 != 2)=false:=bne_eq_false_iff_eq.mpr c11
         clear c11
         obtain rfl:=sI H
         have p5:0≤(x6_1:Int):=oD
         have q5:x6_1 < (a0.size:Int):=oD
         have hx5:=bt_at a0 x6_1
         replace p5:=eq_true p5
         replace q5:=eq_true q5
         go_wp2_with (first|((with_reducible refine gate_callee (f:=124) rfl ?_);refine gL (some 12) Try.func124 #[.int .u8 (bt a0 x6_1)] ?_;(with_reducible refine (impl_isGreat.calls (bt a0 x6_1) false _ A6.out).mono ?_);rintro e w' ⟨rfl,⟨nd,rfl⟩⟩;refine ⟨_,rfl,?_⟩;have p8:0≤(x6_1:Int):=oD;have q8:x6_1 < (a0.size:Int):=oD;have hx8:=bt_at a0 x6_1;replace p8:=eq_true p8;replace q8:=eq_true q8)|(go_at_call 104;(with_reducible refine (impl_isSmall.calls (bt a0 x6_1) true _ A9.out).mono ?_);rintro e w' ⟨rfl,⟨nd,rfl⟩⟩))
         go_ret
         exact ⟨fS,by repeat (first|exact Drawn0.refl _|apply Drawn0.step)⟩
        ·rw [if_neg c11] at H
         have c11b0:(x6_1 == 2)=false:=beq_eq_false_iff_ne.mpr c11
         have c11b1:(x6_1 != 2)=true:=bne_iff_ne.mpr c11
         have H':=Aside0.mk H
         clear H
         have p5:0≤(x6_1:Int):=oD
         have q5:x6_1 < (a0.size:Int):=oD
         have hx5:=bt_at a0 x6_1
         replace p5:=eq_true p5
         replace q5:=eq_true q5
         go_wp2_with (first|((with_reducible refine gate_callee (f:=124) rfl ?_);refine gL (some 12) Try.func124 #[.int .u8 (bt a0 x6_1)] ?_;(with_reducible refine (impl_isGreat.calls (bt a0 x6_1) false _ A6.out).mono ?_);rintro e w' ⟨rfl,⟨nd,rfl⟩⟩;refine ⟨_,rfl,?_⟩;have p8:0≤(x6_1:Int):=oD;have q8:x6_1 < (a0.size:Int):=oD;have hx8:=bt_at a0 x6_1;replace p8:=eq_true p8;replace q8:=eq_true q8)|(go_at_call 104;(with_reducible refine (impl_isSmall.calls (bt a0 x6_1) true _ A9.out).mono ?_);rintro e w' ⟨rfl,⟨nd,rfl⟩⟩))
         go_roundg k1
         case measure=>have:=HK1.out;omega
         case rel=>exact ⟨(wrap64 (x6_1+1)),fS,H',⟨by have:=HK1.out;omega⟩,by repeat (first|exact Drawn0.refl _|apply Drawn0.step)⟩
       ·obtain rfl:=bF c10
        rw [if_neg nF] at H
        obtain rfl:=sI H
        have p5:0≤(x6_1:Int):=oD
        have q5:x6_1 < (a0.size:Int):=oD
        have hx5:=bt_at a0 x6_1
        replace p5:=eq_true p5
        replace q5:=eq_true q5
        go_wp2_with (first|((with_reducible refine gate_callee (f:=124) rfl ?_);refine gL (some 12) Try.func124 #[.int .u8 (bt a0 x6_1)] ?_;(with_reducible refine (impl_isGreat.calls (bt a0 x6_1) false _ A6.out).mono ?_);rintro e w' ⟨rfl,⟨nd,rfl⟩⟩;refine ⟨_,rfl,?_⟩;have p8:0≤(x6_1:Int):=oD;have q8:x6_1 < (a0.size:Int):=oD;have hx8:=bt_at a0 x6_1;replace p8:=eq_true p8;replace q8:=eq_true q8)|(go_at_call 104;(with_reducible refine (impl_isSmall.calls (bt a0 x6_1) false _ A9.out).mono ?_);rintro e w' ⟨rfl,⟨nd,rfl⟩⟩))
        go_ret
        exact ⟨fS,by repeat (first|exact Drawn0.refl _|apply Drawn0.step)⟩
     ·rw [if_neg c4] at H
      exact absurd H (by simp)
    ·rw [if_neg c3] at H
     exact absurd H (by simp)
   ·rw [if_neg c2] at H
    have c2b0:decide (x6_1 < (a0.size:Int))=false:=decide_eq_false c2
    clear c2
    obtain rfl:=sI H
    go_wp2
    go_ret
    exact ⟨fS,by repeat (first|exact Drawn0.refl _|apply Drawn0.step)⟩
def impl_SafeToCopy.f (k:Nat) (a0:ByteArray):Option (Bool):=(impl_NameOk.f k a0).bind fun t294=>(if t294=true then (if 3 < (a0.size:Int) then ((impl_isSmall.f (bt a0 3)).bind fun t295=>(some t295)) else (none)) else (some false))
theorem impl_SafeToCopy.mono:∀ a0 k,LeO (impl_SafeToCopy.f k a0) (impl_SafeToCopy.f (k+1) a0):=by
 intro a0 k
 unfold impl_SafeToCopy.f
 repeat' first
   | (with_reducible exact impl_NameOk.mono _ _)
   | (with_reducible exact LeO.refl _)
   | (with_reducible exact LeO.none _)
   | (with_reducible refine LeO.ite ?_ ?_)
   | (with_reducible refine LeO.bind ?_ (fun _=>?_))
   | exact impl_NameOk.mono _ _
   | exact LeO.none _
   | refine LeO.ite ?_ ?_
   | refine LeO.bind ?_ (fun _=>?_)
theorem impl_SafeToCopy.calls (k:Nat) (a0:ByteArray) (r:Bool) (w:World) (h:impl_SafeToCopy.f k a0=some r):
  Calls Try.prog 75 #[.string a0] w fun e w'=>e=.returned (.bool r)∧Drawn0 w w':=by
 have H:=h
 clear h
 unfold impl_SafeToCopy.f at H
 obtain ⟨t294,A2,H⟩:=bS H
 try dsimp only at H
 by_cases c3:t294=true
 ·subst c3
  rw [if_pos rfl] at H
  by_cases c4:3 < (a0.size:Int)
  ·rw [if_pos c4] at H
   have c4b0:decide (3 < (a0.size:Int))=true:=decide_eq_true c4
   have c4b1:decide (3 < a0.size)=true:=decide_eq_true (by omega)
   clear c4
   obtain ⟨t295,A6,H⟩:=bS H
   try dsimp only at H
   obtain rfl:=sI H
   go_enter Try.func75,Try.ntmps75
   go_wp2_with (first|((with_reducible refine gate_callee (f:=103) rfl ?_);refine gL (some 4) Try.func103 #[.string a0] ?_;(with_reducible refine (impl_NameOk.calls k a0 true _ A2.out).mono ?_);rintro e w' ⟨rfl,⟨nd,rfl⟩⟩;refine ⟨_,rfl,?_⟩;have p5:0≤(3:Int):=(by omega);have q5:3 < a0.size:=(by have:(3:Int) < (a0.size:Int):=oD;omega);have hx5:∀ h:3 < a0.size,((a0[3]'h).toNat:Int)=bt a0 3:=bt_at a0 3;clear p5;have qi5:(3 < (a0.size:Int))=True:=eq_true (oD);replace q5:=eq_true q5)|(go_at_call 104;(with_reducible refine (impl_isSmall.calls (bt a0 3) t295 _ A6.out).mono ?_);rintro e w' ⟨rfl,⟨nd,rfl⟩⟩))
   go_ret
   exact ⟨fS,by repeat (first|exact Drawn0.refl _|apply Drawn0.step)⟩
  ·rw [if_neg c4] at H
   exact absurd H (by simp)
 ·obtain rfl:=bF c3
  rw [if_neg nF] at H
  obtain rfl:=sI H
  go_enter Try.func75,Try.ntmps75
  go_wp2_with (first|((with_reducible refine gate_callee (f:=103) rfl ?_);refine gL (some 4) Try.func103 #[.string a0] ?_;(with_reducible refine (impl_NameOk.calls k a0 false _ A2.out).mono ?_);rintro e w' ⟨rfl,⟨nd,rfl⟩⟩;refine ⟨_,rfl,?_⟩))
  go_ret
  exact ⟨fS,by repeat (first|exact Drawn0.refl _|apply Drawn0.step)⟩
def impl_Touchy.l0:Nat→List (S83)→Int→Int→Option (Bool)
 | 0,_,_,_=>none
 | k+1,x6,x7,x8=>if x8 < x7 then (if 0≤x8 then (if x8 < (x6.length:Int) then (if ((rd_T83 x6 x8).f0).toList=([115,66,73,84]:List UInt8) then (some true) else (if ((rd_T83 x6 x8).f0).toList=([98,75,71,68]:List UInt8) then (some true) else (if ((rd_T83 x6 x8).f0).toList=([104,73,83,84]:List UInt8) then (some true) else ((impl_SafeToCopy.f k ((rd_T83 x6 x8).f0)).bind fun t299=>(if t299=true then (impl_Touchy.l0 k x6 x7 (wrap64 (x8+1))) else (some true)))))) else (none)) else (none)) else (some false)
def impl_Touchy.f (k:Nat) (a0_0:Int) (a0_1:Int) (a0_2:Int) (a0_3:Int) (a0_4:Bool) (l0_5:List (S95)) (l0_6:List Int) (a0_7:Int) (a0_8:Int) (a0_9:Int) (a0_10:Int) (l0_11:List Int) (l0_12:List (S83)):Option (Bool):=impl_Touchy.l0 k l0_12 (l0_12.length:Int) 0
theorem impl_Touchy.mono_l:∀ k,(∀ y0 y1 y2,LeO (impl_Touchy.l0 k y0 y1 y2) (impl_Touchy.l0 (k+1) y0 y1 y2))
 | 0=>fun _ _ _ r h=>by simp [impl_Touchy.l0] at h
 | k+1=>by
  have ih0:=impl_Touchy.mono_l k
  ·intro y0 y1 y2
   unfold impl_Touchy.l0
   repeat' first
   | (with_reducible exact ih0 _ _ _)
   | (with_reducible exact impl_SafeToCopy.mono _ _)
   | (with_reducible exact LeO.refl _)
   | (with_reducible exact LeO.none _)
   | (with_reducible refine LeO.ite ?_ ?_)
   | (with_reducible refine LeO.bind ?_ (fun _=>?_))
   | exact ih0 _ _ _
   | exact impl_SafeToCopy.mono _ _
   | exact LeO.none _
   | refine LeO.ite ?_ ?_
   | refine LeO.bind ?_ (fun _=>?_)
theorem impl_Touchy.mono:∀ a0 a1 a2 a3 a4 a5 a6 a7 a8 a9 a10 a11 a12 k,LeO (impl_Touchy.f k a0 a1 a2 a3 a4 a5 a6 a7 a8 a9 a10 a11 a12) (impl_Touchy.f (k+1) a0 a1 a2 a3 a4 a5 a6 a7 a8 a9 a10 a11 a12):=by
 intro a0 a1 a2 a3 a4 a5 a6 a7 a8 a9 a10 a11 a12 k
 have ih0:=impl_Touchy.mono_l k
 unfold impl_Touchy.f
 repeat' first
   | (with_reducible exact ih0 _ _ _)
   | (with_reducible exact impl_SafeToCopy.mono _ _)
   | (with_reducible exact LeO.refl _)
   | (with_reducible exact LeO.none _)
   | (with_reducible refine LeO.ite ?_ ?_)
   | (with_reducible refine LeO.bind ?_ (fun _=>?_))
   | exact ih0 _ _ _
   | exact impl_SafeToCopy.mono _ _
   | exact LeO.none _
   | refine LeO.ite ?_ ?_
   | refine LeO.bind ?_ (fun _=>?_)
theorem impl_Touchy.calls (k:Nat) (a0_0:Int) (a0_1:Int) (a0_2:Int) (a0_3:Int) (a0_4:Bool) (A0_5:Option Addr) (c0_5:Nat) (l0_5:List (S95)) (A0_6:Option Addr) (c0_6:Nat) (l0_6:List Int) (a0_7:Int) (a0_8:Int) (a0_9:Int) (a0_10:Int) (A0_11:Option Addr) (c0_11:Nat) (l0_11:List Int) (A0_12:Option Addr) (c0_12:Nat) (l0_12:List (S83)) (r:Bool) (w:World) (hr0_5:Kd.C k95 w A0_5 l0_5.length l0_5) (hc0_5:l0_5.length≤c0_5) (hr0_6:Kd.C (Kd.int .i64) w A0_6 l0_6.length l0_6) (hc0_6:l0_6.length≤c0_6) (hr0_11:Kd.C (Kd.int .i64) w A0_11 l0_11.length l0_11) (hc0_11:l0_11.length≤c0_11) (hr0_12:Kd.C k83 w A0_12 l0_12.length l0_12) (hc0_12:l0_12.length≤c0_12) (h:impl_Touchy.f k a0_0 a0_1 a0_2 a0_3 a0_4 l0_5 l0_6 a0_7 a0_8 a0_9 a0_10 l0_11 l0_12=some r):
  Calls Try.prog 25 #[.agg #[.int .i64 a0_0,.int .i64 a0_1,.int .i64 a0_2,.int .i64 a0_3,.bool a0_4,.slice A0_5 l0_5.length c0_5,.slice A0_6 l0_6.length c0_6,.int .i64 a0_7,.int .i64 a0_8,.int .i64 a0_9,.int .i64 a0_10,.slice A0_11 l0_11.length c0_11,.slice A0_12 l0_12.length c0_12]] w fun e w'=>e=.returned (.bool r)∧Below w.heap.size w w':=by
 have hu37:=Try.underlying37
 have hu83:=Try.underlying83
 have HR0_5:=Aside0.mk hr0_5
 have HC0_5:=Aside0.mk hc0_5
 clear hr0_5 hc0_5
 have HR0_6:=Aside0.mk hr0_6
 have HC0_6:=Aside0.mk hc0_6
 clear hr0_6 hc0_6
 have HR0_11:=Aside0.mk hr0_11
 have HC0_11:=Aside0.mk hc0_11
 clear hr0_11 hc0_11
 have HR0_12:=Aside0.mk hr0_12
 have HC0_12:=Aside0.mk hc0_12
 clear hr0_12 hc0_12
 have HB:=Aside0.mk (Below.refl w.heap.size w)
 have H:=h
 clear h
 unfold impl_Touchy.f at H
 have H':=Aside0.mk H
 clear H
 go_enter Try.func25,Try.ntmps25
 go_wp2_with (first|((with_reducible refine gate_dst (N:=1) rfl ?_);refine boxE 1 (#[.int .i64 a0_0,.int .i64 a0_1,.int .i64 a0_2,.int .i64 a0_3,.bool a0_4,.slice A0_5 l0_5.length c0_5,.slice A0_6 l0_6.length c0_6,.int .i64 a0_7,.int .i64 a0_8,.int .i64 a0_9,.int .i64 a0_10,.slice A0_11 l0_11.length c0_11,.slice A0_12 l0_12.length c0_12]) 37 ?_;intro gb296 hg w2 hbox hb;have BK296:=Aside0.mk hbox;have GW296:=(gwH (w:=w) hg);have GE296:=(gwH (w:=w) hg);replace HB:=Aside0.mk (below_step bH hb);clear hb hbox hg;obtain ⟨z3_0,z3_1,z3_2,z3_3,z3_4,z3_5,z3_6,z3_7,z3_8,z3_9,z3_10,z3_11,z3_12,y3_0,y3_1,y3_2,y3_3,y3_4,y3_5,y3_6,y3_7,y3_8,y3_9,y3_10,y3_11,y3_12⟩:=blk13f BK296))
 go_loopg [8] k (fun kq v8 w'=>∃ (x8_1:Int),v8=.int .i64 x8_1∧Aside0 (impl_Touchy.l0 kq l0_12 (l0_12.length:Int) x8_1=some r)∧Aside0 (kq≤k)∧Aside0 (w'.heap[gb296]?=some (.cells #[.int .i64 a0_0,.int .i64 a0_1,.int .i64 a0_2,.int .i64 a0_3,.bool a0_4,(.slice A0_5 l0_5.length c0_5),(.slice A0_6 l0_6.length c0_6),.int .i64 a0_7,.int .i64 a0_8,.int .i64 a0_9,.int .i64 a0_10,(.slice A0_11 l0_11.length c0_11),(.slice A0_12 l0_12.length c0_12)] 37 (0,0)))∧Aside0 (Below w.heap.size w w'))
 case atStart=>exact ⟨(0),fS,H',⟨Nat.le_refl _⟩,⟨by (with_reducible repeat (first|refine blk_drewN ?_ _|refine blk_drew ?_|refine blk_alloc ?_ _));exact BK296.out⟩,⟨bG⟩⟩
 case round =>
  clear H'
  clear z3_0 z3_1 z3_10 z3_11 z3_12 z3_2 z3_3 z3_4 z3_5 z3_6 z3_7 z3_8 z3_9 y3_0 y3_1 y3_10 y3_11 y3_12 y3_2 y3_3 y3_4 y3_5 y3_6 y3_7 y3_8 y3_9
  obtain ⟨x8_1,rfl,HA,HK1,BK296,HB⟩:=hrel
  cases gk with
  | zero=>exact absurd HA.out (by simp [impl_Touchy.l0])
  | succ k1 =>
   have H:=HA.out
   clear HA
   simp only [impl_Touchy.l0] at H
   by_cases c4:x8_1 < (l0_12.length:Int)
   ·rw [if_pos c4] at H
    have c4b0:decide (x8_1 < (l0_12.length:Int))=true:=decide_eq_true c4
    clear c4
    by_cases c5:0≤x8_1
    ·rw [if_pos c5] at H
     have c5b0:decide (0≤x8_1)=true:=decide_eq_true c5
     clear c5
     by_cases c6:x8_1 < (l0_12.length:Int)
     ·rw [if_pos c6] at H
      have c6b0:decide (x8_1 < (l0_12.length:Int))=true:=decide_eq_true c6
      clear c6
      by_cases c7:((rd_T83 l0_12 x8_1).f0).toList=([115,66,73,84]:List UInt8)
      ·rw [if_pos c7] at H
       have c7b0:(((rd_T83 l0_12 x8_1).f0).toList == ([115,66,73,84]:List UInt8))=true:=beq_iff_eq.mpr c7
       have c7b1:(((rd_T83 l0_12 x8_1).f0).toList != ([115,66,73,84]:List UInt8))=false:=bne_eq_false_iff_eq.mpr c7
       clear c7
       obtain rfl:=sI H
       have p297:0≤(x8_1:Int):=oD
       have q297:x8_1 < (l0_12.length:Int):=oD
       obtain ⟨ad297,e297,hx297_0,hx297_1⟩:=at_T83 HR0_12.out x8_1 p297 q297
       cases e297
       replace hx297_0:=(HB.out.cell (World.block_lt_of_cell? w _ hx297_0)).trans hx297_0
       replace hx297_1:=(HB.out.cell (World.block_lt_of_cell? w _ hx297_1)).trans hx297_1
       replace p297:=eq_true p297
       replace q297:=eq_true q297
       go_wp2_with (first|((with_reducible refine gate_dst (N:=4) rfl ?_);refine boxE 4 (#[.string (⟨#[]⟩:ByteArray),.string (⟨#[]⟩:ByteArray)]) 83 ?_;intro gb298 hg w8 hbox hb;have n0_:=Aside0.mk (bkb BK296 hb);have n1_:=Aside0.mk (below_step bG hb);have n2_:=Aside0.mk hbox;have n3_:=(gwG (w:=w) hg);have n4_:=(gwG (w:=w) hg);have n5_:=(nbl BK296 hg);have n6_:=(nbg BK296 hg);clear BK296;clear HB;have BK296:=n0_;have HB:=n1_;have BK298:=n2_;have GW298:=n3_;have GE298:=n4_;have NB296_298:=n5_;have NB298_296:=n6_;clear n0_ n1_ n2_ n3_ n4_ n5_ n6_;clear hb hbox hg;have hnb9:=NB298_296.out;have hnc9:=NB296_298.out;obtain ⟨z10_0,z10_1,y10_0,y10_1⟩:=blk2f BK298))
       go_ret
       exact ⟨fE,bG⟩
      ·rw [if_neg c7] at H
       have c7b0:(((rd_T83 l0_12 x8_1).f0).toList == ([115,66,73,84]:List UInt8))=false:=beq_eq_false_iff_ne.mpr c7
       have c7b1:(((rd_T83 l0_12 x8_1).f0).toList != ([115,66,73,84]:List UInt8))=true:=bne_iff_ne.mpr c7
       by_cases c11:((rd_T83 l0_12 x8_1).f0).toList=([98,75,71,68]:List UInt8)
       ·rw [if_pos c11] at H
        have c11b0:(((rd_T83 l0_12 x8_1).f0).toList == ([98,75,71,68]:List UInt8))=true:=beq_iff_eq.mpr c11
        have c11b1:(((rd_T83 l0_12 x8_1).f0).toList != ([98,75,71,68]:List UInt8))=false:=bne_eq_false_iff_eq.mpr c11
        clear c11
        obtain rfl:=sI H
        have p297:0≤(x8_1:Int):=oD
        have q297:x8_1 < (l0_12.length:Int):=oD
        obtain ⟨ad297,e297,hx297_0,hx297_1⟩:=at_T83 HR0_12.out x8_1 p297 q297
        cases e297
        replace hx297_0:=(HB.out.cell (World.block_lt_of_cell? w _ hx297_0)).trans hx297_0
        replace hx297_1:=(HB.out.cell (World.block_lt_of_cell? w _ hx297_1)).trans hx297_1
        replace p297:=eq_true p297
        replace q297:=eq_true q297
        go_wp2_with (first|((with_reducible refine gate_dst (N:=4) rfl ?_);refine boxE 4 (#[.string (⟨#[]⟩:ByteArray),.string (⟨#[]⟩:ByteArray)]) 83 ?_;intro gb298 hg w12 hbox hb;have n0_:=Aside0.mk (bkb BK296 hb);have n1_:=Aside0.mk (below_step bG hb);have n2_:=Aside0.mk hbox;have n3_:=(gwG (w:=w) hg);have n4_:=(gwG (w:=w) hg);have n5_:=(nbl BK296 hg);have n6_:=(nbg BK296 hg);clear BK296;clear HB;have BK296:=n0_;have HB:=n1_;have BK298:=n2_;have GW298:=n3_;have GE298:=n4_;have NB296_298:=n5_;have NB298_296:=n6_;clear n0_ n1_ n2_ n3_ n4_ n5_ n6_;clear hb hbox hg;have hnb13:=NB298_296.out;have hnc13:=NB296_298.out;obtain ⟨z14_0,z14_1,y14_0,y14_1⟩:=blk2f BK298))
        go_ret
        exact ⟨fE,bG⟩
       ·rw [if_neg c11] at H
        have c11b0:(((rd_T83 l0_12 x8_1).f0).toList == ([98,75,71,68]:List UInt8))=false:=beq_eq_false_iff_ne.mpr c11
        have c11b1:(((rd_T83 l0_12 x8_1).f0).toList != ([98,75,71,68]:List UInt8))=true:=bne_iff_ne.mpr c11
        by_cases c15:((rd_T83 l0_12 x8_1).f0).toList=([104,73,83,84]:List UInt8)
        ·rw [if_pos c15] at H
         have c15b0:(((rd_T83 l0_12 x8_1).f0).toList == ([104,73,83,84]:List UInt8))=true:=beq_iff_eq.mpr c15
         have c15b1:(((rd_T83 l0_12 x8_1).f0).toList != ([104,73,83,84]:List UInt8))=false:=bne_eq_false_iff_eq.mpr c15
         clear c15
         obtain rfl:=sI H
         have p297:0≤(x8_1:Int):=oD
         have q297:x8_1 < (l0_12.length:Int):=oD
         obtain ⟨ad297,e297,hx297_0,hx297_1⟩:=at_T83 HR0_12.out x8_1 p297 q297
         cases e297
         replace hx297_0:=(HB.out.cell (World.block_lt_of_cell? w _ hx297_0)).trans hx297_0
         replace hx297_1:=(HB.out.cell (World.block_lt_of_cell? w _ hx297_1)).trans hx297_1
         replace p297:=eq_true p297
         replace q297:=eq_true q297
         go_wp2_with (first|((with_reducible refine gate_dst (N:=4) rfl ?_);refine boxE 4 (#[.string (⟨#[]⟩:ByteArray),.string (⟨#[]⟩:ByteArray)]) 83 ?_;intro gb298 hg w16 hbox hb;have n0_:=Aside0.mk (bkb BK296 hb);have n1_:=Aside0.mk (below_step bG hb);have n2_:=Aside0.mk hbox;have n3_:=(gwG (w:=w) hg);have n4_:=(gwG (w:=w) hg);have n5_:=(nbl BK296 hg);have n6_:=(nbg BK296 hg);clear BK296;clear HB;have BK296:=n0_;have HB:=n1_;have BK298:=n2_;have GW298:=n3_;have GE298:=n4_;have NB296_298:=n5_;have NB298_296:=n6_;clear n0_ n1_ n2_ n3_ n4_ n5_ n6_;clear hb hbox hg;have hnb17:=NB298_296.out;have hnc17:=NB296_298.out;obtain ⟨z18_0,z18_1,y18_0,y18_1⟩:=blk2f BK298))
         go_ret
         exact ⟨fE,bG⟩
        ·rw [if_neg c15] at H
         have c15b0:(((rd_T83 l0_12 x8_1).f0).toList == ([104,73,83,84]:List UInt8))=false:=beq_eq_false_iff_ne.mpr c15
         have c15b1:(((rd_T83 l0_12 x8_1).f0).toList != ([104,73,83,84]:List UInt8))=true:=bne_iff_ne.mpr c15
         obtain ⟨t299,A19,H⟩:=bS H
         try dsimp only at H
         by_cases c20:t299=true
         ·subst c20
          rw [if_pos rfl] at H
          have H':=Aside0.mk H
          clear H
          have p297:0≤(x8_1:Int):=oD
          have q297:x8_1 < (l0_12.length:Int):=oD
          obtain ⟨ad297,e297,hx297_0,hx297_1⟩:=at_T83 HR0_12.out x8_1 p297 q297
          cases e297
          replace hx297_0:=(HB.out.cell (World.block_lt_of_cell? w _ hx297_0)).trans hx297_0
          replace hx297_1:=(HB.out.cell (World.block_lt_of_cell? w _ hx297_1)).trans hx297_1
          replace p297:=eq_true p297
          replace q297:=eq_true q297
          go_wp2_with (first|((with_reducible refine gate_dst (N:=4) rfl ?_);refine boxE 4 (#[.string (⟨#[]⟩:ByteArray),.string (⟨#[]⟩:ByteArray)]) 83 ?_;intro gb298 hg w21 hbox hb;have n0_:=Aside0.mk (bkb BK296 hb);have n1_:=Aside0.mk (below_step bG hb);have n2_:=Aside0.mk hbox;have n3_:=(gwG (w:=w) hg);have n4_:=(gwG (w:=w) hg);have n5_:=(nbl BK296 hg);have n6_:=(nbg BK296 hg);clear BK296;clear HB;have BK296:=n0_;have HB:=n1_;have BK298:=n2_;have GW298:=n3_;have GE298:=n4_;have NB296_298:=n5_;have NB298_296:=n6_;clear n0_ n1_ n2_ n3_ n4_ n5_ n6_;clear hb hbox hg;have hnb22:=NB298_296.out;have hnc22:=NB296_298.out;obtain ⟨z23_0,z23_1,y23_0,y23_1⟩:=blk2f BK298)|(go_at_call 75;(with_reducible refine (impl_SafeToCopy.calls k1 ((rd_T83 l0_12 x8_1).f0) true _ A19.out).mono ?_);rintro e w' ⟨rfl,⟨nd,rfl⟩⟩))
          go_roundg k1
          case measure=>have:=HK1.out;omega
          case rel=>exact ⟨(wrap64 (x8_1+1)),fS,H',⟨by have:=HK1.out;omega⟩,⟨by (with_reducible repeat (first|refine blk_drewN ?_ _|refine blk_drew ?_|refine blk_alloc ?_ _));refine blk_far ?_ NB296_298.out _;refine blk_far ?_ NB296_298.out _;(with_reducible repeat (first|refine blk_drewN ?_ _|refine blk_drew ?_|refine blk_alloc ?_ _));exact BK296.out⟩,⟨bG⟩⟩
         ·obtain rfl:=bF c20
          rw [if_neg nF] at H
          obtain rfl:=sI H
          have p297:0≤(x8_1:Int):=oD
          have q297:x8_1 < (l0_12.length:Int):=oD
          obtain ⟨ad297,e297,hx297_0,hx297_1⟩:=at_T83 HR0_12.out x8_1 p297 q297
          cases e297
          replace hx297_0:=(HB.out.cell (World.block_lt_of_cell? w _ hx297_0)).trans hx297_0
          replace hx297_1:=(HB.out.cell (World.block_lt_of_cell? w _ hx297_1)).trans hx297_1
          replace p297:=eq_true p297
          replace q297:=eq_true q297
          go_wp2_with (first|((with_reducible refine gate_dst (N:=4) rfl ?_);refine boxE 4 (#[.string (⟨#[]⟩:ByteArray),.string (⟨#[]⟩:ByteArray)]) 83 ?_;intro gb298 hg w24 hbox hb;have n0_:=Aside0.mk (bkb BK296 hb);have n1_:=Aside0.mk (below_step bG hb);have n2_:=Aside0.mk hbox;have n3_:=(gwG (w:=w) hg);have n4_:=(gwG (w:=w) hg);have n5_:=(nbl BK296 hg);have n6_:=(nbg BK296 hg);clear BK296;clear HB;have BK296:=n0_;have HB:=n1_;have BK298:=n2_;have GW298:=n3_;have GE298:=n4_;have NB296_298:=n5_;have NB298_296:=n6_;clear n0_ n1_ n2_ n3_ n4_ n5_ n6_;clear hb hbox hg;have hnb25:=NB298_296.out;have hnc25:=NB296_298.out;obtain ⟨z26_0,z26_1,y26_0,y26_1⟩:=blk2f BK298)|(go_at_call 75;(with_reducible refine (impl_SafeToCopy.calls k1 ((rd_T83 l0_12 x8_1).f0) false _ A19.out).mono ?_);rintro e w' ⟨rfl,⟨nd,rfl⟩⟩))
          go_ret
          exact ⟨fE,bG⟩
     ·rw [if_neg c6] at H
      exact absurd H (by simp)
    ·rw [if_neg c5] at H
     exact absurd H (by simp)
   ·rw [if_neg c4] at H
    have c4b0:decide (x8_1 < (l0_12.length:Int))=false:=decide_eq_false c4
    clear c4
    obtain rfl:=sI H
    go_wp2
    go_ret
    exact ⟨fE,bG⟩
def impl_isSide.f (a0:Int):Option (Bool):=(impl_within.f a0 1 24).bind fun t300=>(some t300)
theorem impl_isSide.calls (a0:Int) (r:Bool) (w:World) (h:impl_isSide.f a0=some r):
  Calls Try.prog 125 #[.int .i64 a0] w fun e w'=>e=.returned (.bool r)∧Drawn0 w w':=by
 have H:=h
 clear h
 unfold impl_isSide.f at H
 obtain ⟨t300,A2,H⟩:=bS H
 try dsimp only at H
 obtain rfl:=sI H
 go_enter Try.func125,Try.ntmps125
 go_wp2_with (first|((with_reducible refine gate_callee (f:=99) rfl ?_);refine gL (some 4) Try.func99 #[.int .i64 a0,.int .i64 1,.int .i64 24] ?_;(with_reducible refine (impl_within.calls a0 1 24 t300 _ A2.out).mono ?_);rintro e w' ⟨rfl,⟨nd,rfl⟩⟩;refine ⟨_,rfl,?_⟩))
 go_ret
 exact ⟨fS,by repeat (first|exact Drawn0.refl _|apply Drawn0.step)⟩
end Go.Proofs.Ytjpfhldklbgdcaa.Ld
