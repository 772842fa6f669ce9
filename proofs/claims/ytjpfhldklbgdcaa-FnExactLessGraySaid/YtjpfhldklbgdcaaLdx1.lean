import Derived.Test.YtjpfhldklbgdcaaLdx0
set_option maxHeartbeats 8000000
set_option maxRecDepth 100000
namespace Go.Proofs.Ytjpfhldklbgdcaa.Ld
open Go.RowKit Go.Proofs.Ytjpfhldklbgdcaa.Sq Go.Proofs.YtjpfhldklbgdcaaW.PrintWords Go.Proofs.YtjpfhldklbgdcaaW.PrintLast Go.Proofs.YtjpfhldklbgdcaaW.PrintMore
attribute [local go_sem] max2_int min2_int max_two min_two max_three min_three max_four min_four   -- for this text's walks alone
set_option linter.unusedVariables false
set_option linter.unusedSimpArgs false
def laws_szRgbS.f (l0:List (S106)) (a1:Int):Option (Int):=if (wrap64 (a1 - (l0.length:Int))) < 0 then (some (-1)) else (some (wrap64 (a1 - (l0.length:Int))))
theorem laws_szRgbS.calls (A0:Option Addr) (c0:Nat) (l0:List (S106)) (a1:Int) (r:Int) (w:World) (hr0:Kd.C k106 w A0 l0.length l0) (hc0:l0.length≤c0) (h:laws_szRgbS.f l0 a1=some r):
  Calls Try.prog 33 #[.slice A0 l0.length c0,.int .i64 a1] w fun e w'=>e=.returned (.int .i64 r)∧Drawn0 w w':=by
 have HR0:=Aside0.mk hr0
 have HC0:=Aside0.mk hc0
 clear hr0 hc0
 have H:=h
 clear h
 unfold laws_szRgbS.f at H
 by_cases c3:(wrap64 (a1 - (l0.length:Int))) < 0
 ·rw [if_pos c3] at H
  have c3b0:decide ((wrap64 (a1 - (l0.length:Int))) < 0)=true:=decide_eq_true c3
  clear c3
  obtain rfl:=sI H
  go_enter Try.func33,Try.ntmps33
  go_wp2
  go_ret
  exact ⟨fS,by repeat (first|exact Drawn0.refl _|apply Drawn0.step)⟩
 ·rw [if_neg c3] at H
  have c3b0:decide ((wrap64 (a1 - (l0.length:Int))) < 0)=false:=decide_eq_false c3
  clear c3
  obtain rfl:=sI H
  go_enter Try.func33,Try.ntmps33
  go_wp2
  go_ret
  exact ⟨fS,by repeat (first|exact Drawn0.refl _|apply Drawn0.step)⟩
def laws_szIntS.f (l0:List Int) (a1:Int):Option (Int):=if (wrap64 (a1 - (l0.length:Int))) < 0 then (some (-1)) else (some (wrap64 (a1 - (l0.length:Int))))
theorem laws_szIntS.calls (A0:Option Addr) (c0:Nat) (l0:List Int) (a1:Int) (r:Int) (w:World) (hr0:Kd.C (Kd.int .i64) w A0 l0.length l0) (hc0:l0.length≤c0) (h:laws_szIntS.f l0 a1=some r):
  Calls Try.prog 34 #[.slice A0 l0.length c0,.int .i64 a1] w fun e w'=>e=.returned (.int .i64 r)∧Drawn0 w w':=by
 have HR0:=Aside0.mk hr0
 have HC0:=Aside0.mk hc0
 clear hr0 hc0
 have H:=h
 clear h
 unfold laws_szIntS.f at H
 by_cases c3:(wrap64 (a1 - (l0.length:Int))) < 0
 ·rw [if_pos c3] at H
  have c3b0:decide ((wrap64 (a1 - (l0.length:Int))) < 0)=true:=decide_eq_true c3
  clear c3
  obtain rfl:=sI H
  go_enter Try.func34,Try.ntmps34
  go_wp2
  go_ret
  exact ⟨fS,by repeat (first|exact Drawn0.refl _|apply Drawn0.step)⟩
 ·rw [if_neg c3] at H
  have c3b0:decide ((wrap64 (a1 - (l0.length:Int))) < 0)=false:=decide_eq_false c3
  clear c3
  obtain rfl:=sI H
  go_enter Try.func34,Try.ntmps34
  go_wp2
  go_ret
  exact ⟨fS,by repeat (first|exact Drawn0.refl _|apply Drawn0.step)⟩
def laws_szRaster.f (a0_0:Int) (a0_1:Int) (a0_2:Int) (a0_3:Int) (l0_4:List Int) (a1:Int):Option (Int):=(laws_szIntS.f l0_4 a1).bind fun t102=>(if t102 < 0 then (some (-1)) else (some t102))
theorem laws_szRaster.calls (a0_0:Int) (a0_1:Int) (a0_2:Int) (a0_3:Int) (A0_4:Option Addr) (c0_4:Nat) (l0_4:List Int) (a1:Int) (r:Int) (w:World) (hr0_4:Kd.C (Kd.int .i64) w A0_4 l0_4.length l0_4) (hc0_4:l0_4.length≤c0_4) (h:laws_szRaster.f a0_0 a0_1 a0_2 a0_3 l0_4 a1=some r):
  Calls Try.prog 35 #[.agg #[.int .i64 a0_0,.int .i64 a0_1,.int .i64 a0_2,.int .i64 a0_3,.slice A0_4 l0_4.length c0_4],.int .i64 a1] w fun e w'=>e=.returned (.int .i64 r)∧Below w.heap.size w w':=by
 have hu27:=Try.underlying27
 have HR0_4:=Aside0.mk hr0_4
 have HC0_4:=Aside0.mk hc0_4
 clear hr0_4 hc0_4
 have HB:=Aside0.mk (Below.refl w.heap.size w)
 have H:=h
 clear h
 unfold laws_szRaster.f at H
 obtain ⟨t102,A3,H⟩:=bS H
 try dsimp only at H
 by_cases c4:t102 < 0
 ·rw [if_pos c4] at H
  have c4b0:decide (t102 < 0)=true:=decide_eq_true c4
  clear c4
  obtain rfl:=sI H
  go_enter Try.func35,Try.ntmps35
  go_wp2_with (first|((with_reducible refine gate_dst (N:=2) rfl ?_);refine boxE 2 (#[.int .i64 a0_0,.int .i64 a0_1,.int .i64 a0_2,.int .i64 a0_3,.slice A0_4 l0_4.length c0_4]) 27 ?_;intro gb101 hg w5 hbox hb;have BK101:=Aside0.mk hbox;have GW101:=(gwH (w:=w) hg);have GE101:=(gwH (w:=w) hg);replace HB:=Aside0.mk (below_step bH hb);clear hb hbox hg;obtain ⟨z6_0,z6_1,z6_2,z6_3,z6_4,y6_0,y6_1,y6_2,y6_3,y6_4⟩:=blk5f BK101)|((with_reducible refine gate_callee (f:=34) rfl ?_);refine gL (some 8) Try.func34 #[.slice A0_4 l0_4.length c0_4,.int .i64 a1] ?_;(with_reducible refine (laws_szIntS.calls _ _ l0_4 a1 t102 _ (cB HR0_4) HC0_4.out A3.out).mono ?_);rintro e w' ⟨rfl,⟨nd,rfl⟩⟩;refine ⟨_,rfl,?_⟩))
  go_ret
  exact ⟨fE,bG⟩
 ·rw [if_neg c4] at H
  have c4b0:decide (t102 < 0)=false:=decide_eq_false c4
  clear c4
  obtain rfl:=sI H
  go_enter Try.func35,Try.ntmps35
  go_wp2_with (first|((with_reducible refine gate_dst (N:=2) rfl ?_);refine boxE 2 (#[.int .i64 a0_0,.int .i64 a0_1,.int .i64 a0_2,.int .i64 a0_3,.slice A0_4 l0_4.length c0_4]) 27 ?_;intro gb101 hg w7 hbox hb;have BK101:=Aside0.mk hbox;have GW101:=(gwH (w:=w) hg);have GE101:=(gwH (w:=w) hg);replace HB:=Aside0.mk (below_step bH hb);clear hb hbox hg;obtain ⟨z8_0,z8_1,z8_2,z8_3,z8_4,y8_0,y8_1,y8_2,y8_3,y8_4⟩:=blk5f BK101)|((with_reducible refine gate_callee (f:=34) rfl ?_);refine gL (some 8) Try.func34 #[.slice A0_4 l0_4.length c0_4,.int .i64 a1] ?_;(with_reducible refine (laws_szIntS.calls _ _ l0_4 a1 t102 _ (cB HR0_4) HC0_4.out A3.out).mono ?_);rintro e w' ⟨rfl,⟨nd,rfl⟩⟩;refine ⟨_,rfl,?_⟩))
  go_ret
  exact ⟨fE,bG⟩
def laws_szChunk.f (a0_0:ByteArray) (a0_1:ByteArray) (a1:Int):Option (Int):=if (wrap64 (a1 - (a0_0.size:Int))) < 0 then (some (-1)) else (if (wrap64 ((wrap64 (a1 - (a0_0.size:Int))) - (a0_1.size:Int))) < 0 then (some (-1)) else (some (wrap64 ((wrap64 (a1 - (a0_0.size:Int))) - (a0_1.size:Int)))))
theorem laws_szChunk.calls (a0_0:ByteArray) (a0_1:ByteArray) (a1:Int) (r:Int) (w:World) (h:laws_szChunk.f a0_0 a0_1 a1=some r):
  Calls Try.prog 83 #[.agg #[.string a0_0,.string a0_1],.int .i64 a1] w fun e w'=>e=.returned (.int .i64 r)∧Below w.heap.size w w':=by
 have hu98:=Try.underlying98
 have HB:=Aside0.mk (Below.refl w.heap.size w)
 have H:=h
 clear h
 unfold laws_szChunk.f at H
 by_cases c3:(wrap64 (a1 - (a0_0.size:Int))) < 0
 ·rw [if_pos c3] at H
  have c3b0:decide ((wrap64 (a1 - (a0_0.size:Int))) < 0)=true:=decide_eq_true c3
  clear c3
  obtain rfl:=sI H
  go_enter Try.func83,Try.ntmps83
  go_wp2_with (first|((with_reducible refine gate_dst (N:=2) rfl ?_);refine boxE 2 (#[.string a0_0,.string a0_1]) 98 ?_;intro gb103 hg w4 hbox hb;have BK103:=Aside0.mk hbox;have GW103:=(gwH (w:=w) hg);have GE103:=(gwH (w:=w) hg);replace HB:=Aside0.mk (below_step bH hb);clear hb hbox hg;obtain ⟨z5_0,z5_1,y5_0,y5_1⟩:=blk2f BK103))
  go_ret
  exact ⟨fE,bG⟩
 ·rw [if_neg c3] at H
  have c3b0:decide ((wrap64 (a1 - (a0_0.size:Int))) < 0)=false:=decide_eq_false c3
  clear c3
  by_cases c6:(wrap64 ((wrap64 (a1 - (a0_0.size:Int))) - (a0_1.size:Int))) < 0
  ·rw [if_pos c6] at H
   have c6b0:decide ((wrap64 ((wrap64 (a1 - (a0_0.size:Int))) - (a0_1.size:Int))) < 0)=true:=decide_eq_true c6
   clear c6
   obtain rfl:=sI H
   go_enter Try.func83,Try.ntmps83
   go_wp2_with (first|((with_reducible refine gate_dst (N:=2) rfl ?_);refine boxE 2 (#[.string a0_0,.string a0_1]) 98 ?_;intro gb103 hg w7 hbox hb;have BK103:=Aside0.mk hbox;have GW103:=(gwH (w:=w) hg);have GE103:=(gwH (w:=w) hg);replace HB:=Aside0.mk (below_step bH hb);clear hb hbox hg;obtain ⟨z8_0,z8_1,y8_0,y8_1⟩:=blk2f BK103))
   go_ret
   exact ⟨fE,bG⟩
  ·rw [if_neg c6] at H
   have c6b0:decide ((wrap64 ((wrap64 (a1 - (a0_0.size:Int))) - (a0_1.size:Int))) < 0)=false:=decide_eq_false c6
   clear c6
   obtain rfl:=sI H
   go_enter Try.func83,Try.ntmps83
   go_wp2_with (first|((with_reducible refine gate_dst (N:=2) rfl ?_);refine boxE 2 (#[.string a0_0,.string a0_1]) 98 ?_;intro gb103 hg w9 hbox hb;have BK103:=Aside0.mk hbox;have GW103:=(gwH (w:=w) hg);have GE103:=(gwH (w:=w) hg);replace HB:=Aside0.mk (below_step bH hb);clear hb hbox hg;obtain ⟨z10_0,z10_1,y10_0,y10_1⟩:=blk2f BK103))
   go_ret
   exact ⟨fE,bG⟩
def laws_szChunkS.l0:Nat→List (S98)→Int→Int→Option (Int)
 | 0,_,_,_=>none
 | k+1,x0,x1,x5=>if x5 < (x0.length:Int) then (if 0≤x5 then ((laws_szChunk.f ((rd_T98 x0 x5).f0) ((rd_T98 x0 x5).f1) x1).bind fun t105=>(if t105 < 0 then (some (-1)) else (laws_szChunkS.l0 k x0 t105 (wrap64 (x5+1))))) else (none)) else (some x1)
def laws_szChunkS.f (k:Nat) (l0:List (S98)) (a1:Int):Option (Int):=if (wrap64 (a1 - (l0.length:Int))) < 0 then (some (-1)) else (laws_szChunkS.l0 k l0 (wrap64 (a1 - (l0.length:Int))) 0)
theorem laws_szChunkS.mono_l:∀ k,(∀ y0 y1 y2,LeO (laws_szChunkS.l0 k y0 y1 y2) (laws_szChunkS.l0 (k+1) y0 y1 y2))
 | 0=>fun _ _ _ r h=>by simp [laws_szChunkS.l0] at h
 | k+1=>by
  have ih0:=laws_szChunkS.mono_l k
  ·intro y0 y1 y2
   unfold laws_szChunkS.l0
   repeat' first
   | (with_reducible exact ih0 _ _ _)
   | (with_reducible exact LeO.refl _)
   | (with_reducible exact LeO.none _)
   | (with_reducible refine LeO.ite ?_ ?_)
   | (with_reducible refine LeO.bind ?_ (fun _=>?_))
   | exact ih0 _ _ _
   | exact LeO.none _
   | refine LeO.ite ?_ ?_
   | refine LeO.bind ?_ (fun _=>?_)
theorem laws_szChunkS.mono:∀ a0 a1 k,LeO (laws_szChunkS.f k a0 a1) (laws_szChunkS.f (k+1) a0 a1):=by
 intro a0 a1 k
 have ih0:=laws_szChunkS.mono_l k
 unfold laws_szChunkS.f
 repeat' first
   | (with_reducible exact ih0 _ _ _)
   | (with_reducible exact LeO.refl _)
   | (with_reducible exact LeO.none _)
   | (with_reducible refine LeO.ite ?_ ?_)
   | (with_reducible refine LeO.bind ?_ (fun _=>?_))
   | exact ih0 _ _ _
   | exact LeO.none _
   | refine LeO.ite ?_ ?_
   | refine LeO.bind ?_ (fun _=>?_)
theorem laws_szChunkS.calls (k:Nat) (A0:Option Addr) (c0:Nat) (l0:List (S98)) (a1:Int) (r:Int) (w:World) (hr0:Kd.C k98 w A0 l0.length l0) (hc0:l0.length≤c0) (h:laws_szChunkS.f k l0 a1=some r):
  Calls Try.prog 36 #[.slice A0 l0.length c0,.int .i64 a1] w fun e w'=>e=.returned (.int .i64 r)∧Below w.heap.size w w':=by
 have hu98:=Try.underlying98
 have HR0:=Aside0.mk hr0
 have HC0:=Aside0.mk hc0
 clear hr0 hc0
 have HB:=Aside0.mk (Below.refl w.heap.size w)
 have H:=h
 clear h
 unfold laws_szChunkS.f at H
 by_cases c3:(wrap64 (a1 - (l0.length:Int))) < 0
 ·rw [if_pos c3] at H
  have c3b0:decide ((wrap64 (a1 - (l0.length:Int))) < 0)=true:=decide_eq_true c3
  clear c3
  obtain rfl:=sI H
  go_enter Try.func36,Try.ntmps36
  go_wp2
  go_ret
  exact ⟨fE,bH⟩
 ·rw [if_neg c3] at H
  have c3b0:decide ((wrap64 (a1 - (l0.length:Int))) < 0)=false:=decide_eq_false c3
  clear c3
  have H':=Aside0.mk H
  clear H
  go_enter Try.func36,Try.ntmps36
  go_wp2
  go_loopg [1,5] k (fun kq v1 v5 w'=>∃ (x1_1:Int) (x5_1:Int),v1=.int .i64 x1_1∧v5=.int .i64 x5_1∧Aside0 (laws_szChunkS.l0 kq l0 x1_1 x5_1=some r)∧Aside0 (kq≤k)∧Aside0 (Below w.heap.size w w'))
  case atStart=>exact ⟨(wrap64 (a1 - (l0.length:Int))),(0),fS,fS,H',⟨Nat.le_refl _⟩,⟨bH⟩⟩
  case round =>
   clear H'
   try clear p2
   try clear c3
   try clear c3b0
   obtain ⟨x1_1,x5_1,rfl,rfl,HA,HK1,HB⟩:=hrel
   cases gk with
   | zero=>exact absurd HA.out (by simp [laws_szChunkS.l0])
   | succ k1 =>
    have H:=HA.out
    clear HA
    simp only [laws_szChunkS.l0] at H
    by_cases c4:x5_1 < (l0.length:Int)
    ·rw [if_pos c4] at H
     have c4b0:decide (x5_1 < (l0.length:Int))=true:=decide_eq_true c4
     clear c4
     by_cases c5:0≤x5_1
     ·rw [if_pos c5] at H
      have c5b0:decide (0≤x5_1)=true:=decide_eq_true c5
      clear c5
      obtain ⟨t105,A6,H⟩:=bS H
      try dsimp only at H
      by_cases c7:t105 < 0
      ·rw [if_pos c7] at H
       have c7b0:decide (t105 < 0)=true:=decide_eq_true c7
       clear c7
       obtain rfl:=sI H
       have p104:0≤(x5_1:Int):=oD
       have q104:x5_1 < (l0.length:Int):=oD
       obtain ⟨ad104,e104,hx104_0,hx104_1⟩:=at_T98 HR0.out x5_1 p104 q104
       cases e104
       replace hx104_0:=(HB.out.cell (World.block_lt_of_cell? w _ hx104_0)).trans hx104_0
       replace hx104_1:=(HB.out.cell (World.block_lt_of_cell? w _ hx104_1)).trans hx104_1
       replace p104:=eq_true p104
       replace q104:=eq_true q104
       go_wp2_with (first|((with_reducible refine gate_callee (f:=83) rfl ?_);refine gL (some 23) Try.func83 #[.agg #[.string ((rd_T98 l0 x5_1).f0),.string ((rd_T98 l0 x5_1).f1)],.int .i64 x1_1] ?_;(with_reducible refine (laws_szChunk.calls ((rd_T98 l0 x5_1).f0) ((rd_T98 l0 x5_1).f1) x1_1 t105 _ A6.out).mono ?_);rintro e w8 ⟨rfl,hb⟩;refine ⟨_,rfl,?_⟩;replace HB:=Aside0.mk (below_step bH hb);(try clear hb)))
       go_ret
       exact ⟨fE,bH⟩
      ·rw [if_neg c7] at H
       have c7b0:decide (t105 < 0)=false:=decide_eq_false c7
       clear c7
       have H':=Aside0.mk H
       clear H
       have p104:0≤(x5_1:Int):=oD
       have q104:x5_1 < (l0.length:Int):=oD
       obtain ⟨ad104,e104,hx104_0,hx104_1⟩:=at_T98 HR0.out x5_1 p104 q104
       cases e104
       replace hx104_0:=(HB.out.cell (World.block_lt_of_cell? w _ hx104_0)).trans hx104_0
       replace hx104_1:=(HB.out.cell (World.block_lt_of_cell? w _ hx104_1)).trans hx104_1
       replace p104:=eq_true p104
       replace q104:=eq_true q104
       go_wp2_with (first|((with_reducible refine gate_callee (f:=83) rfl ?_);refine gL (some 23) Try.func83 #[.agg #[.string ((rd_T98 l0 x5_1).f0),.string ((rd_T98 l0 x5_1).f1)],.int .i64 x1_1] ?_;(with_reducible refine (laws_szChunk.calls ((rd_T98 l0 x5_1).f0) ((rd_T98 l0 x5_1).f1) x1_1 t105 _ A6.out).mono ?_);rintro e w9 ⟨rfl,hb⟩;refine ⟨_,rfl,?_⟩;replace HB:=Aside0.mk (below_step bH hb);(try clear hb)))
       go_roundg k1
       case measure=>have:=HK1.out;omega
       case rel=>exact ⟨(t105),(wrap64 (x5_1+1)),fS,fS,H',⟨by have:=HK1.out;omega⟩,⟨bH⟩⟩
     ·rw [if_neg c5] at H
      exact absurd H (by simp)
    ·rw [if_neg c4] at H
     have c4b0:decide (x5_1 < (l0.length:Int))=false:=decide_eq_false c4
     clear c4
     obtain rfl:=sI H
     go_wp2
     go_ret
     exact ⟨fE,bH⟩
def laws_szPng.f (k:Nat) (a0_0:Int) (a0_1:Int) (a0_2:Int) (a0_3:Int) (a0_4:Bool) (l0_5:List (S106)) (l0_6:List Int) (a0_7:Int) (a0_8:Int) (a0_9:Int) (a0_10:Int) (l0_11:List Int) (l0_12:List (S98)) (a1:Int):Option (Int):=(laws_szRgbS.f l0_5 a1).bind fun t107=>(if t107 < 0 then (some (-1)) else ((laws_szIntS.f l0_6 t107).bind fun t108=>(if t108 < 0 then (some (-1)) else ((laws_szRaster.f a0_7 a0_8 a0_9 a0_10 l0_11 t108).bind fun t109=>(if t109 < 0 then (some (-1)) else ((laws_szChunkS.f k l0_12 t109).bind fun t110=>(if t110 < 0 then (some (-1)) else (some t110))))))))
theorem laws_szPng.mono:∀ a0 a1 a2 a3 a4 a5 a6 a7 a8 a9 a10 a11 a12 a13 k,LeO (laws_szPng.f k a0 a1 a2 a3 a4 a5 a6 a7 a8 a9 a10 a11 a12 a13) (laws_szPng.f (k+1) a0 a1 a2 a3 a4 a5 a6 a7 a8 a9 a10 a11 a12 a13):=by
 intro a0 a1 a2 a3 a4 a5 a6 a7 a8 a9 a10 a11 a12 a13 k
 unfold laws_szPng.f
 repeat' first
   | (with_reducible exact laws_szChunkS.mono _ _ _)
   | (with_reducible exact LeO.refl _)
   | (with_reducible exact LeO.none _)
   | (with_reducible refine LeO.ite ?_ ?_)
   | (with_reducible refine LeO.bind ?_ (fun _=>?_))
   | exact laws_szChunkS.mono _ _ _
   | exact LeO.none _
   | refine LeO.ite ?_ ?_
   | refine LeO.bind ?_ (fun _=>?_)
theorem laws_szPng.calls (k:Nat) (a0_0:Int) (a0_1:Int) (a0_2:Int) (a0_3:Int) (a0_4:Bool) (A0_5:Option Addr) (c0_5:Nat) (l0_5:List (S106)) (A0_6:Option Addr) (c0_6:Nat) (l0_6:List Int) (a0_7:Int) (a0_8:Int) (a0_9:Int) (a0_10:Int) (A0_11:Option Addr) (c0_11:Nat) (l0_11:List Int) (A0_12:Option Addr) (c0_12:Nat) (l0_12:List (S98)) (a1:Int) (r:Int) (w:World) (hr0_5:Kd.C k106 w A0_5 l0_5.length l0_5) (hc0_5:l0_5.length≤c0_5) (hr0_6:Kd.C (Kd.int .i64) w A0_6 l0_6.length l0_6) (hc0_6:l0_6.length≤c0_6) (hr0_11:Kd.C (Kd.int .i64) w A0_11 l0_11.length l0_11) (hc0_11:l0_11.length≤c0_11) (hr0_12:Kd.C k98 w A0_12 l0_12.length l0_12) (hc0_12:l0_12.length≤c0_12) (h:laws_szPng.f k a0_0 a0_1 a0_2 a0_3 a0_4 l0_5 l0_6 a0_7 a0_8 a0_9 a0_10 l0_11 l0_12 a1=some r):
  Calls Try.prog 9 #[.agg #[.int .i64 a0_0,.int .i64 a0_1,.int .i64 a0_2,.int .i64 a0_3,.bool a0_4,.slice A0_5 l0_5.length c0_5,.slice A0_6 l0_6.length c0_6,.int .i64 a0_7,.int .i64 a0_8,.int .i64 a0_9,.int .i64 a0_10,.slice A0_11 l0_11.length c0_11,.slice A0_12 l0_12.length c0_12],.int .i64 a1] w fun e w'=>e=.returned (.int .i64 r)∧Below w.heap.size w w':=by
 have hu30:=Try.underlying30
 have hu27:=Try.underlying27
 have HR0_5:=Aside0.mk hr0_5
 have HC0_5:=Aside0.mk hc0_5
 clear hr0_5 hc0_5
 have HR0_6:=Aside0.mk hr0_6
 have HC0_6:=Aside0.mk hc0_6
 clear hr0_6 hc0_6
 have HR0_11:=Aside0.mk hr0_11
 have HC0_11:=Aside0.mk hc0_11
 clear hr0_11 hc0_11
 have HR0_12:=Aside0.mk hr0_12
 have HC0_12:=Aside0.mk hc0_12
 clear hr0_12 hc0_12
 have HB:=Aside0.mk (Below.refl w.heap.size w)
 have H:=h
 clear h
 unfold laws_szPng.f at H
 obtain ⟨t107,A3,H⟩:=bS H
 try dsimp only at H
 by_cases c4:t107 < 0
 ·rw [if_pos c4] at H
  have c4b0:decide (t107 < 0)=true:=decide_eq_true c4
  clear c4
  obtain rfl:=sI H
  go_enter Try.func9,Try.ntmps9
  go_wp2_with (first|((with_reducible refine gate_dst (N:=2) rfl ?_);refine boxE 2 (#[.int .i64 a0_0,.int .i64 a0_1,.int .i64 a0_2,.int .i64 a0_3,.bool a0_4,.slice A0_5 l0_5.length c0_5,.slice A0_6 l0_6.length c0_6,.int .i64 a0_7,.int .i64 a0_8,.int .i64 a0_9,.int .i64 a0_10,.slice A0_11 l0_11.length c0_11,.slice A0_12 l0_12.length c0_12]) 30 ?_;intro gb106 hg w5 hbox hb;have BK106:=Aside0.mk hbox;have GW106:=(gwH (w:=w) hg);have GE106:=(gwH (w:=w) hg);replace HB:=Aside0.mk (below_step bH hb);clear hb hbox hg;obtain ⟨z6_0,z6_1,z6_2,z6_3,z6_4,z6_5,z6_6,z6_7,z6_8,z6_9,z6_10,z6_11,z6_12,y6_0,y6_1,y6_2,y6_3,y6_4,y6_5,y6_6,y6_7,y6_8,y6_9,y6_10,y6_11,y6_12⟩:=blk13f BK106)|((with_reducible refine gate_callee (f:=33) rfl ?_);refine gL (some 8) Try.func33 #[.slice A0_5 l0_5.length c0_5,.int .i64 a1] ?_;(with_reducible refine (laws_szRgbS.calls _ _ l0_5 a1 t107 _ (cB HR0_5) HC0_5.out A3.out).mono ?_);rintro e w' ⟨rfl,⟨nd,rfl⟩⟩;refine ⟨_,rfl,?_⟩))
  go_ret
  exact ⟨fE,bG⟩
 ·rw [if_neg c4] at H
  have c4b0:decide (t107 < 0)=false:=decide_eq_false c4
  clear c4
  obtain ⟨t108,A7,H⟩:=bS H
  try dsimp only at H
  by_cases c8:t108 < 0
  ·rw [if_pos c8] at H
   have c8b0:decide (t108 < 0)=true:=decide_eq_true c8
   clear c8
   obtain rfl:=sI H
   go_enter Try.func9,Try.ntmps9
   go_wp2_with (first|((with_reducible refine gate_dst (N:=2) rfl ?_);refine boxE 2 (#[.int .i64 a0_0,.int .i64 a0_1,.int .i64 a0_2,.int .i64 a0_3,.bool a0_4,.slice A0_5 l0_5.length c0_5,.slice A0_6 l0_6.length c0_6,.int .i64 a0_7,.int .i64 a0_8,.int .i64 a0_9,.int .i64 a0_10,.slice A0_11 l0_11.length c0_11,.slice A0_12 l0_12.length c0_12]) 30 ?_;intro gb106 hg w9 hbox hb;have BK106:=Aside0.mk hbox;have GW106:=(gwH (w:=w) hg);have GE106:=(gwH (w:=w) hg);replace HB:=Aside0.mk (below_step bH hb);clear hb hbox hg;obtain ⟨z10_0,z10_1,z10_2,z10_3,z10_4,z10_5,z10_6,z10_7,z10_8,z10_9,z10_10,z10_11,z10_12,y10_0,y10_1,y10_2,y10_3,y10_4,y10_5,y10_6,y10_7,y10_8,y10_9,y10_10,y10_11,y10_12⟩:=blk13f BK106)|((with_reducible refine gate_callee (f:=33) rfl ?_);refine gL (some 8) Try.func33 #[.slice A0_5 l0_5.length c0_5,.int .i64 a1] ?_;(with_reducible refine (laws_szRgbS.calls _ _ l0_5 a1 t107 _ (cB HR0_5) HC0_5.out A3.out).mono ?_);rintro e w' ⟨rfl,⟨nd,rfl⟩⟩;refine ⟨_,rfl,?_⟩)|((with_reducible refine gate_callee (f:=34) rfl ?_);refine gL (some 14) Try.func34 #[.slice A0_6 l0_6.length c0_6,.int .i64 t107] ?_;(with_reducible refine (laws_szIntS.calls _ _ l0_6 t107 t108 _ ?side1 HC0_6.out A7.out).mono ?_);(case side1=>repeat (first|exact (Kd.C_below HR0_6.out bG)|(with_reducible refine Kd.C_alloc ?_ _)|(with_reducible refine Kd.C_drewN ?_ _)|(with_reducible refine Kd.C_drew ?_)));rintro e w' ⟨rfl,⟨nd,rfl⟩⟩;refine ⟨_,rfl,?_⟩))
   go_ret
   exact ⟨fE,bG⟩
  ·rw [if_neg c8] at H
   have c8b0:decide (t108 < 0)=false:=decide_eq_false c8
   clear c8
   obtain ⟨t109,A11,H⟩:=bS H
   try dsimp only at H
   by_cases c12:t109 < 0
   ·rw [if_pos c12] at H
    have c12b0:decide (t109 < 0)=true:=decide_eq_true c12
    clear c12
    obtain rfl:=sI H
    go_enter Try.func9,Try.ntmps9
    go_wp2_with (first|((with_reducible refine gate_dst (N:=2) rfl ?_);refine boxE 2 (#[.int .i64 a0_0,.int .i64 a0_1,.int .i64 a0_2,.int .i64 a0_3,.bool a0_4,.slice A0_5 l0_5.length c0_5,.slice A0_6 l0_6.length c0_6,.int .i64 a0_7,.int .i64 a0_8,.int .i64 a0_9,.int .i64 a0_10,.slice A0_11 l0_11.length c0_11,.slice A0_12 l0_12.length c0_12]) 30 ?_;intro gb106 hg w13 hbox hb;have BK106:=Aside0.mk hbox;have GW106:=(gwH (w:=w) hg);have GE106:=(gwH (w:=w) hg);replace HB:=Aside0.mk (below_step bH hb);clear hb hbox hg;obtain ⟨z14_0,z14_1,z14_2,z14_3,z14_4,z14_5,z14_6,z14_7,z14_8,z14_9,z14_10,z14_11,z14_12,y14_0,y14_1,y14_2,y14_3,y14_4,y14_5,y14_6,y14_7,y14_8,y14_9,y14_10,y14_11,y14_12⟩:=blk13f BK106)|((with_reducible refine gate_callee (f:=33) rfl ?_);refine gL (some 8) Try.func33 #[.slice A0_5 l0_5.length c0_5,.int .i64 a1] ?_;(with_reducible refine (laws_szRgbS.calls _ _ l0_5 a1 t107 _ (cB HR0_5) HC0_5.out A3.out).mono ?_);rintro e w' ⟨rfl,⟨nd,rfl⟩⟩;refine ⟨_,rfl,?_⟩)|((with_reducible refine gate_callee (f:=34) rfl ?_);refine gL (some 14) Try.func34 #[.slice A0_6 l0_6.length c0_6,.int .i64 t107] ?_;(with_reducible refine (laws_szIntS.calls _ _ l0_6 t107 t108 _ ?side1 HC0_6.out A7.out).mono ?_);(case side1=>repeat (first|exact (Kd.C_below HR0_6.out bG)|(with_reducible refine Kd.C_alloc ?_ _)|(with_reducible refine Kd.C_drewN ?_ _)|(with_reducible refine Kd.C_drew ?_)));rintro e w' ⟨rfl,⟨nd,rfl⟩⟩;refine ⟨_,rfl,?_⟩)|((with_reducible refine gate_callee (f:=35) rfl ?_);refine gL (some 20) Try.func35 #[.agg #[.int .i64 a0_7,.int .i64 a0_8,.int .i64 a0_9,.int .i64 a0_10,.slice A0_11 l0_11.length c0_11],.int .i64 t108] ?_;(with_reducible refine (laws_szRaster.calls a0_7 a0_8 a0_9 a0_10 _ _ l0_11 t108 t109 _ ?side1 HC0_11.out A11.out).mono ?_);(case side1=>repeat (first|exact (Kd.C_below HR0_11.out bG)|(with_reducible refine Kd.C_alloc ?_ _)|(with_reducible refine Kd.C_drewN ?_ _)|(with_reducible refine Kd.C_drew ?_)));rintro e w15 ⟨rfl,hb⟩;refine ⟨_,rfl,?_⟩;replace BK106:=Aside0.mk (bkb BK106 hb);replace HB:=Aside0.mk (below_step bG hb);(try clear hb)))
    go_ret
    exact ⟨fE,bG⟩
   ·rw [if_neg c12] at H
    have c12b0:decide (t109 < 0)=false:=decide_eq_false c12
    clear c12
    obtain ⟨t110,A16,H⟩:=bS H
    try dsimp only at H
    by_cases c17:t110 < 0
    ·rw [if_pos c17] at H
     have c17b0:decide (t110 < 0)=true:=decide_eq_true c17
     clear c17
     obtain rfl:=sI H
     go_enter Try.func9,Try.ntmps9
     go_wp2_with (first|((with_reducible refine gate_dst (N:=2) rfl ?_);refine boxE 2 (#[.int .i64 a0_0,.int .i64 a0_1,.int .i64 a0_2,.int .i64 a0_3,.bool a0_4,.slice A0_5 l0_5.length c0_5,.slice A0_6 l0_6.length c0_6,.int .i64 a0_7,.int .i64 a0_8,.int .i64 a0_9,.int .i64 a0_10,.slice A0_11 l0_11.length c0_11,.slice A0_12 l0_12.length c0_12]) 30 ?_;intro gb106 hg w18 hbox hb;have BK106:=Aside0.mk hbox;have GW106:=(gwH (w:=w) hg);have GE106:=(gwH (w:=w) hg);replace HB:=Aside0.mk (below_step bH hb);clear hb hbox hg;obtain ⟨z19_0,z19_1,z19_2,z19_3,z19_4,z19_5,z19_6,z19_7,z19_8,z19_9,z19_10,z19_11,z19_12,y19_0,y19_1,y19_2,y19_3,y19_4,y19_5,y19_6,y19_7,y19_8,y19_9,y19_10,y19_11,y19_12⟩:=blk13f BK106)|((with_reducible refine gate_callee (f:=33) rfl ?_);refine gL (some 8) Try.func33 #[.slice A0_5 l0_5.length c0_5,.int .i64 a1] ?_;(with_reducible refine (laws_szRgbS.calls _ _ l0_5 a1 t107 _ (cB HR0_5) HC0_5.out A3.out).mono ?_);rintro e w' ⟨rfl,⟨nd,rfl⟩⟩;refine ⟨_,rfl,?_⟩)|((with_reducible refine gate_callee (f:=34) rfl ?_);refine gL (some 14) Try.func34 #[.slice A0_6 l0_6.length c0_6,.int .i64 t107] ?_;(with_reducible refine (laws_szIntS.calls _ _ l0_6 t107 t108 _ ?side1 HC0_6.out A7.out).mono ?_);(case side1=>repeat (first|exact (Kd.C_below HR0_6.out bG)|(with_reducible refine Kd.C_alloc ?_ _)|(with_reducible refine Kd.C_drewN ?_ _)|(with_reducible refine Kd.C_drew ?_)));rintro e w' ⟨rfl,⟨nd,rfl⟩⟩;refine ⟨_,rfl,?_⟩)|((with_reducible refine gate_callee (f:=35) rfl ?_);refine gL (some 20) Try.func35 #[.agg #[.int .i64 a0_7,.int .i64 a0_8,.int .i64 a0_9,.int .i64 a0_10,.slice A0_11 l0_11.length c0_11],.int .i64 t108] ?_;(with_reducible refine (laws_szRaster.calls a0_7 a0_8 a0_9 a0_10 _ _ l0_11 t108 t109 _ ?side1 HC0_11.out A11.out).mono ?_);(case side1=>repeat (first|exact (Kd.C_below HR0_11.out bG)|(with_reducible refine Kd.C_alloc ?_ _)|(with_reducible refine Kd.C_drewN ?_ _)|(with_reducible refine Kd.C_drew ?_)));rintro e w20 ⟨rfl,hb⟩;refine ⟨_,rfl,?_⟩;replace BK106:=Aside0.mk (bkb BK106 hb);replace HB:=Aside0.mk (below_step bG hb);(try clear hb);obtain ⟨z21_0,z21_1,z21_2,z21_3,z21_4,z21_5,z21_6,z21_7,z21_8,z21_9,z21_10,z21_11,z21_12,y21_0,y21_1,y21_2,y21_3,y21_4,y21_5,y21_6,y21_7,y21_8,y21_9,y21_10,y21_11,y21_12⟩:=blk13f BK106)|((with_reducible refine gate_callee (f:=36) rfl ?_);refine gL (some 26) Try.func36 #[.slice A0_12 l0_12.length c0_12,.int .i64 t109] ?_;(with_reducible refine (laws_szChunkS.calls k _ _ l0_12 t109 t110 _ (cB HR0_12) HC0_12.out A16.out).mono ?_);rintro e w22 ⟨rfl,hb⟩;refine ⟨_,rfl,?_⟩;replace BK106:=Aside0.mk (bkb BK106 hb);replace HB:=Aside0.mk (below_step bG hb);(try clear hb)))
     go_ret
     exact ⟨fE,bG⟩
    ·rw [if_neg c17] at H
     have c17b0:decide (t110 < 0)=false:=decide_eq_false c17
     clear c17
     obtain rfl:=sI H
     go_enter Try.func9,Try.ntmps9
     go_wp2_with (first|((with_reducible refine gate_dst (N:=2) rfl ?_);refine boxE 2 (#[.int .i64 a0_0,.int .i64 a0_1,.int .i64 a0_2,.int .i64 a0_3,.bool a0_4,.slice A0_5 l0_5.length c0_5,.slice A0_6 l0_6.length c0_6,.int .i64 a0_7,.int .i64 a0_8,.int .i64 a0_9,.int .i64 a0_10,.slice A0_11 l0_11.length c0_11,.slice A0_12 l0_12.length c0_12]) 30 ?_;intro gb106 hg w23 hbox hb;have BK106:=Aside0.mk hbox;have GW106:=(gwH (w:=w) hg);have GE106:=(gwH (w:=w) hg);replace HB:=Aside0.mk (below_step bH hb);clear hb hbox hg;obtain ⟨z24_0,z24_1,z24_2,z24_3,z24_4,z24_5,z24_6,z24_7,z24_8,z24_9,z24_10,z24_11,z24_12,y24_0,y24_1,y24_2,y24_3,y24_4,y24_5,y24_6,y24_7,y24_8,y24_9,y24_10,y24_11,y24_12⟩:=blk13f BK106)|((with_reducible refine gate_callee (f:=33) rfl ?_);refine gL (some 8) Try.func33 #[.slice A0_5 l0_5.length c0_5,.int .i64 a1] ?_;(with_reducible refine (laws_szRgbS.calls _ _ l0_5 a1 t107 _ (cB HR0_5) HC0_5.out A3.out).mono ?_);rintro e w' ⟨rfl,⟨nd,rfl⟩⟩;refine ⟨_,rfl,?_⟩)|((with_reducible refine gate_callee (f:=34) rfl ?_);refine gL (some 14) Try.func34 #[.slice A0_6 l0_6.length c0_6,.int .i64 t107] ?_;(with_reducible refine (laws_szIntS.calls _ _ l0_6 t107 t108 _ ?side1 HC0_6.out A7.out).mono ?_);(case side1=>repeat (first|exact (Kd.C_below HR0_6.out bG)|(with_reducible refine Kd.C_alloc ?_ _)|(with_reducible refine Kd.C_drewN ?_ _)|(with_reducible refine Kd.C_drew ?_)));rintro e w' ⟨rfl,⟨nd,rfl⟩⟩;refine ⟨_,rfl,?_⟩)|((with_reducible refine gate_callee (f:=35) rfl ?_);refine gL (some 20) Try.func35 #[.agg #[.int .i64 a0_7,.int .i64 a0_8,.int .i64 a0_9,.int .i64 a0_10,.slice A0_11 l0_11.length c0_11],.int .i64 t108] ?_;(with_reducible refine (laws_szRaster.calls a0_7 a0_8 a0_9 a0_10 _ _ l0_11 t108 t109 _ ?side1 HC0_11.out A11.out).mono ?_);(case side1=>repeat (first|exact (Kd.C_below HR0_11.out bG)|(with_reducible refine Kd.C_alloc ?_ _)|(with_reducible refine Kd.C_drewN ?_ _)|(with_reducible refine Kd.C_drew ?_)));rintro e w25 ⟨rfl,hb⟩;refine ⟨_,rfl,?_⟩;replace BK106:=Aside0.mk (bkb BK106 hb);replace HB:=Aside0.mk (below_step bG hb);(try clear hb);obtain ⟨z26_0,z26_1,z26_2,z26_3,z26_4,z26_5,z26_6,z26_7,z26_8,z26_9,z26_10,z26_11,z26_12,y26_0,y26_1,y26_2,y26_3,y26_4,y26_5,y26_6,y26_7,y26_8,y26_9,y26_10,y26_11,y26_12⟩:=blk13f BK106)|((with_reducible refine gate_callee (f:=36) rfl ?_);refine gL (some 26) Try.func36 #[.slice A0_12 l0_12.length c0_12,.int .i64 t109] ?_;(with_reducible refine (laws_szChunkS.calls k _ _ l0_12 t109 t110 _ (cB HR0_12) HC0_12.out A16.out).mono ?_);rintro e w27 ⟨rfl,hb⟩;refine ⟨_,rfl,?_⟩;replace BK106:=Aside0.mk (bkb BK106 hb);replace HB:=Aside0.mk (below_step bG hb);(try clear hb)))
     go_ret
     exact ⟨fE,bG⟩
def spec_l16Letter.f (a0:Int):Option (Bool):=if a0≥65 then (if a0≤90 then (some true) else (if a0≥97 then (some (decide (a0≤122))) else (some false))) else (if a0≥97 then (some (decide (a0≤122))) else (some false))
theorem spec_l16Letter.calls (a0:Int) (r:Bool) (w:World) (h:spec_l16Letter.f a0=some r):
  Calls Try.prog 130 #[.int .u8 a0] w fun e w'=>e=.returned (.bool r)∧Drawn0 w w':=by
 have H:=h
 clear h
 unfold spec_l16Letter.f at H
 by_cases c2:a0≥65
 ·rw [if_pos c2] at H
  have c2b0:decide (65≤a0)=true:=decide_eq_true c2
  clear c2
  by_cases c3:a0≤90
  ·rw [if_pos c3] at H
   have c3b0:decide (a0≤90)=true:=decide_eq_true c3
   clear c3
   obtain rfl:=sI H
   go_enter Try.func130,Try.ntmps130
   go_wp2
   go_ret
   exact ⟨fS,by repeat (first|exact Drawn0.refl _|apply Drawn0.step)⟩
  ·rw [if_neg c3] at H
   have c3b0:decide (a0≤90)=false:=decide_eq_false c3
   clear c3
   by_cases c4:a0≥97
   ·rw [if_pos c4] at H
    have c4b0:decide (97≤a0)=true:=decide_eq_true c4
    clear c4
    obtain rfl:=sI H
    go_enter Try.func130,Try.ntmps130
    go_wp2
    go_ret
    exact ⟨fS,by repeat (first|exact Drawn0.refl _|apply Drawn0.step)⟩
   ·rw [if_neg c4] at H
    have c4b0:decide (97≤a0)=false:=decide_eq_false c4
    clear c4
    obtain rfl:=sI H
    go_enter Try.func130,Try.ntmps130
    go_wp2
    go_ret
    exact ⟨fS,by repeat (first|exact Drawn0.refl _|apply Drawn0.step)⟩
 ·rw [if_neg c2] at H
  have c2b0:decide (65≤a0)=false:=decide_eq_false c2
  clear c2
  by_cases c5:a0≥97
  ·rw [if_pos c5] at H
   have c5b0:decide (97≤a0)=true:=decide_eq_true c5
   clear c5
   obtain rfl:=sI H
   go_enter Try.func130,Try.ntmps130
   go_wp2
   go_ret
   exact ⟨fS,by repeat (first|exact Drawn0.refl _|apply Drawn0.step)⟩
  ·rw [if_neg c5] at H
   have c5b0:decide (97≤a0)=false:=decide_eq_false c5
   clear c5
   obtain rfl:=sI H
   go_enter Try.func130,Try.ntmps130
   go_wp2
   go_ret
   exact ⟨fS,by repeat (first|exact Drawn0.refl _|apply Drawn0.step)⟩
def spec_NameOk.f (a0:ByteArray):Option (Bool):=if (a0.size:Int)=4 then (if 0 < (a0.size:Int) then ((spec_l16Letter.f (bt a0 0)).bind fun t111=>(if t111=true then (if 1 < (a0.size:Int) then ((spec_l16Letter.f (bt a0 1)).bind fun t112=>(if t112=true then (if 2 < (a0.size:Int) then ((spec_l16Letter.f (bt a0 2)).bind fun t113=>(if t113=true then (if 3 < (a0.size:Int) then ((spec_l16Letter.f (bt a0 3)).bind fun t114=>(if t114=true then (some (decide ((bt a0 2)≤90))) else (some false))) else (none)) else (some false))) else (none)) else (some false))) else (none)) else (some false))) else (none)) else (some false)
theorem spec_NameOk.calls (a0:ByteArray) (r:Bool) (w:World) (h:spec_NameOk.f a0=some r):
  Calls Try.prog 113 #[.string a0] w fun e w'=>e=.returned (.bool r)∧Drawn0 w w':=by
 have H:=h
 clear h
 unfold spec_NameOk.f at H
 by_cases c2:(a0.size:Int)=4
 ·rw [if_pos c2] at H
  have c2b0:((a0.size:Int) == 4)=true:=beq_iff_eq.mpr c2
  have c2b1:((a0.size:Int) != 4)=false:=bne_eq_false_iff_eq.mpr c2
  clear c2
  by_cases c3:0 < (a0.size:Int)
  ·rw [if_pos c3] at H
   have c3b0:decide (0 < (a0.size:Int))=true:=decide_eq_true c3
   have c3b1:decide (0 < a0.size)=true:=decide_eq_true (by omega)
   clear c3
   obtain ⟨t111,A5,H⟩:=bS H
   try dsimp only at H
   by_cases c6:t111=true
   ·subst c6
    rw [if_pos rfl] at H
    by_cases c7:1 < (a0.size:Int)
    ·rw [if_pos c7] at H
     have c7b0:decide (1 < (a0.size:Int))=true:=decide_eq_true c7
     have c7b1:decide (1 < a0.size)=true:=decide_eq_true (by omega)
     clear c7
     obtain ⟨t112,A9,H⟩:=bS H
     try dsimp only at H
     by_cases c10:t112=true
     ·subst c10
      rw [if_pos rfl] at H
      by_cases c11:2 < (a0.size:Int)
      ·rw [if_pos c11] at H
       have c11b0:decide (2 < (a0.size:Int))=true:=decide_eq_true c11
       have c11b1:decide (2 < a0.size)=true:=decide_eq_true (by omega)
       clear c11
       obtain ⟨t113,A13,H⟩:=bS H
       try dsimp only at H
       by_cases c14:t113=true
       ·subst c14
        rw [if_pos rfl] at H
        by_cases c15:3 < (a0.size:Int)
        ·rw [if_pos c15] at H
         have c15b0:decide (3 < (a0.size:Int))=true:=decide_eq_true c15
         have c15b1:decide (3 < a0.size)=true:=decide_eq_true (by omega)
         clear c15
         obtain ⟨t114,A17,H⟩:=bS H
         try dsimp only at H
         by_cases c18:t114=true
         ·subst c18
          rw [if_pos rfl] at H
          obtain rfl:=sI H
          have p4:0≤(0:Int):=(by omega)
          have q4:0 < a0.size:=(by have:(0:Int) < (a0.size:Int):=oD;omega)
          have hx4:∀ h:0 < a0.size,((a0[0]'h).toNat:Int)=bt a0 0:=bt_at a0 0
          clear p4
          have qi4:(0 < (a0.size:Int))=True:=eq_true (oD)
          replace q4:=eq_true q4
          go_enter Try.func113,Try.ntmps113
          go_wp2_with (first|(go_at_call 130;(with_reducible refine (spec_l16Letter.calls (bt a0 0) true _ A5.out).mono ?_);rintro e w' ⟨rfl,⟨nd,rfl⟩⟩;have p8:0≤(1:Int):=(by omega);have q8:1 < a0.size:=(by have:(1:Int) < (a0.size:Int):=oD;omega);have hx8:∀ h:1 < a0.size,((a0[1]'h).toNat:Int)=bt a0 1:=bt_at a0 1;clear p8;have qi8:(1 < (a0.size:Int))=True:=eq_true (oD);replace q8:=eq_true q8)|(go_at_call 130;(with_reducible refine (spec_l16Letter.calls (bt a0 1) true _ A9.out).mono ?_);rintro e w' ⟨rfl,⟨nd,rfl⟩⟩;have p12:0≤(2:Int):=(by omega);have q12:2 < a0.size:=(by have:(2:Int) < (a0.size:Int):=oD;omega);have hx12:∀ h:2 < a0.size,((a0[2]'h).toNat:Int)=bt a0 2:=bt_at a0 2;clear p12;have qi12:(2 < (a0.size:Int))=True:=eq_true (oD);replace q12:=eq_true q12)|(go_at_call 130;(with_reducible refine (spec_l16Letter.calls (bt a0 2) true _ A13.out).mono ?_);rintro e w' ⟨rfl,⟨nd,rfl⟩⟩;have p16:0≤(3:Int):=(by omega);have q16:3 < a0.size:=(by have:(3:Int) < (a0.size:Int):=oD;omega);have hx16:∀ h:3 < a0.size,((a0[3]'h).toNat:Int)=bt a0 3:=bt_at a0 3;clear p16;have qi16:(3 < (a0.size:Int))=True:=eq_true (oD);replace q16:=eq_true q16)|(go_at_call 130;(with_reducible refine (spec_l16Letter.calls (bt a0 3) true _ A17.out).mono ?_);rintro e w' ⟨rfl,⟨nd,rfl⟩⟩;have p19:0≤(2:Int):=(by omega);have q19:2 < a0.size:=(by have:(2:Int) < (a0.size:Int):=oD;omega);have hx19:∀ h:2 < a0.size,((a0[2]'h).toNat:Int)=bt a0 2:=bt_at a0 2;clear p19;have qi19:(2 < (a0.size:Int))=True:=eq_true (oD);replace q19:=eq_true q19))
          go_ret
          exact ⟨fS,by repeat (first|exact Drawn0.refl _|apply Drawn0.step)⟩
         ·obtain rfl:=bF c18
          rw [if_neg nF] at H
          obtain rfl:=sI H
          have p4:0≤(0:Int):=(by omega)
          have q4:0 < a0.size:=(by have:(0:Int) < (a0.size:Int):=oD;omega)
          have hx4:∀ h:0 < a0.size,((a0[0]'h).toNat:Int)=bt a0 0:=bt_at a0 0
          clear p4
          have qi4:(0 < (a0.size:Int))=True:=eq_true (oD)
          replace q4:=eq_true q4
          go_enter Try.func113,Try.ntmps113
          go_wp2_with (first|(go_at_call 130;(with_reducible refine (spec_l16Letter.calls (bt a0 0) true _ A5.out).mono ?_);rintro e w' ⟨rfl,⟨nd,rfl⟩⟩;have p8:0≤(1:Int):=(by omega);have q8:1 < a0.size:=(by have:(1:Int) < (a0.size:Int):=oD;omega);have hx8:∀ h:1 < a0.size,((a0[1]'h).toNat:Int)=bt a0 1:=bt_at a0 1;clear p8;have qi8:(1 < (a0.size:Int))=True:=eq_true (oD);replace q8:=eq_true q8)|(go_at_call 130;(with_reducible refine (spec_l16Letter.calls (bt a0 1) true _ A9.out).mono ?_);rintro e w' ⟨rfl,⟨nd,rfl⟩⟩;have p12:0≤(2:Int):=(by omega);have q12:2 < a0.size:=(by have:(2:Int) < (a0.size:Int):=oD;omega);have hx12:∀ h:2 < a0.size,((a0[2]'h).toNat:Int)=bt a0 2:=bt_at a0 2;clear p12;have qi12:(2 < (a0.size:Int))=True:=eq_true (oD);replace q12:=eq_true q12)|(go_at_call 130;(with_reducible refine (spec_l16Letter.calls (bt a0 2) true _ A13.out).mono ?_);rintro e w' ⟨rfl,⟨nd,rfl⟩⟩;have p16:0≤(3:Int):=(by omega);have q16:3 < a0.size:=(by have:(3:Int) < (a0.size:Int):=oD;omega);have hx16:∀ h:3 < a0.size,((a0[3]'h).toNat:Int)=bt a0 3:=bt_at a0 3;clear p16;have qi16:(3 < (a0.size:Int))=True:=eq_true (oD);replace q16:=eq_true q16)|(go_at_call 130;(with_reducible refine (spec_l16Letter.calls (bt a0 3) false _ A17.out).mono ?_);rintro e w' ⟨rfl,⟨nd,rfl⟩⟩))
          go_ret
          exact ⟨fS,by repeat (first|exact Drawn0.refl _|apply Drawn0.step)⟩
        ·rw [if_neg c15] at H
         exact absurd H (by simp)
       ·obtain rfl:=bF c14
        rw [if_neg nF] at H
        obtain rfl:=sI H
        have p4:0≤(0:Int):=(by omega)
        have q4:0 < a0.size:=(by have:(0:Int) < (a0.size:Int):=oD;omega)
        have hx4:∀ h:0 < a0.size,((a0[0]'h).toNat:Int)=bt a0 0:=bt_at a0 0
        clear p4
        have qi4:(0 < (a0.size:Int))=True:=eq_true (oD)
        replace q4:=eq_true q4
        go_enter Try.func113,Try.ntmps113
        go_wp2_with (first|(go_at_call 130;(with_reducible refine (spec_l16Letter.calls (bt a0 0) true _ A5.out).mono ?_);rintro e w' ⟨rfl,⟨nd,rfl⟩⟩;have p8:0≤(1:Int):=(by omega);have q8:1 < a0.size:=(by have:(1:Int) < (a0.size:Int):=oD;omega);have hx8:∀ h:1 < a0.size,((a0[1]'h).toNat:Int)=bt a0 1:=bt_at a0 1;clear p8;have qi8:(1 < (a0.size:Int))=True:=eq_true (oD);replace q8:=eq_true q8)|(go_at_call 130;(with_reducible refine (spec_l16Letter.calls (bt a0 1) true _ A9.out).mono ?_);rintro e w' ⟨rfl,⟨nd,rfl⟩⟩;have p12:0≤(2:Int):=(by omega);have q12:2 < a0.size:=(by have:(2:Int) < (a0.size:Int):=oD;omega);have hx12:∀ h:2 < a0.size,((a0[2]'h).toNat:Int)=bt a0 2:=bt_at a0 2;clear p12;have qi12:(2 < (a0.size:Int))=True:=eq_true (oD);replace q12:=eq_true q12)|(go_at_call 130;(with_reducible refine (spec_l16Letter.calls (bt a0 2) false _ A13.out).mono ?_);rintro e w' ⟨rfl,⟨nd,rfl⟩⟩))
        go_ret
        exact ⟨fS,by repeat (first|exact Drawn0.refl _|apply Drawn0.step)⟩
      ·rw [if_neg c11] at H
       exact absurd H (by simp)
     ·obtain rfl:=bF c10
      rw [if_neg nF] at H
      obtain rfl:=sI H
      have p4:0≤(0:Int):=(by omega)
      have q4:0 < a0.size:=(by have:(0:Int) < (a0.size:Int):=oD;omega)
      have hx4:∀ h:0 < a0.size,((a0[0]'h).toNat:Int)=bt a0 0:=bt_at a0 0
      clear p4
      have qi4:(0 < (a0.size:Int))=True:=eq_true (oD)
      replace q4:=eq_true q4
      go_enter Try.func113,Try.ntmps113
      go_wp2_with (first|(go_at_call 130;(with_reducible refine (spec_l16Letter.calls (bt a0 0) true _ A5.out).mono ?_);rintro e w' ⟨rfl,⟨nd,rfl⟩⟩;have p8:0≤(1:Int):=(by omega);have q8:1 < a0.size:=(by have:(1:Int) < (a0.size:Int):=oD;omega);have hx8:∀ h:1 < a0.size,((a0[1]'h).toNat:Int)=bt a0 1:=bt_at a0 1;clear p8;have qi8:(1 < (a0.size:Int))=True:=eq_true (oD);replace q8:=eq_true q8)|(go_at_call 130;(with_reducible refine (spec_l16Letter.calls (bt a0 1) false _ A9.out).mono ?_);rintro e w' ⟨rfl,⟨nd,rfl⟩⟩))
      go_ret
      exact ⟨fS,by repeat (first|exact Drawn0.refl _|apply Drawn0.step)⟩
    ·rw [if_neg c7] at H
     exact absurd H (by simp)
   ·obtain rfl:=bF c6
    rw [if_neg nF] at H
    obtain rfl:=sI H
    have p4:0≤(0:Int):=(by omega)
    have q4:0 < a0.size:=(by have:(0:Int) < (a0.size:Int):=oD;omega)
    have hx4:∀ h:0 < a0.size,((a0[0]'h).toNat:Int)=bt a0 0:=bt_at a0 0
    clear p4
    have qi4:(0 < (a0.size:Int))=True:=eq_true (oD)
    replace q4:=eq_true q4
    go_enter Try.func113,Try.ntmps113
    go_wp2_with (first|(go_at_call 130;(with_reducible refine (spec_l16Letter.calls (bt a0 0) false _ A5.out).mono ?_);rintro e w' ⟨rfl,⟨nd,rfl⟩⟩))
    go_ret
    exact ⟨fS,by repeat (first|exact Drawn0.refl _|apply Drawn0.step)⟩
  ·rw [if_neg c3] at H
   exact absurd H (by simp)
 ·rw [if_neg c2] at H
  have c2b0:((a0.size:Int) == 4)=false:=beq_eq_false_iff_ne.mpr c2
  have c2b1:((a0.size:Int) != 4)=true:=bne_iff_ne.mpr c2
  obtain rfl:=sI H
  go_enter Try.func113,Try.ntmps113
  go_wp2
  go_ret
  exact ⟨fS,by repeat (first|exact Drawn0.refl _|apply Drawn0.step)⟩
def spec_SafeToCopy.f (a0:ByteArray):Option (Bool):=(spec_NameOk.f a0).bind fun t115=>(if t115=true then (if 3 < (a0.size:Int) then (some (decide ((bt a0 3)≥97))) else (none)) else (some false))
theorem spec_SafeToCopy.calls (a0:ByteArray) (r:Bool) (w:World) (h:spec_SafeToCopy.f a0=some r):
  Calls Try.prog 81 #[.string a0] w fun e w'=>e=.returned (.bool r)∧Drawn0 w w':=by
 have H:=h
 clear h
 unfold spec_SafeToCopy.f at H
 obtain ⟨t115,A2,H⟩:=bS H
 try dsimp only at H
 by_cases c3:t115=true
 ·subst c3
  rw [if_pos rfl] at H
  by_cases c4:3 < (a0.size:Int)
  ·rw [if_pos c4] at H
   have c4b0:decide (3 < (a0.size:Int))=true:=decide_eq_true c4
   have c4b1:decide (3 < a0.size)=true:=decide_eq_true (by omega)
   clear c4
   obtain rfl:=sI H
   go_enter Try.func81,Try.ntmps81
   go_wp2_with (first|((with_reducible refine gate_callee (f:=113) rfl ?_);refine gL (some 4) Try.func113 #[.string a0] ?_;(with_reducible refine (spec_NameOk.calls a0 true _ A2.out).mono ?_);rintro e w' ⟨rfl,⟨nd,rfl⟩⟩;refine ⟨_,rfl,?_⟩;have p5:0≤(3:Int):=(by omega);have q5:3 < a0.size:=(by have:(3:Int) < (a0.size:Int):=oD;omega);have hx5:∀ h:3 < a0.size,((a0[3]'h).toNat:Int)=bt a0 3:=bt_at a0 3;clear p5;have qi5:(3 < (a0.size:Int))=True:=eq_true (oD);replace q5:=eq_true q5))
   go_ret
   exact ⟨fS,by repeat (first|exact Drawn0.refl _|apply Drawn0.step)⟩
  ·rw [if_neg c4] at H
   exact absurd H (by simp)
 ·obtain rfl:=bF c3
  rw [if_neg nF] at H
  obtain rfl:=sI H
  go_enter Try.func81,Try.ntmps81
  go_wp2_with (first|((with_reducible refine gate_callee (f:=113) rfl ?_);refine gL (some 4) Try.func113 #[.string a0] ?_;(with_reducible refine (spec_NameOk.calls a0 false _ A2.out).mono ?_);rintro e w' ⟨rfl,⟨nd,rfl⟩⟩;refine ⟨_,rfl,?_⟩))
  go_ret
  exact ⟨fS,by repeat (first|exact Drawn0.refl _|apply Drawn0.step)⟩
end Go.Proofs.Ytjpfhldklbgdcaa.Ld
