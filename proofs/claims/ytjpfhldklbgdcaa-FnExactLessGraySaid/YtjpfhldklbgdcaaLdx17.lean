import Derived.Test.YtjpfhldklbgdcaaLdx0
import Derived.Test.YtjpfhldklbgdcaaLdx16
set_option maxHeartbeats 8000000
set_option maxRecDepth 100000
namespace Go.Proofs.Ytjpfhldklbgdcaa.Ld
open Go.RowKit Go.Proofs.Ytjpfhldklbgdcaa.Sq Go.Proofs.YtjpfhldklbgdcaaW.PrintWords Go.Proofs.YtjpfhldklbgdcaaW.PrintLast Go.Proofs.YtjpfhldklbgdcaaW.PrintMore
attribute [local go_sem] max2_int min2_int max_two min_two max_three min_three max_four min_four   -- for this text's walks alone
set_option linter.unusedVariables false
set_option linter.unusedSimpArgs false
def laws_eqChunk.f (a0_0:ByteArray) (a0_1:ByteArray) (a1_0:ByteArray) (a1_1:ByteArray):Option (Bool):=if a0_0.toList=a1_0.toList then (if a0_1.toList=a1_1.toList then (some true) else (some false)) else (some false)
theorem laws_eqChunk.calls (a0_0:ByteArray) (a0_1:ByteArray) (a1_0:ByteArray) (a1_1:ByteArray) (r:Bool) (w:World) (h:laws_eqChunk.f a0_0 a0_1 a1_0 a1_1=some r):
  Calls Try.prog 93 #[.agg #[.string a0_0,.string a0_1],.agg #[.string a1_0,.string a1_1]] w fun e w'=>e=.returned (.bool r)∧Below w.heap.size w w':=by
 have hu83:=Try.underlying83
 have HB:=Aside0.mk (Below.refl w.heap.size w)
 have H:=h
 clear h
 unfold laws_eqChunk.f at H
 by_cases c3:a0_0.toList=a1_0.toList
 ·rw [if_pos c3] at H
  have c3b0:(a0_0.toList == a1_0.toList)=true:=beq_iff_eq.mpr c3
  have c3b1:(a0_0.toList != a1_0.toList)=false:=bne_eq_false_iff_eq.mpr c3
  clear c3
  by_cases c4:a0_1.toList=a1_1.toList
  ·rw [if_pos c4] at H
   have c4b0:(a0_1.toList == a1_1.toList)=true:=beq_iff_eq.mpr c4
   have c4b1:(a0_1.toList != a1_1.toList)=false:=bne_eq_false_iff_eq.mpr c4
   clear c4
   obtain rfl:=sI H
   go_enter Try.func93,Try.ntmps93
   go_wp2_with (first|((with_reducible refine gate_dst (N:=2) rfl ?_);refine boxE 2 (#[.string a0_0,.string a0_1]) 83 ?_;intro gb490 hg w5 hbox hb;have BK490:=Aside0.mk hbox;have GW490:=(gwH (w:=w) hg);have GE490:=(gwH (w:=w) hg);replace HB:=Aside0.mk (below_step bH hb);clear hb hbox hg)|((with_reducible refine gate_dst (N:=3) rfl ?_);refine boxE 3 (#[.string a1_0,.string a1_1]) 83 ?_;intro gb491 hg w6 hbox hb;have n0_:=Aside0.mk (bkb BK490 hb);have n1_:=Aside0.mk (below_step bG hb);have n2_:=Aside0.mk hbox;have n3_:=(gwG (w:=w) hg);have n4_:=(gwG (w:=w) hg);have n5_:=(nbl BK490 hg);have n6_:=(nbg BK490 hg);clear BK490;clear HB;have BK490:=n0_;have HB:=n1_;have BK491:=n2_;have GW491:=n3_;have GE491:=n4_;have NB490_491:=n5_;have NB491_490:=n6_;clear n0_ n1_ n2_ n3_ n4_ n5_ n6_;clear hb hbox hg;have hnb7:=NB490_491.out;have hnc7:=NB491_490.out;obtain ⟨z8_0,z8_1,y8_0,y8_1⟩:=blk2f BK490;obtain ⟨z9_0,z9_1,y9_0,y9_1⟩:=blk2f BK491))
   go_ret
   exact ⟨fE,bG⟩
  ·rw [if_neg c4] at H
   have c4b0:(a0_1.toList == a1_1.toList)=false:=beq_eq_false_iff_ne.mpr c4
   have c4b1:(a0_1.toList != a1_1.toList)=true:=bne_iff_ne.mpr c4
   obtain rfl:=sI H
   go_enter Try.func93,Try.ntmps93
   go_wp2_with (first|((with_reducible refine gate_dst (N:=2) rfl ?_);refine boxE 2 (#[.string a0_0,.string a0_1]) 83 ?_;intro gb490 hg w10 hbox hb;have BK490:=Aside0.mk hbox;have GW490:=(gwH (w:=w) hg);have GE490:=(gwH (w:=w) hg);replace HB:=Aside0.mk (below_step bH hb);clear hb hbox hg)|((with_reducible refine gate_dst (N:=3) rfl ?_);refine boxE 3 (#[.string a1_0,.string a1_1]) 83 ?_;intro gb491 hg w11 hbox hb;have n0_:=Aside0.mk (bkb BK490 hb);have n1_:=Aside0.mk (below_step bG hb);have n2_:=Aside0.mk hbox;have n3_:=(gwG (w:=w) hg);have n4_:=(gwG (w:=w) hg);have n5_:=(nbl BK490 hg);have n6_:=(nbg BK490 hg);clear BK490;clear HB;have BK490:=n0_;have HB:=n1_;have BK491:=n2_;have GW491:=n3_;have GE491:=n4_;have NB490_491:=n5_;have NB491_490:=n6_;clear n0_ n1_ n2_ n3_ n4_ n5_ n6_;clear hb hbox hg;have hnb12:=NB490_491.out;have hnc12:=NB491_490.out;obtain ⟨z13_0,z13_1,y13_0,y13_1⟩:=blk2f BK490;obtain ⟨z14_0,z14_1,y14_0,y14_1⟩:=blk2f BK491))
   go_ret
   exact ⟨fE,bG⟩
 ·rw [if_neg c3] at H
  have c3b0:(a0_0.toList == a1_0.toList)=false:=beq_eq_false_iff_ne.mpr c3
  have c3b1:(a0_0.toList != a1_0.toList)=true:=bne_iff_ne.mpr c3
  obtain rfl:=sI H
  go_enter Try.func93,Try.ntmps93
  go_wp2_with (first|((with_reducible refine gate_dst (N:=2) rfl ?_);refine boxE 2 (#[.string a0_0,.string a0_1]) 83 ?_;intro gb490 hg w15 hbox hb;have BK490:=Aside0.mk hbox;have GW490:=(gwH (w:=w) hg);have GE490:=(gwH (w:=w) hg);replace HB:=Aside0.mk (below_step bH hb);clear hb hbox hg)|((with_reducible refine gate_dst (N:=3) rfl ?_);refine boxE 3 (#[.string a1_0,.string a1_1]) 83 ?_;intro gb491 hg w16 hbox hb;have n0_:=Aside0.mk (bkb BK490 hb);have n1_:=Aside0.mk (below_step bG hb);have n2_:=Aside0.mk hbox;have n3_:=(gwG (w:=w) hg);have n4_:=(gwG (w:=w) hg);have n5_:=(nbl BK490 hg);have n6_:=(nbg BK490 hg);clear BK490;clear HB;have BK490:=n0_;have HB:=n1_;have BK491:=n2_;have GW491:=n3_;have GE491:=n4_;have NB490_491:=n5_;have NB491_490:=n6_;clear n0_ n1_ n2_ n3_ n4_ n5_ n6_;clear hb hbox hg;have hnb17:=NB490_491.out;have hnc17:=NB491_490.out;obtain ⟨z18_0,z18_1,y18_0,y18_1⟩:=blk2f BK490;obtain ⟨z19_0,z19_1,y19_0,y19_1⟩:=blk2f BK491))
  go_ret
  exact ⟨fE,bG⟩
def laws_eqChunkS.l0:Nat→List (S83)→List (S83)→Int→Option (Bool)
 | 0,_,_,_=>none
 | k+1,x0,x1,x5=>if x5 < (x0.length:Int) then (if 0≤x5 then (if x5 < (x1.length:Int) then ((laws_eqChunk.f ((rd_T83 x0 x5).f0) ((rd_T83 x0 x5).f1) ((rd_T83 x1 x5).f0) ((rd_T83 x1 x5).f1)).bind fun t494=>(if t494=true then (laws_eqChunkS.l0 k x0 x1 (wrap64 (x5+1))) else (some false))) else (none)) else (none)) else (some true)
def laws_eqChunkS.f (k:Nat) (l0:List (S83)) (l1:List (S83)):Option (Bool):=if (l0.length:Int)=(l1.length:Int) then (laws_eqChunkS.l0 k l0 l1 0) else (some false)
theorem laws_eqChunkS.mono_l:∀ k,(∀ y0 y1 y2,LeO (laws_eqChunkS.l0 k y0 y1 y2) (laws_eqChunkS.l0 (k+1) y0 y1 y2))
 | 0=>fun _ _ _ r h=>by simp [laws_eqChunkS.l0] at h
 | k+1=>by
  have ih0:=laws_eqChunkS.mono_l k
  ·intro y0 y1 y2
   unfold laws_eqChunkS.l0
   repeat' first
   | (with_reducible exact ih0 _ _ _)
   | (with_reducible exact LeO.refl _)
   | (with_reducible exact LeO.none _)
   | (with_reducible refine LeO.ite ?_ ?_)
   | (with_reducible refine LeO.bind ?_ (fun _=>?_))
   | exact ih0 _ _ _
   | exact LeO.none _
   | refine LeO.ite ?_ ?_
   | refine LeO.bind ?_ (fun _=>?_)
theorem laws_eqChunkS.mono:∀ a0 a1 k,LeO (laws_eqChunkS.f k a0 a1) (laws_eqChunkS.f (k+1) a0 a1):=by
 intro a0 a1 k
 have ih0:=laws_eqChunkS.mono_l k
 unfold laws_eqChunkS.f
 repeat' first
   | (with_reducible exact ih0 _ _ _)
   | (with_reducible exact LeO.refl _)
   | (with_reducible exact LeO.none _)
   | (with_reducible refine LeO.ite ?_ ?_)
   | (with_reducible refine LeO.bind ?_ (fun _=>?_))
   | exact ih0 _ _ _
   | exact LeO.none _
   | refine LeO.ite ?_ ?_
   | refine LeO.bind ?_ (fun _=>?_)
def laws_eqChunkS.T6:Bool×List (List Nat×List Nat):=(true,[([],[]),([],[]),([0,1],[0,1]),([2],[2]),([],[]),([],[]),([4,5],[4,5]),([6],[6]),([3,7],[3,7]),([8],[8])])
def laws_eqChunkS.B6:List Nat:=[0,0,3,7,0,0,48,112,255,511]
theorem laws_eqChunkS.tab6:rtab .any (opsOf Try.f51 6)=laws_eqChunkS.T6:=by kernel_rfl
theorem laws_eqChunkS.bits6:waitsOk laws_eqChunkS.T6.2 laws_eqChunkS.B6=true:=by kernel_rfl
theorem laws_eqChunkS.calls (k:Nat) (A0:Option Addr) (c0:Nat) (l0:List (S83)) (A1:Option Addr) (c1:Nat) (l1:List (S83)) (r:Bool) (w:World) (hr0:Kd.C k83 w A0 l0.length l0) (hc0:l0.length≤c0) (hr1:Kd.C k83 w A1 l1.length l1) (hc1:l1.length≤c1) (h:laws_eqChunkS.f k l0 l1=some r):
  Calls Try.prog 51 #[.slice A0 l0.length c0,.slice A1 l1.length c1] w fun e w'=>e=.returned (.bool r)∧Below w.heap.size w w':=by
 have hu83:=Try.underlying83
 have HR0:=Aside0.mk hr0
 have HC0:=Aside0.mk hc0
 clear hr0 hc0
 have HR1:=Aside0.mk hr1
 have HC1:=Aside0.mk hc1
 clear hr1 hc1
 have HB:=Aside0.mk (Below.refl w.heap.size w)
 have H:=h
 clear h
 unfold laws_eqChunkS.f at H
 by_cases c3:(l0.length:Int)=(l1.length:Int)
 ·rw [if_pos c3] at H
  have c3b0:((l0.length:Int) == (l1.length:Int))=true:=beq_iff_eq.mpr c3
  have c3b1:((l0.length:Int) != (l1.length:Int))=false:=bne_eq_false_iff_eq.mpr c3
  have c3b2:(l0.length == l1.length)=true:=by first|simpa using c3|(simp at c3 ⊢;omega)
  clear c3
  have H':=Aside0.mk H
  clear H
  go_enter Try.func51,Try.ntmps51
  go_wp2
  go_loopg [5] k (fun kq v5 w'=>∃ (x5_1:Int),v5=.int .i64 x5_1∧Aside0 (laws_eqChunkS.l0 kq l0 l1 x5_1=some r)∧Aside0 (kq≤k)∧Aside0 (Below w.heap.size w w'))
  case atStart=>exact ⟨(0),fS,H',⟨Nat.le_refl _⟩,⟨bH⟩⟩
  case round =>
   clear H'
   try clear c1
   try clear p2
   try clear c3
   try clear c3b0
   try clear c3b1
   try clear c3b2
   obtain ⟨x5_1,rfl,HA,HK1,HB⟩:=hrel
   cases gk with
   | zero=>exact absurd HA.out (by simp [laws_eqChunkS.l0])
   | succ k1 =>
    have H:=HA.out
    clear HA
    simp only [laws_eqChunkS.l0] at H
    by_cases c4:x5_1 < (l0.length:Int)
    ·rw [if_pos c4] at H
     have c4b0:decide (x5_1 < (l0.length:Int))=true:=decide_eq_true c4
     clear c4
     by_cases c5:0≤x5_1
     ·rw [if_pos c5] at H
      have c5b0:decide (0≤x5_1)=true:=decide_eq_true c5
      clear c5
      by_cases c6:x5_1 < (l1.length:Int)
      ·rw [if_pos c6] at H
       have c6b0:decide (x5_1 < (l1.length:Int))=true:=decide_eq_true c6
       clear c6
       obtain ⟨t494,A7,H⟩:=bS H
       try dsimp only at H
       by_cases c8:t494=true
       ·subst c8
        rw [if_pos rfl] at H
        have H':=Aside0.mk H
        clear H
        try go_wp2
        replace HB:=Aside0.mk (below_drew1 HB.out)
        have p492:0≤(x5_1:Int):=oD
        have q492:x5_1 < (l0.length:Int):=oD
        obtain ⟨ad492,e492,hx492_0,hx492_1⟩:=at_T83 HR0.out x5_1 p492 q492
        have hw492_1:=hx492_1
        have hw492_0:=hx492_0
        cases e492
        replace hx492_0:=(HB.out.cell (World.block_lt_of_cell? w _ hx492_0)).trans hx492_0
        replace hx492_1:=(HB.out.cell (World.block_lt_of_cell? w _ hx492_1)).trans hx492_1
        replace p492:=eq_true p492
        replace q492:=eq_true q492
        have p493:0≤(x5_1:Int):=oD
        have q493:x5_1 < (l1.length:Int):=oD
        obtain ⟨ad493,e493,hx493_0,hx493_1⟩:=at_T83 HR1.out x5_1 p493 q493
        have hw493_1:=hx493_1
        have hw493_0:=hx493_0
        cases e493
        replace hx493_0:=(HB.out.cell (World.block_lt_of_cell? w _ hx493_0)).trans hx493_0
        replace hx493_1:=(HB.out.cell (World.block_lt_of_cell? w _ hx493_1)).trans hx493_1
        replace p493:=eq_true p493
        replace q493:=eq_true q493
        refine start_ (n:=10) (S:=fun w'=>w'.cell? (ad492.add ((x5_1).toNat * 2))=some (.string ((rd_T83 l0 x5_1).f0))∧w'.cell? ⟨(ad492.add ((x5_1).toNat * 2)).block,(ad492.add ((x5_1).toNat * 2)).off+1,none⟩=some (.string ((rd_T83 l0 x5_1).f1))∧w'.cell? (ad493.add ((x5_1).toNat * 2))=some (.string ((rd_T83 l1 x5_1).f0))∧w'.cell? ⟨(ad493.add ((x5_1).toNat * 2)).block,(ad493.add ((x5_1).toNat * 2)).off+1,none⟩=some (.string ((rd_T83 l1 x5_1).f1))) (ds:=[]) #[false,false,false,false,false,false,false,false,false,false] (by kernel_rfl) rfl rfl ⟨((HB.out.cell (World.block_lt_of_cell? w _ hw492_0)).trans hw492_0),((HB.out.cell (World.block_lt_of_cell? w _ hw492_1)).trans hw492_1),((HB.out.cell (World.block_lt_of_cell? w _ hw493_0)).trans hw493_0),((HB.out.cell (World.block_lt_of_cell? w _ hw493_1)).trans hw493_1)⟩ (fun hHeld=>?_);refine with_tabW laws_eqChunkS.tab6 laws_eqChunkS.bits6 (fun HT_ HW_=>?_)
        generalize wr.drew=w9 at HB hx492_0 hx492_1 hx493_0 hx493_1 hHeld ⊢
        refine pure_ (i:=0) (N:=some 17) (v:=?_) (a':=?_) #[true,false,false,false,false,false,false,false,false,false] rfl rfl (any_of HT_.out (by kernel_rfl)) (fun _ _ _ h=>h) (Or.inl ⟨by rfl,?_⟩) ?_ ?_
        rotate_left
        ·intro w'
         go_simp
         with_reducible rfl
        rotate_left
        ·simp only [Act.put,sA,sZ,sC,i64_w,i32_w]
         rfl
        refine pure_ (i:=1) (N:=some 18) (v:=?_) (a':=?_) #[true,true,false,false,false,false,false,false,false,false] rfl rfl (any_of HT_.out (by kernel_rfl)) (fun _ _ _ h=>h) (Or.inl ⟨by rfl,?_⟩) ?_ ?_
        rotate_left
        ·intro w'
         go_simp
         with_reducible rfl
        rotate_left
        ·simp only [Act.put,sA,sZ,sC,i64_w,i32_w]
         rfl
        refine pure_ (i:=2) (N:=some 19) (v:=?_) (a':=?_) #[true,true,true,false,false,false,false,false,false,false] rfl rfl (any_of HT_.out (by kernel_rfl)) (fun _ _ _ h=>h) (Or.inl ⟨by rfl,?_⟩) ?_ ?_
        rotate_left
        ·intro w'
         go_simp
         with_reducible rfl
        rotate_left
        ·simp only [Act.put,sA,sZ,sC,i64_w,i32_w]
         rfl
        refine pure_ (i:=4) (N:=some 21) (v:=?_) (a':=?_) #[true,true,true,false,true,false,false,false,false,false] rfl rfl (any_of HT_.out (by kernel_rfl)) (fun _ _ _ h=>h) (Or.inl ⟨by rfl,?_⟩) ?_ ?_
        rotate_left
        ·intro w'
         go_simp
         with_reducible rfl
        rotate_left
        ·simp only [Act.put,sA,sZ,sC,i64_w,i32_w]
         rfl
        refine pure_ (i:=5) (N:=some 22) (v:=?_) (a':=?_) #[true,true,true,false,true,true,false,false,false,false] rfl rfl (any_of HT_.out (by kernel_rfl)) (fun _ _ _ h=>h) (Or.inl ⟨by rfl,?_⟩) ?_ ?_
        rotate_left
        ·intro w'
         go_simp
         with_reducible rfl
        rotate_left
        ·simp only [Act.put,sA,sZ,sC,i64_w,i32_w]
         rfl
        refine pure_ (i:=6) (N:=some 23) (v:=?_) (a':=?_) #[true,true,true,false,true,true,true,false,false,false] rfl rfl (any_of HT_.out (by kernel_rfl)) (fun _ _ _ h=>h) (Or.inl ⟨by rfl,?_⟩) ?_ ?_
        rotate_left
        ·intro w'
         go_simp
         with_reducible rfl
        rotate_left
        ·simp only [Act.put,sA,sZ,sC,i64_w,i32_w]
         rfl
        refine take_ (i:=3) (N:=some 20) (v:=?_) (a':=?_) #[true,true,true,true,true,true,true,false,false,false] rfl rfl (take_ofW HT_.out HW_.out (by kernel_rfl)) (fun _ _ _ h=>h) (Or.inl ⟨by rfl,?_⟩) hHeld ?_ ?_
        rotate_left
        ·rintro w' ⟨s0,s1,s2,s3⟩
         go_simp
         with_reducible rfl
        rotate_left
        ·simp only [Act.put,sA,sZ,sC,i64_w,i32_w]
         rfl
        refine take_ (i:=7) (N:=some 24) (v:=?_) (a':=?_) #[true,true,true,true,true,true,true,true,false,false] rfl rfl (take_ofW HT_.out HW_.out (by kernel_rfl)) (fun _ _ _ h=>h) (Or.inl ⟨by rfl,?_⟩) hHeld ?_ ?_
        rotate_left
        ·rintro w' ⟨s0,s1,s2,s3⟩
         go_simp
         with_reducible rfl
        rotate_left
        ·simp only [Act.put,sA,sZ,sC,i64_w,i32_w]
         rfl
        refine one_ (i:=8) (N:=some 25) #[true,true,true,true,true,true,true,true,true,false] rfl rfl (one_of HT_.out (by kernel_rfl)) (by decide) (fun K hK=>?_)
        refine goes_ Try.func93 (by kernel_rfl) rfl #[.agg #[.string ((rd_T83 l0 x5_1).f0),.string ((rd_T83 l0 x5_1).f1)],.agg #[.string ((rd_T83 l1 x5_1).f0),.string ((rd_T83 l1 x5_1).f1)]] (by rfl) rfl rfl (by (try simp only [List.map_toArray,List.map_cons,List.map_nil]);first|done|rfl|(simp only [List.length_drop,List.length_take];rfl)) ?_
        with_reducible refine (laws_eqChunk.calls ((rd_T83 l0 x5_1).f0) ((rd_T83 l0 x5_1).f1) ((rd_T83 l1 x5_1).f0) ((rd_T83 l1 x5_1).f1) true _ A7.out).mono ?_
        rintro e w10 ⟨rfl,hb⟩
        refine ⟨_,rfl,?_⟩
        replace HB:=Aside0.mk (below_step bH hb)
        (try clear hb)
        (try clear hb2)
        (try clear hk)
        (try clear hi)
        refine hK.out _ _ ⟨((HB.out.cell (World.block_lt_of_cell? w _ hw492_0)).trans hw492_0),((HB.out.cell (World.block_lt_of_cell? w _ hw492_1)).trans hw492_1),((HB.out.cell (World.block_lt_of_cell? w _ hw493_0)).trans hw493_0),((HB.out.cell (World.block_lt_of_cell? w _ hw493_1)).trans hw493_1)⟩ (fun hHeld=>?_)
        clear hK K
        refine norm_ (a':=?_) ?_ ?_
        rotate_left
        ·show Act.put _ (some 25) _=_
         simp only [Act.put,sA,sZ,sC,i64_w,i32_w]
         rfl
        refine pure_ (i:=9) (N:=some 26) (v:=?_) (a':=?_) #[true,true,true,true,true,true,true,true,true,true] rfl rfl (any_of HT_.out (by kernel_rfl)) (fun _ _ _ h=>h) (Or.inl ⟨by rfl,?_⟩) ?_ ?_
        rotate_left
        ·intro w'
         go_simp
         with_reducible rfl
        rotate_left
        ·simp only [Act.put,sA,sZ,sC,i64_w,i32_w]
         rfl
        refine done_ (done_of HT_.out (by kernel_rfl)) ?_
        try go_wp2
        go_roundg k1
        case measure=>have:=HK1.out;omega
        case rel=>exact ⟨(wrap64 (x5_1+1)),fS,H',⟨by have:=HK1.out;omega⟩,⟨bH⟩⟩
       ·obtain rfl:=bF c8
        rw [if_neg nF] at H
        obtain rfl:=sI H
        try go_wp2
        replace HB:=Aside0.mk (below_drew1 HB.out)
        have p492:0≤(x5_1:Int):=oD
        have q492:x5_1 < (l0.length:Int):=oD
        obtain ⟨ad492,e492,hx492_0,hx492_1⟩:=at_T83 HR0.out x5_1 p492 q492
        have hw492_1:=hx492_1
        have hw492_0:=hx492_0
        cases e492
        replace hx492_0:=(HB.out.cell (World.block_lt_of_cell? w _ hx492_0)).trans hx492_0
        replace hx492_1:=(HB.out.cell (World.block_lt_of_cell? w _ hx492_1)).trans hx492_1
        replace p492:=eq_true p492
        replace q492:=eq_true q492
        have p493:0≤(x5_1:Int):=oD
        have q493:x5_1 < (l1.length:Int):=oD
        obtain ⟨ad493,e493,hx493_0,hx493_1⟩:=at_T83 HR1.out x5_1 p493 q493
        have hw493_1:=hx493_1
        have hw493_0:=hx493_0
        cases e493
        replace hx493_0:=(HB.out.cell (World.block_lt_of_cell? w _ hx493_0)).trans hx493_0
        replace hx493_1:=(HB.out.cell (World.block_lt_of_cell? w _ hx493_1)).trans hx493_1
        replace p493:=eq_true p493
        replace q493:=eq_true q493
        refine start_ (n:=10) (S:=fun w'=>w'.cell? (ad492.add ((x5_1).toNat * 2))=some (.string ((rd_T83 l0 x5_1).f0))∧w'.cell? ⟨(ad492.add ((x5_1).toNat * 2)).block,(ad492.add ((x5_1).toNat * 2)).off+1,none⟩=some (.string ((rd_T83 l0 x5_1).f1))∧w'.cell? (ad493.add ((x5_1).toNat * 2))=some (.string ((rd_T83 l1 x5_1).f0))∧w'.cell? ⟨(ad493.add ((x5_1).toNat * 2)).block,(ad493.add ((x5_1).toNat * 2)).off+1,none⟩=some (.string ((rd_T83 l1 x5_1).f1))) (ds:=[]) #[false,false,false,false,false,false,false,false,false,false] (by kernel_rfl) rfl rfl ⟨((HB.out.cell (World.block_lt_of_cell? w _ hw492_0)).trans hw492_0),((HB.out.cell (World.block_lt_of_cell? w _ hw492_1)).trans hw492_1),((HB.out.cell (World.block_lt_of_cell? w _ hw493_0)).trans hw493_0),((HB.out.cell (World.block_lt_of_cell? w _ hw493_1)).trans hw493_1)⟩ (fun hHeld=>?_);refine with_tabW laws_eqChunkS.tab6 laws_eqChunkS.bits6 (fun HT_ HW_=>?_)
        generalize wr.drew=w11 at HB hx492_0 hx492_1 hx493_0 hx493_1 hHeld ⊢
        refine pure_ (i:=0) (N:=some 17) (v:=?_) (a':=?_) #[true,false,false,false,false,false,false,false,false,false] rfl rfl (any_of HT_.out (by kernel_rfl)) (fun _ _ _ h=>h) (Or.inl ⟨by rfl,?_⟩) ?_ ?_
        rotate_left
        ·intro w'
         go_simp
         with_reducible rfl
        rotate_left
        ·simp only [Act.put,sA,sZ,sC,i64_w,i32_w]
         rfl
        refine pure_ (i:=1) (N:=some 18) (v:=?_) (a':=?_) #[true,true,false,false,false,false,false,false,false,false] rfl rfl (any_of HT_.out (by kernel_rfl)) (fun _ _ _ h=>h) (Or.inl ⟨by rfl,?_⟩) ?_ ?_
        rotate_left
        ·intro w'
         go_simp
         with_reducible rfl
        rotate_left
        ·simp only [Act.put,sA,sZ,sC,i64_w,i32_w]
         rfl
        refine pure_ (i:=2) (N:=some 19) (v:=?_) (a':=?_) #[true,true,true,false,false,false,false,false,false,false] rfl rfl (any_of HT_.out (by kernel_rfl)) (fun _ _ _ h=>h) (Or.inl ⟨by rfl,?_⟩) ?_ ?_
        rotate_left
        ·intro w'
         go_simp
         with_reducible rfl
        rotate_left
        ·simp only [Act.put,sA,sZ,sC,i64_w,i32_w]
         rfl
        refine pure_ (i:=4) (N:=some 21) (v:=?_) (a':=?_) #[true,true,true,false,true,false,false,false,false,false] rfl rfl (any_of HT_.out (by kernel_rfl)) (fun _ _ _ h=>h) (Or.inl ⟨by rfl,?_⟩) ?_ ?_
        rotate_left
        ·intro w'
         go_simp
         with_reducible rfl
        rotate_left
        ·simp only [Act.put,sA,sZ,sC,i64_w,i32_w]
         rfl
        refine pure_ (i:=5) (N:=some 22) (v:=?_) (a':=?_) #[true,true,true,false,true,true,false,false,false,false] rfl rfl (any_of HT_.out (by kernel_rfl)) (fun _ _ _ h=>h) (Or.inl ⟨by rfl,?_⟩) ?_ ?_
        rotate_left
        ·intro w'
         go_simp
         with_reducible rfl
        rotate_left
        ·simp only [Act.put,sA,sZ,sC,i64_w,i32_w]
         rfl
        refine pure_ (i:=6) (N:=some 23) (v:=?_) (a':=?_) #[true,true,true,false,true,true,true,false,false,false] rfl rfl (any_of HT_.out (by kernel_rfl)) (fun _ _ _ h=>h) (Or.inl ⟨by rfl,?_⟩) ?_ ?_
        rotate_left
        ·intro w'
         go_simp
         with_reducible rfl
        rotate_left
        ·simp only [Act.put,sA,sZ,sC,i64_w,i32_w]
         rfl
        refine take_ (i:=3) (N:=some 20) (v:=?_) (a':=?_) #[true,true,true,true,true,true,true,false,false,false] rfl rfl (take_ofW HT_.out HW_.out (by kernel_rfl)) (fun _ _ _ h=>h) (Or.inl ⟨by rfl,?_⟩) hHeld ?_ ?_
        rotate_left
        ·rintro w' ⟨s0,s1,s2,s3⟩
         go_simp
         with_reducible rfl
        rotate_left
        ·simp only [Act.put,sA,sZ,sC,i64_w,i32_w]
         rfl
        refine take_ (i:=7) (N:=some 24) (v:=?_) (a':=?_) #[true,true,true,true,true,true,true,true,false,false] rfl rfl (take_ofW HT_.out HW_.out (by kernel_rfl)) (fun _ _ _ h=>h) (Or.inl ⟨by rfl,?_⟩) hHeld ?_ ?_
        rotate_left
        ·rintro w' ⟨s0,s1,s2,s3⟩
         go_simp
         with_reducible rfl
        rotate_left
        ·simp only [Act.put,sA,sZ,sC,i64_w,i32_w]
         rfl
        refine one_ (i:=8) (N:=some 25) #[true,true,true,true,true,true,true,true,true,false] rfl rfl (one_of HT_.out (by kernel_rfl)) (by decide) (fun K hK=>?_)
        refine goes_ Try.func93 (by kernel_rfl) rfl #[.agg #[.string ((rd_T83 l0 x5_1).f0),.string ((rd_T83 l0 x5_1).f1)],.agg #[.string ((rd_T83 l1 x5_1).f0),.string ((rd_T83 l1 x5_1).f1)]] (by rfl) rfl rfl (by (try simp only [List.map_toArray,List.map_cons,List.map_nil]);first|done|rfl|(simp only [List.length_drop,List.length_take];rfl)) ?_
        with_reducible refine (laws_eqChunk.calls ((rd_T83 l0 x5_1).f0) ((rd_T83 l0 x5_1).f1) ((rd_T83 l1 x5_1).f0) ((rd_T83 l1 x5_1).f1) false _ A7.out).mono ?_
        rintro e w12 ⟨rfl,hb⟩
        refine ⟨_,rfl,?_⟩
        replace HB:=Aside0.mk (below_step bH hb)
        (try clear hb)
        (try clear hb2)
        (try clear hk)
        (try clear hi)
        refine hK.out _ _ ⟨((HB.out.cell (World.block_lt_of_cell? w _ hw492_0)).trans hw492_0),((HB.out.cell (World.block_lt_of_cell? w _ hw492_1)).trans hw492_1),((HB.out.cell (World.block_lt_of_cell? w _ hw493_0)).trans hw493_0),((HB.out.cell (World.block_lt_of_cell? w _ hw493_1)).trans hw493_1)⟩ (fun hHeld=>?_)
        clear hK K
        refine norm_ (a':=?_) ?_ ?_
        rotate_left
        ·show Act.put _ (some 25) _=_
         simp only [Act.put,sA,sZ,sC,i64_w,i32_w]
         rfl
        refine pure_ (i:=9) (N:=some 26) (v:=?_) (a':=?_) #[true,true,true,true,true,true,true,true,true,true] rfl rfl (any_of HT_.out (by kernel_rfl)) (fun _ _ _ h=>h) (Or.inl ⟨by rfl,?_⟩) ?_ ?_
        rotate_left
        ·intro w'
         go_simp
         with_reducible rfl
        rotate_left
        ·simp only [Act.put,sA,sZ,sC,i64_w,i32_w]
         rfl
        refine done_ (done_of HT_.out (by kernel_rfl)) ?_
        try go_wp2
        go_ret
        exact ⟨fE,bH⟩
      ·rw [if_neg c6] at H
       exact absurd H (by simp)
     ·rw [if_neg c5] at H
      exact absurd H (by simp)
    ·rw [if_neg c4] at H
     have c4b0:decide (x5_1 < (l0.length:Int))=false:=decide_eq_false c4
     clear c4
     obtain rfl:=sI H
     go_wp2
     go_ret
     exact ⟨fE,bH⟩
 ·rw [if_neg c3] at H
  have c3b0:((l0.length:Int) == (l1.length:Int))=false:=beq_eq_false_iff_ne.mpr c3
  have c3b1:((l0.length:Int) != (l1.length:Int))=true:=bne_iff_ne.mpr c3
  have c3b2:(l0.length == l1.length)=false:=by first|simpa using c3|(simp at c3 ⊢;omega)
  obtain rfl:=sI H
  go_enter Try.func51,Try.ntmps51
  go_wp2
  go_ret
  exact ⟨fE,bH⟩
def laws_eqPng.f (k:Nat) (a0_0:Int) (a0_1:Int) (a0_2:Int) (a0_3:Int) (a0_4:Bool) (l0_5:List (S95)) (l0_6:List Int) (a0_7:Int) (a0_8:Int) (a0_9:Int) (a0_10:Int) (l0_11:List Int) (l0_12:List (S83)) (a1_0:Int) (a1_1:Int) (a1_2:Int) (a1_3:Int) (a1_4:Bool) (l1_5:List (S95)) (l1_6:List Int) (a1_7:Int) (a1_8:Int) (a1_9:Int) (a1_10:Int) (l1_11:List Int) (l1_12:List (S83)):Option (Bool):=(laws_eqHead.f a0_0 a0_1 a0_2 a0_3 a0_4 a1_0 a1_1 a1_2 a1_3 a1_4).bind fun t497=>(if t497=true then ((laws_eqRgbS.f k l0_5 l1_5).bind fun t498=>(if t498=true then ((laws_eqIntS.f k l0_6 l1_6).bind fun t499=>(if t499=true then ((laws_eqRaster.f k a0_7 a0_8 a0_9 a0_10 l0_11 a1_7 a1_8 a1_9 a1_10 l1_11).bind fun t500=>(if t500=true then ((laws_eqChunkS.f k l0_12 l1_12).bind fun t501=>(if t501=true then (some true) else (some false))) else (some false))) else (some false))) else (some false))) else (some false))
theorem laws_eqPng.mono:∀ a0 a1 a2 a3 a4 a5 a6 a7 a8 a9 a10 a11 a12 a13 a14 a15 a16 a17 a18 a19 a20 a21 a22 a23 a24 a25 k,LeO (laws_eqPng.f k a0 a1 a2 a3 a4 a5 a6 a7 a8 a9 a10 a11 a12 a13 a14 a15 a16 a17 a18 a19 a20 a21 a22 a23 a24 a25) (laws_eqPng.f (k+1) a0 a1 a2 a3 a4 a5 a6 a7 a8 a9 a10 a11 a12 a13 a14 a15 a16 a17 a18 a19 a20 a21 a22 a23 a24 a25):=by
 intro a0 a1 a2 a3 a4 a5 a6 a7 a8 a9 a10 a11 a12 a13 a14 a15 a16 a17 a18 a19 a20 a21 a22 a23 a24 a25 k
 unfold laws_eqPng.f
 repeat' first
   | (with_reducible exact laws_eqChunkS.mono _ _ _)
   | (with_reducible exact laws_eqIntS.mono _ _ _)
   | (with_reducible exact laws_eqRaster.mono _ _ _ _ _ _ _ _ _ _ _)
   | (with_reducible exact laws_eqRgbS.mono _ _ _)
   | (with_reducible exact LeO.refl _)
   | (with_reducible exact LeO.none _)
   | (with_reducible refine LeO.ite ?_ ?_)
   | (with_reducible refine LeO.bind ?_ (fun _=>?_))
   | exact laws_eqChunkS.mono _ _ _
   | exact laws_eqIntS.mono _ _ _
   | exact laws_eqRaster.mono _ _ _ _ _ _ _ _ _ _ _
   | exact laws_eqRgbS.mono _ _ _
   | exact LeO.none _
   | refine LeO.ite ?_ ?_
   | refine LeO.bind ?_ (fun _=>?_)
theorem laws_eqPng.calls (k:Nat) (a0_0:Int) (a0_1:Int) (a0_2:Int) (a0_3:Int) (a0_4:Bool) (A0_5:Option Addr) (c0_5:Nat) (l0_5:List (S95)) (A0_6:Option Addr) (c0_6:Nat) (l0_6:List Int) (a0_7:Int) (a0_8:Int) (a0_9:Int) (a0_10:Int) (A0_11:Option Addr) (c0_11:Nat) (l0_11:List Int) (A0_12:Option Addr) (c0_12:Nat) (l0_12:List (S83)) (a1_0:Int) (a1_1:Int) (a1_2:Int) (a1_3:Int) (a1_4:Bool) (A1_5:Option Addr) (c1_5:Nat) (l1_5:List (S95)) (A1_6:Option Addr) (c1_6:Nat) (l1_6:List Int) (a1_7:Int) (a1_8:Int) (a1_9:Int) (a1_10:Int) (A1_11:Option Addr) (c1_11:Nat) (l1_11:List Int) (A1_12:Option Addr) (c1_12:Nat) (l1_12:List (S83)) (r:Bool) (w:World) (hr0_5:Kd.C k95 w A0_5 l0_5.length l0_5) (hc0_5:l0_5.length≤c0_5) (hr0_6:Kd.C (Kd.int .i64) w A0_6 l0_6.length l0_6) (hc0_6:l0_6.length≤c0_6) (hr0_11:Kd.C (Kd.int .i64) w A0_11 l0_11.length l0_11) (hc0_11:l0_11.length≤c0_11) (hr0_12:Kd.C k83 w A0_12 l0_12.length l0_12) (hc0_12:l0_12.length≤c0_12) (hr1_5:Kd.C k95 w A1_5 l1_5.length l1_5) (hc1_5:l1_5.length≤c1_5) (hr1_6:Kd.C (Kd.int .i64) w A1_6 l1_6.length l1_6) (hc1_6:l1_6.length≤c1_6) (hr1_11:Kd.C (Kd.int .i64) w A1_11 l1_11.length l1_11) (hc1_11:l1_11.length≤c1_11) (hr1_12:Kd.C k83 w A1_12 l1_12.length l1_12) (hc1_12:l1_12.length≤c1_12) (h:laws_eqPng.f k a0_0 a0_1 a0_2 a0_3 a0_4 l0_5 l0_6 a0_7 a0_8 a0_9 a0_10 l0_11 l0_12 a1_0 a1_1 a1_2 a1_3 a1_4 l1_5 l1_6 a1_7 a1_8 a1_9 a1_10 l1_11 l1_12=some r):
  Calls Try.prog 13 #[.agg #[.int .i64 a0_0,.int .i64 a0_1,.int .i64 a0_2,.int .i64 a0_3,.bool a0_4,.slice A0_5 l0_5.length c0_5,.slice A0_6 l0_6.length c0_6,.int .i64 a0_7,.int .i64 a0_8,.int .i64 a0_9,.int .i64 a0_10,.slice A0_11 l0_11.length c0_11,.slice A0_12 l0_12.length c0_12],.agg #[.int .i64 a1_0,.int .i64 a1_1,.int .i64 a1_2,.int .i64 a1_3,.bool a1_4,.slice A1_5 l1_5.length c1_5,.slice A1_6 l1_6.length c1_6,.int .i64 a1_7,.int .i64 a1_8,.int .i64 a1_9,.int .i64 a1_10,.slice A1_11 l1_11.length c1_11,.slice A1_12 l1_12.length c1_12]] w fun e w'=>e=.returned (.bool r)∧Below w.heap.size w w':=by
 have hu37:=Try.underlying37
 have hu32:=Try.underlying32
 have hu34:=Try.underlying34
 have HR0_5:=Aside0.mk hr0_5
 have HC0_5:=Aside0.mk hc0_5
 clear hr0_5 hc0_5
 have HR0_6:=Aside0.mk hr0_6
 have HC0_6:=Aside0.mk hc0_6
 clear hr0_6 hc0_6
 have HR0_11:=Aside0.mk hr0_11
 have HC0_11:=Aside0.mk hc0_11
 clear hr0_11 hc0_11
 have HR0_12:=Aside0.mk hr0_12
 have HC0_12:=Aside0.mk hc0_12
 clear hr0_12 hc0_12
 have HR1_5:=Aside0.mk hr1_5
 have HC1_5:=Aside0.mk hc1_5
 clear hr1_5 hc1_5
 have HR1_6:=Aside0.mk hr1_6
 have HC1_6:=Aside0.mk hc1_6
 clear hr1_6 hc1_6
 have HR1_11:=Aside0.mk hr1_11
 have HC1_11:=Aside0.mk hc1_11
 clear hr1_11 hc1_11
 have HR1_12:=Aside0.mk hr1_12
 have HC1_12:=Aside0.mk hc1_12
 clear hr1_12 hc1_12
 have HB:=Aside0.mk (Below.refl w.heap.size w)
 have H:=h
 clear h
 unfold laws_eqPng.f at H
 obtain ⟨t497,A3,H⟩:=bS H
 try dsimp only at H
 by_cases c4:t497=true
 ·subst c4
  rw [if_pos rfl] at H
  obtain ⟨t498,A5,H⟩:=bS H
  try dsimp only at H
  by_cases c6:t498=true
  ·subst c6
   rw [if_pos rfl] at H
   obtain ⟨t499,A7,H⟩:=bS H
   try dsimp only at H
   by_cases c8:t499=true
   ·subst c8
    rw [if_pos rfl] at H
    obtain ⟨t500,A9,H⟩:=bS H
    try dsimp only at H
    by_cases c10:t500=true
    ·subst c10
     rw [if_pos rfl] at H
     obtain ⟨t501,A11,H⟩:=bS H
     try dsimp only at H
     by_cases c12:t501=true
     ·subst c12
      rw [if_pos rfl] at H
      obtain rfl:=sI H
      go_enter Try.func13,Try.ntmps13
      go_wp2_with (first|((with_reducible refine gate_dst (N:=2) rfl ?_);refine boxE 2 (#[.int .i64 a0_0,.int .i64 a0_1,.int .i64 a0_2,.int .i64 a0_3,.bool a0_4,.slice A0_5 l0_5.length c0_5,.slice A0_6 l0_6.length c0_6,.int .i64 a0_7,.int .i64 a0_8,.int .i64 a0_9,.int .i64 a0_10,.slice A0_11 l0_11.length c0_11,.slice A0_12 l0_12.length c0_12]) 37 ?_;intro gb495 hg w13 hbox hb;have BK495:=Aside0.mk hbox;have GW495:=(gwH (w:=w) hg);have GE495:=(gwH (w:=w) hg);replace HB:=Aside0.mk (below_step bH hb);clear hb hbox hg)|((with_reducible refine gate_dst (N:=3) rfl ?_);refine boxE 3 (#[.int .i64 a1_0,.int .i64 a1_1,.int .i64 a1_2,.int .i64 a1_3,.bool a1_4,.slice A1_5 l1_5.length c1_5,.slice A1_6 l1_6.length c1_6,.int .i64 a1_7,.int .i64 a1_8,.int .i64 a1_9,.int .i64 a1_10,.slice A1_11 l1_11.length c1_11,.slice A1_12 l1_12.length c1_12]) 37 ?_;intro gb496 hg w14 hbox hb;have n0_:=Aside0.mk (bkb BK495 hb);have n1_:=Aside0.mk (below_step bG hb);have n2_:=Aside0.mk hbox;have n3_:=(gwG (w:=w) hg);have n4_:=(gwG (w:=w) hg);have n5_:=(nbl BK495 hg);have n6_:=(nbg BK495 hg);clear BK495;clear HB;have BK495:=n0_;have HB:=n1_;have BK496:=n2_;have GW496:=n3_;have GE496:=n4_;have NB495_496:=n5_;have NB496_495:=n6_;clear n0_ n1_ n2_ n3_ n4_ n5_ n6_;clear hb hbox hg;have hnb15:=NB495_496.out;have hnc15:=NB496_495.out;obtain ⟨z16_0,z16_1,z16_2,z16_3,z16_4,z16_5,z16_6,z16_7,z16_8,z16_9,z16_10,z16_11,z16_12,y16_0,y16_1,y16_2,y16_3,y16_4,y16_5,y16_6,y16_7,y16_8,y16_9,y16_10,y16_11,y16_12⟩:=blk13f BK495;obtain ⟨z17_0,z17_1,z17_2,z17_3,z17_4,z17_5,z17_6,z17_7,z17_8,z17_9,z17_10,z17_11,z17_12,y17_0,y17_1,y17_2,y17_3,y17_4,y17_5,y17_6,y17_7,y17_8,y17_9,y17_10,y17_11,y17_12⟩:=blk13f BK496)|((with_reducible refine gate_callee (f:=47) rfl ?_);refine gL (some 9) Try.func47 #[.agg #[.int .i64 a0_0,.int .i64 a0_1,.int .i64 a0_2,.int .i64 a0_3,.bool a0_4],.agg #[.int .i64 a1_0,.int .i64 a1_1,.int .i64 a1_2,.int .i64 a1_3,.bool a1_4]] ?_;(with_reducible refine (laws_eqHead.calls a0_0 a0_1 a0_2 a0_3 a0_4 a1_0 a1_1 a1_2 a1_3 a1_4 true _ A3.out).mono ?_);rintro e w18 ⟨rfl,hb⟩;refine ⟨_,rfl,?_⟩;replace BK495:=Aside0.mk (bkb BK495 hb);replace BK496:=Aside0.mk (bkb BK496 hb);replace HB:=Aside0.mk (below_step bG hb);(try clear hb);obtain ⟨z19_0,z19_1,z19_2,z19_3,z19_4,z19_5,z19_6,z19_7,z19_8,z19_9,z19_10,z19_11,z19_12,y19_0,y19_1,y19_2,y19_3,y19_4,y19_5,y19_6,y19_7,y19_8,y19_9,y19_10,y19_11,y19_12⟩:=blk13f BK495;obtain ⟨z20_0,z20_1,z20_2,z20_3,z20_4,z20_5,z20_6,z20_7,z20_8,z20_9,z20_10,z20_11,z20_12,y20_0,y20_1,y20_2,y20_3,y20_4,y20_5,y20_6,y20_7,y20_8,y20_9,y20_10,y20_11,y20_12⟩:=blk13f BK496)|((with_reducible refine gate_callee (f:=48) rfl ?_);refine gL (some 15) Try.func48 #[.slice A0_5 l0_5.length c0_5,.slice A1_5 l1_5.length c1_5] ?_;(with_reducible refine (laws_eqRgbS.calls k _ _ l0_5 _ _ l1_5 true _ (cB HR0_5) HC0_5.out (cB HR1_5) HC1_5.out A5.out).mono ?_);rintro e w21 ⟨rfl,hb⟩;refine ⟨_,rfl,?_⟩;replace BK495:=Aside0.mk (bkb BK495 hb);replace BK496:=Aside0.mk (bkb BK496 hb);replace HB:=Aside0.mk (below_step bG hb);(try clear hb);obtain ⟨z22_0,z22_1,z22_2,z22_3,z22_4,z22_5,z22_6,z22_7,z22_8,z22_9,z22_10,z22_11,z22_12,y22_0,y22_1,y22_2,y22_3,y22_4,y22_5,y22_6,y22_7,y22_8,y22_9,y22_10,y22_11,y22_12⟩:=blk13f BK495;obtain ⟨z23_0,z23_1,z23_2,z23_3,z23_4,z23_5,z23_6,z23_7,z23_8,z23_9,z23_10,z23_11,z23_12,y23_0,y23_1,y23_2,y23_3,y23_4,y23_5,y23_6,y23_7,y23_8,y23_9,y23_10,y23_11,y23_12⟩:=blk13f BK496)|((with_reducible refine gate_callee (f:=49) rfl ?_);refine gL (some 21) Try.func49 #[.slice A0_6 l0_6.length c0_6,.slice A1_6 l1_6.length c1_6] ?_;(with_reducible refine (laws_eqIntS.calls k _ _ l0_6 _ _ l1_6 true _ (cB HR0_6) HC0_6.out (cB HR1_6) HC1_6.out A7.out).mono ?_);rintro e w' ⟨rfl,⟨nd,rfl⟩⟩;refine ⟨_,rfl,?_⟩)|((with_reducible refine gate_callee (f:=50) rfl ?_);refine gL (some 27) Try.func50 #[.agg #[.int .i64 a0_7,.int .i64 a0_8,.int .i64 a0_9,.int .i64 a0_10,.slice A0_11 l0_11.length c0_11],.agg #[.int .i64 a1_7,.int .i64 a1_8,.int .i64 a1_9,.int .i64 a1_10,.slice A1_11 l1_11.length c1_11]] ?_;(with_reducible refine (laws_eqRaster.calls k a0_7 a0_8 a0_9 a0_10 _ _ l0_11 a1_7 a1_8 a1_9 a1_10 _ _ l1_11 true _ ?side1 HC0_11.out ?side3 HC1_11.out A9.out).mono ?_);(case side1=>repeat (first|exact (Kd.C_below HR0_11.out bG)|(with_reducible refine Kd.C_alloc ?_ _)|(with_reducible refine Kd.C_drewN ?_ _)|(with_reducible refine Kd.C_drew ?_)));(case side3=>repeat (first|exact (Kd.C_below HR1_11.out bG)|(with_reducible refine Kd.C_alloc ?_ _)|(with_reducible refine Kd.C_drewN ?_ _)|(with_reducible refine Kd.C_drew ?_)));rintro e w24 ⟨rfl,hb⟩;refine ⟨_,rfl,?_⟩;replace BK495:=Aside0.mk (bkb BK495 hb);replace BK496:=Aside0.mk (bkb BK496 hb);replace HB:=Aside0.mk (below_step bG hb);(try clear hb);obtain ⟨z25_0,z25_1,z25_2,z25_3,z25_4,z25_5,z25_6,z25_7,z25_8,z25_9,z25_10,z25_11,z25_12,y25_0,y25_1,y25_2,y25_3,y25_4,y25_5,y25_6,y25_7,y25_8,y25_9,y25_10,y25_11,y25_12⟩:=blk13f BK495;obtain ⟨z26_0,z26_1,z26_2,z26_3,z26_4,z26_5,z26_6,z26_7,z26_8,z26_9,z26_10,z26_11,z26_12,y26_0,y26_1,y26_2,y26_3,y26_4,y26_5,y26_6,y26_7,y26_8,y26_9,y26_10,y26_11,y26_12⟩:=blk13f BK496)|((with_reducible refine gate_callee (f:=51) rfl ?_);refine gL (some 33) Try.func51 #[.slice A0_12 l0_12.length c0_12,.slice A1_12 l1_12.length c1_12] ?_;(with_reducible refine (laws_eqChunkS.calls k _ _ l0_12 _ _ l1_12 true _ (cB HR0_12) HC0_12.out (cB HR1_12) HC1_12.out A11.out).mono ?_);rintro e w27 ⟨rfl,hb⟩;refine ⟨_,rfl,?_⟩;replace BK495:=Aside0.mk (bkb BK495 hb);replace BK496:=Aside0.mk (bkb BK496 hb);replace HB:=Aside0.mk (below_step bG hb);(try clear hb)))
      go_ret
      exact ⟨fE,bG⟩
     ·obtain rfl:=bF c12
      rw [if_neg nF] at H
      obtain rfl:=sI H
      go_enter Try.func13,Try.ntmps13
      go_wp2_with (first|((with_reducible refine gate_dst (N:=2) rfl ?_);refine boxE 2 (#[.int .i64 a0_0,.int .i64 a0_1,.int .i64 a0_2,.int .i64 a0_3,.bool a0_4,.slice A0_5 l0_5.length c0_5,.slice A0_6 l0_6.length c0_6,.int .i64 a0_7,.int .i64 a0_8,.int .i64 a0_9,.int .i64 a0_10,.slice A0_11 l0_11.length c0_11,.slice A0_12 l0_12.length c0_12]) 37 ?_;intro gb495 hg w28 hbox hb;have BK495:=Aside0.mk hbox;have GW495:=(gwH (w:=w) hg);have GE495:=(gwH (w:=w) hg);replace HB:=Aside0.mk (below_step bH hb);clear hb hbox hg)|((with_reducible refine gate_dst (N:=3) rfl ?_);refine boxE 3 (#[.int .i64 a1_0,.int .i64 a1_1,.int .i64 a1_2,.int .i64 a1_3,.bool a1_4,.slice A1_5 l1_5.length c1_5,.slice A1_6 l1_6.length c1_6,.int .i64 a1_7,.int .i64 a1_8,.int .i64 a1_9,.int .i64 a1_10,.slice A1_11 l1_11.length c1_11,.slice A1_12 l1_12.length c1_12]) 37 ?_;intro gb496 hg w29 hbox hb;have n0_:=Aside0.mk (bkb BK495 hb);have n1_:=Aside0.mk (below_step bG hb);have n2_:=Aside0.mk hbox;have n3_:=(gwG (w:=w) hg);have n4_:=(gwG (w:=w) hg);have n5_:=(nbl BK495 hg);have n6_:=(nbg BK495 hg);clear BK495;clear HB;have BK495:=n0_;have HB:=n1_;have BK496:=n2_;have GW496:=n3_;have GE496:=n4_;have NB495_496:=n5_;have NB496_495:=n6_;clear n0_ n1_ n2_ n3_ n4_ n5_ n6_;clear hb hbox hg;have hnb30:=NB495_496.out;have hnc30:=NB496_495.out;obtain ⟨z31_0,z31_1,z31_2,z31_3,z31_4,z31_5,z31_6,z31_7,z31_8,z31_9,z31_10,z31_11,z31_12,y31_0,y31_1,y31_2,y31_3,y31_4,y31_5,y31_6,y31_7,y31_8,y31_9,y31_10,y31_11,y31_12⟩:=blk13f BK495;obtain ⟨z32_0,z32_1,z32_2,z32_3,z32_4,z32_5,z32_6,z32_7,z32_8,z32_9,z32_10,z32_11,z32_12,y32_0,y32_1,y32_2,y32_3,y32_4,y32_5,y32_6,y32_7,y32_8,y32_9,y32_10,y32_11,y32_12⟩:=blk13f BK496)|((with_reducible refine gate_callee (f:=47) rfl ?_);refine gL (some 9) Try.func47 #[.agg #[.int .i64 a0_0,.int .i64 a0_1,.int .i64 a0_2,.int .i64 a0_3,.bool a0_4],.agg #[.int .i64 a1_0,.int .i64 a1_1,.int .i64 a1_2,.int .i64 a1_3,.bool a1_4]] ?_;(with_reducible refine (laws_eqHead.calls a0_0 a0_1 a0_2 a0_3 a0_4 a1_0 a1_1 a1_2 a1_3 a1_4 true _ A3.out).mono ?_);rintro e w33 ⟨rfl,hb⟩;refine ⟨_,rfl,?_⟩;replace BK495:=Aside0.mk (bkb BK495 hb);replace BK496:=Aside0.mk (bkb BK496 hb);replace HB:=Aside0.mk (below_step bG hb);(try clear hb);obtain ⟨z34_0,z34_1,z34_2,z34_3,z34_4,z34_5,z34_6,z34_7,z34_8,z34_9,z34_10,z34_11,z34_12,y34_0,y34_1,y34_2,y34_3,y34_4,y34_5,y34_6,y34_7,y34_8,y34_9,y34_10,y34_11,y34_12⟩:=blk13f BK495;obtain ⟨z35_0,z35_1,z35_2,z35_3,z35_4,z35_5,z35_6,z35_7,z35_8,z35_9,z35_10,z35_11,z35_12,y35_0,y35_1,y35_2,y35_3,y35_4,y35_5,y35_6,y35_7,y35_8,y35_9,y35_10,y35_11,y35_12⟩:=blk13f BK496)|((with_reducible refine gate_callee (f:=48) rfl ?_);refine gL (some 15) Try.func48 #[.slice A0_5 l0_5.length c0_5,.slice A1_5 l1_5.length c1_5] ?_;(with_reducible refine (laws_eqRgbS.calls k _ _ l0_5 _ _ l1_5 true _ (cB HR0_5) HC0_5.out (cB HR1_5) HC1_5.out A5.out).mono ?_);rintro e w36 ⟨rfl,hb⟩;refine ⟨_,rfl,?_⟩;replace BK495:=Aside0.mk (bkb BK495 hb);replace BK496:=Aside0.mk (bkb BK496 hb);replace HB:=Aside0.mk (below_step bG hb);(try clear hb);obtain ⟨z37_0,z37_1,z37_2,z37_3,z37_4,z37_5,z37_6,z37_7,z37_8,z37_9,z37_10,z37_11,z37_12,y37_0,y37_1,y37_2,y37_3,y37_4,y37_5,y37_6,y37_7,y37_8,y37_9,y37_10,y37_11,y37_12⟩:=blk13f BK495;obtain ⟨z38_0,z38_1,z38_2,z38_3,z38_4,z38_5,z38_6,z38_7,z38_8,z38_9,z38_10,z38_11,z38_12,y38_0,y38_1,y38_2,y38_3,y38_4,y38_5,y38_6,y38_7,y38_8,y38_9,y38_10,y38_11,y38_12⟩:=blk13f BK496)|((with_reducible refine gate_callee (f:=49) rfl ?_);refine gL (some 21) Try.func49 #[.slice A0_6 l0_6.length c0_6,.slice A1_6 l1_6.length c1_6] ?_;(with_reducible refine (laws_eqIntS.calls k _ _ l0_6 _ _ l1_6 true _ (cB HR0_6) HC0_6.out (cB HR1_6) HC1_6.out A7.out).mono ?_);rintro e w' ⟨rfl,⟨nd,rfl⟩⟩;refine ⟨_,rfl,?_⟩)|((with_reducible refine gate_callee (f:=50) rfl ?_);refine gL (some 27) Try.func50 #[.agg #[.int .i64 a0_7,.int .i64 a0_8,.int .i64 a0_9,.int .i64 a0_10,.slice A0_11 l0_11.length c0_11],.agg #[.int .i64 a1_7,.int .i64 a1_8,.int .i64 a1_9,.int .i64 a1_10,.slice A1_11 l1_11.length c1_11]] ?_;(with_reducible refine (laws_eqRaster.calls k a0_7 a0_8 a0_9 a0_10 _ _ l0_11 a1_7 a1_8 a1_9 a1_10 _ _ l1_11 true _ ?side1 HC0_11.out ?side3 HC1_11.out A9.out).mono ?_);(case side1=>repeat (first|exact (Kd.C_below HR0_11.out bG)|(with_reducible refine Kd.C_alloc ?_ _)|(with_reducible refine Kd.C_drewN ?_ _)|(with_reducible refine Kd.C_drew ?_)));(case side3=>repeat (first|exact (Kd.C_below HR1_11.out bG)|(with_reducible refine Kd.C_alloc ?_ _)|(with_reducible refine Kd.C_drewN ?_ _)|(with_reducible refine Kd.C_drew ?_)));rintro e w39 ⟨rfl,hb⟩;refine ⟨_,rfl,?_⟩;replace BK495:=Aside0.mk (bkb BK495 hb);replace BK496:=Aside0.mk (bkb BK496 hb);replace HB:=Aside0.mk (below_step bG hb);(try clear hb);obtain ⟨z40_0,z40_1,z40_2,z40_3,z40_4,z40_5,z40_6,z40_7,z40_8,z40_9,z40_10,z40_11,z40_12,y40_0,y40_1,y40_2,y40_3,y40_4,y40_5,y40_6,y40_7,y40_8,y40_9,y40_10,y40_11,y40_12⟩:=blk13f BK495;obtain ⟨z41_0,z41_1,z41_2,z41_3,z41_4,z41_5,z41_6,z41_7,z41_8,z41_9,z41_10,z41_11,z41_12,y41_0,y41_1,y41_2,y41_3,y41_4,y41_5,y41_6,y41_7,y41_8,y41_9,y41_10,y41_11,y41_12⟩:=blk13f BK496)|((with_reducible refine gate_callee (f:=51) rfl ?_);refine gL (some 33) Try.func51 #[.slice A0_12 l0_12.length c0_12,.slice A1_12 l1_12.length c1_12] ?_;(with_reducible refine (laws_eqChunkS.calls k _ _ l0_12 _ _ l1_12 false _ (cB HR0_12) HC0_12.out (cB HR1_12) HC1_12.out A11.out).mono ?_);rintro e w42 ⟨rfl,hb⟩;refine ⟨_,rfl,?_⟩;replace BK495:=Aside0.mk (bkb BK495 hb);replace BK496:=Aside0.mk (bkb BK496 hb);replace HB:=Aside0.mk (below_step bG hb);(try clear hb)))
      go_ret
      exact ⟨fE,bG⟩
    ·obtain rfl:=bF c10
     rw [if_neg nF] at H
     obtain rfl:=sI H
     go_enter Try.func13,Try.ntmps13
     go_wp2_with (first|((with_reducible refine gate_dst (N:=2) rfl ?_);refine boxE 2 (#[.int .i64 a0_0,.int .i64 a0_1,.int .i64 a0_2,.int .i64 a0_3,.bool a0_4,.slice A0_5 l0_5.length c0_5,.slice A0_6 l0_6.length c0_6,.int .i64 a0_7,.int .i64 a0_8,.int .i64 a0_9,.int .i64 a0_10,.slice A0_11 l0_11.length c0_11,.slice A0_12 l0_12.length c0_12]) 37 ?_;intro gb495 hg w43 hbox hb;have BK495:=Aside0.mk hbox;have GW495:=(gwH (w:=w) hg);have GE495:=(gwH (w:=w) hg);replace HB:=Aside0.mk (below_step bH hb);clear hb hbox hg)|((with_reducible refine gate_dst (N:=3) rfl ?_);refine boxE 3 (#[.int .i64 a1_0,.int .i64 a1_1,.int .i64 a1_2,.int .i64 a1_3,.bool a1_4,.slice A1_5 l1_5.length c1_5,.slice A1_6 l1_6.length c1_6,.int .i64 a1_7,.int .i64 a1_8,.int .i64 a1_9,.int .i64 a1_10,.slice A1_11 l1_11.length c1_11,.slice A1_12 l1_12.length c1_12]) 37 ?_;intro gb496 hg w44 hbox hb;have n0_:=Aside0.mk (bkb BK495 hb);have n1_:=Aside0.mk (below_step bG hb);have n2_:=Aside0.mk hbox;have n3_:=(gwG (w:=w) hg);have n4_:=(gwG (w:=w) hg);have n5_:=(nbl BK495 hg);have n6_:=(nbg BK495 hg);clear BK495;clear HB;have BK495:=n0_;have HB:=n1_;have BK496:=n2_;have GW496:=n3_;have GE496:=n4_;have NB495_496:=n5_;have NB496_495:=n6_;clear n0_ n1_ n2_ n3_ n4_ n5_ n6_;clear hb hbox hg;have hnb45:=NB495_496.out;have hnc45:=NB496_495.out;obtain ⟨z46_0,z46_1,z46_2,z46_3,z46_4,z46_5,z46_6,z46_7,z46_8,z46_9,z46_10,z46_11,z46_12,y46_0,y46_1,y46_2,y46_3,y46_4,y46_5,y46_6,y46_7,y46_8,y46_9,y46_10,y46_11,y46_12⟩:=blk13f BK495;obtain ⟨z47_0,z47_1,z47_2,z47_3,z47_4,z47_5,z47_6,z47_7,z47_8,z47_9,z47_10,z47_11,z47_12,y47_0,y47_1,y47_2,y47_3,y47_4,y47_5,y47_6,y47_7,y47_8,y47_9,y47_10,y47_11,y47_12⟩:=blk13f BK496)|((with_reducible refine gate_callee (f:=47) rfl ?_);refine gL (some 9) Try.func47 #[.agg #[.int .i64 a0_0,.int .i64 a0_1,.int .i64 a0_2,.int .i64 a0_3,.bool a0_4],.agg #[.int .i64 a1_0,.int .i64 a1_1,.int .i64 a1_2,.int .i64 a1_3,.bool a1_4]] ?_;(with_reducible refine (laws_eqHead.calls a0_0 a0_1 a0_2 a0_3 a0_4 a1_0 a1_1 a1_2 a1_3 a1_4 true _ A3.out).mono ?_);rintro e w48 ⟨rfl,hb⟩;refine ⟨_,rfl,?_⟩;replace BK495:=Aside0.mk (bkb BK495 hb);replace BK496:=Aside0.mk (bkb BK496 hb);replace HB:=Aside0.mk (below_step bG hb);(try clear hb);obtain ⟨z49_0,z49_1,z49_2,z49_3,z49_4,z49_5,z49_6,z49_7,z49_8,z49_9,z49_10,z49_11,z49_12,y49_0,y49_1,y49_2,y49_3,y49_4,y49_5,y49_6,y49_7,y49_8,y49_9,y49_10,y49_11,y49_12⟩:=blk13f BK495;obtain ⟨z50_0,z50_1,z50_2,z50_3,z50_4,z50_5,z50_6,z50_7,z50_8,z50_9,z50_10,z50_11,z50_12,y50_0,y50_1,y50_2,y50_3,y50_4,y50_5,y50_6,y50_7,y50_8,y50_9,y50_10,y50_11,y50_12⟩:=blk13f BK496)|((with_reducible refine gate_callee (f:=48) rfl ?_);refine gL (some 15) Try.func48 #[.slice A0_5 l0_5.length c0_5,.slice A1_5 l1_5.length c1_5] ?_;(with_reducible refine (laws_eqRgbS.calls k _ _ l0_5 _ _ l1_5 true _ (cB HR0_5) HC0_5.out (cB HR1_5) HC1_5.out A5.out).mono ?_);rintro e w51 ⟨rfl,hb⟩;refine ⟨_,rfl,?_⟩;replace BK495:=Aside0.mk (bkb BK495 hb);replace BK496:=Aside0.mk (bkb BK496 hb);replace HB:=Aside0.mk (below_step bG hb);(try clear hb);obtain ⟨z52_0,z52_1,z52_2,z52_3,z52_4,z52_5,z52_6,z52_7,z52_8,z52_9,z52_10,z52_11,z52_12,y52_0,y52_1,y52_2,y52_3,y52_4,y52_5,y52_6,y52_7,y52_8,y52_9,y52_10,y52_11,y52_12⟩:=blk13f BK495;obtain ⟨z53_0,z53_1,z53_2,z53_3,z53_4,z53_5,z53_6,z53_7,z53_8,z53_9,z53_10,z53_11,z53_12,y53_0,y53_1,y53_2,y53_3,y53_4,y53_5,y53_6,y53_7,y53_8,y53_9,y53_10,y53_11,y53_12⟩:=blk13f BK496)|((with_reducible refine gate_callee (f:=49) rfl ?_);refine gL (some 21) Try.func49 #[.slice A0_6 l0_6.length c0_6,.slice A1_6 l1_6.length c1_6] ?_;(with_reducible refine (laws_eqIntS.calls k _ _ l0_6 _ _ l1_6 true _ (cB HR0_6) HC0_6.out (cB HR1_6) HC1_6.out A7.out).mono ?_);rintro e w' ⟨rfl,⟨nd,rfl⟩⟩;refine ⟨_,rfl,?_⟩)|((with_reducible refine gate_callee (f:=50) rfl ?_);refine gL (some 27) Try.func50 #[.agg #[.int .i64 a0_7,.int .i64 a0_8,.int .i64 a0_9,.int .i64 a0_10,.slice A0_11 l0_11.length c0_11],.agg #[.int .i64 a1_7,.int .i64 a1_8,.int .i64 a1_9,.int .i64 a1_10,.slice A1_11 l1_11.length c1_11]] ?_;(with_reducible refine (laws_eqRaster.calls k a0_7 a0_8 a0_9 a0_10 _ _ l0_11 a1_7 a1_8 a1_9 a1_10 _ _ l1_11 false _ ?side1 HC0_11.out ?side3 HC1_11.out A9.out).mono ?_);(case side1=>repeat (first|exact (Kd.C_below HR0_11.out bG)|(with_reducible refine Kd.C_alloc ?_ _)|(with_reducible refine Kd.C_drewN ?_ _)|(with_reducible refine Kd.C_drew ?_)));(case side3=>repeat (first|exact (Kd.C_below HR1_11.out bG)|(with_reducible refine Kd.C_alloc ?_ _)|(with_reducible refine Kd.C_drewN ?_ _)|(with_reducible refine Kd.C_drew ?_)));rintro e w54 ⟨rfl,hb⟩;refine ⟨_,rfl,?_⟩;replace BK495:=Aside0.mk (bkb BK495 hb);replace BK496:=Aside0.mk (bkb BK496 hb);replace HB:=Aside0.mk (below_step bG hb);(try clear hb)))
     go_ret
     exact ⟨fE,bG⟩
   ·obtain rfl:=bF c8
    rw [if_neg nF] at H
    obtain rfl:=sI H
    go_enter Try.func13,Try.ntmps13
    go_wp2_with (first|((with_reducible refine gate_dst (N:=2) rfl ?_);refine boxE 2 (#[.int .i64 a0_0,.int .i64 a0_1,.int .i64 a0_2,.int .i64 a0_3,.bool a0_4,.slice A0_5 l0_5.length c0_5,.slice A0_6 l0_6.length c0_6,.int .i64 a0_7,.int .i64 a0_8,.int .i64 a0_9,.int .i64 a0_10,.slice A0_11 l0_11.length c0_11,.slice A0_12 l0_12.length c0_12]) 37 ?_;intro gb495 hg w55 hbox hb;have BK495:=Aside0.mk hbox;have GW495:=(gwH (w:=w) hg);have GE495:=(gwH (w:=w) hg);replace HB:=Aside0.mk (below_step bH hb);clear hb hbox hg)|((with_reducible refine gate_dst (N:=3) rfl ?_);refine boxE 3 (#[.int .i64 a1_0,.int .i64 a1_1,.int .i64 a1_2,.int .i64 a1_3,.bool a1_4,.slice A1_5 l1_5.length c1_5,.slice A1_6 l1_6.length c1_6,.int .i64 a1_7,.int .i64 a1_8,.int .i64 a1_9,.int .i64 a1_10,.slice A1_11 l1_11.length c1_11,.slice A1_12 l1_12.length c1_12]) 37 ?_;intro gb496 hg w56 hbox hb;have n0_:=Aside0.mk (bkb BK495 hb);have n1_:=Aside0.mk (below_step bG hb);have n2_:=Aside0.mk hbox;have n3_:=(gwG (w:=w) hg);have n4_:=(gwG (w:=w) hg);have n5_:=(nbl BK495 hg);have n6_:=(nbg BK495 hg);clear BK495;clear HB;have BK495:=n0_;have HB:=n1_;have BK496:=n2_;have GW496:=n3_;have GE496:=n4_;have NB495_496:=n5_;have NB496_495:=n6_;clear n0_ n1_ n2_ n3_ n4_ n5_ n6_;clear hb hbox hg;have hnb57:=NB495_496.out;have hnc57:=NB496_495.out;obtain ⟨z58_0,z58_1,z58_2,z58_3,z58_4,z58_5,z58_6,z58_7,z58_8,z58_9,z58_10,z58_11,z58_12,y58_0,y58_1,y58_2,y58_3,y58_4,y58_5,y58_6,y58_7,y58_8,y58_9,y58_10,y58_11,y58_12⟩:=blk13f BK495;obtain ⟨z59_0,z59_1,z59_2,z59_3,z59_4,z59_5,z59_6,z59_7,z59_8,z59_9,z59_10,z59_11,z59_12,y59_0,y59_1,y59_2,y59_3,y59_4,y59_5,y59_6,y59_7,y59_8,y59_9,y59_10,y59_11,y59_12⟩:=blk13f BK496)|((with_reducible refine gate_callee (f:=47) rfl ?_);refine gL (some 9) Try.func47 #[.agg #[.int .i64 a0_0,.int .i64 a0_1,.int .i64 a0_2,.int .i64 a0_3,.bool a0_4],.agg #[.int .i64 a1_0,.int .i64 a1_1,.int .i64 a1_2,.int .i64 a1_3,.bool a1_4]] ?_;(with_reducible refine (laws_eqHead.calls a0_0 a0_1 a0_2 a0_3 a0_4 a1_0 a1_1 a1_2 a1_3 a1_4 true _ A3.out).mono ?_);rintro e w60 ⟨rfl,hb⟩;refine ⟨_,rfl,?_⟩;replace BK495:=Aside0.mk (bkb BK495 hb);replace BK496:=Aside0.mk (bkb BK496 hb);replace HB:=Aside0.mk (below_step bG hb);(try clear hb);obtain ⟨z61_0,z61_1,z61_2,z61_3,z61_4,z61_5,z61_6,z61_7,z61_8,z61_9,z61_10,z61_11,z61_12,y61_0,y61_1,y61_2,y61_3,y61_4,y61_5,y61_6,y61_7,y61_8,y61_9,y61_10,y61_11,y61_12⟩:=blk13f BK495;obtain ⟨z62_0,z62_1,z62_2,z62_3,z62_4,z62_5,z62_6,z62_7,z62_8,z62_9,z62_10,z62_11,z62_12,y62_0,y62_1,y62_2,y62_3,y62_4,y62_5,y62_6,y62_7,y62_8,y62_9,y62_10,y62_11,y62_12⟩:=blk13f BK496)|((with_reducible refine gate_callee (f:=48) rfl ?_);refine gL (some 15) Try.func48 #[.slice A0_5 l0_5.length c0_5,.slice A1_5 l1_5.length c1_5] ?_;(with_reducible refine (laws_eqRgbS.calls k _ _ l0_5 _ _ l1_5 true _ (cB HR0_5) HC0_5.out (cB HR1_5) HC1_5.out A5.out).mono ?_);rintro e w63 ⟨rfl,hb⟩;refine ⟨_,rfl,?_⟩;replace BK495:=Aside0.mk (bkb BK495 hb);replace BK496:=Aside0.mk (bkb BK496 hb);replace HB:=Aside0.mk (below_step bG hb);(try clear hb);obtain ⟨z64_0,z64_1,z64_2,z64_3,z64_4,z64_5,z64_6,z64_7,z64_8,z64_9,z64_10,z64_11,z64_12,y64_0,y64_1,y64_2,y64_3,y64_4,y64_5,y64_6,y64_7,y64_8,y64_9,y64_10,y64_11,y64_12⟩:=blk13f BK495;obtain ⟨z65_0,z65_1,z65_2,z65_3,z65_4,z65_5,z65_6,z65_7,z65_8,z65_9,z65_10,z65_11,z65_12,y65_0,y65_1,y65_2,y65_3,y65_4,y65_5,y65_6,y65_7,y65_8,y65_9,y65_10,y65_11,y65_12⟩:=blk13f BK496)|((with_reducible refine gate_callee (f:=49) rfl ?_);refine gL (some 21) Try.func49 #[.slice A0_6 l0_6.length c0_6,.slice A1_6 l1_6.length c1_6] ?_;(with_reducible refine (laws_eqIntS.calls k _ _ l0_6 _ _ l1_6 false _ (cB HR0_6) HC0_6.out (cB HR1_6) HC1_6.out A7.out).mono ?_);rintro e w' ⟨rfl,⟨nd,rfl⟩⟩;refine ⟨_,rfl,?_⟩))
    go_ret
    exact ⟨fE,bG⟩
  ·obtain rfl:=bF c6
   rw [if_neg nF] at H
   obtain rfl:=sI H
   go_enter Try.func13,Try.ntmps13
   go_wp2_with (first|((with_reducible refine gate_dst (N:=2) rfl ?_);refine boxE 2 (#[.int .i64 a0_0,.int .i64 a0_1,.int .i64 a0_2,.int .i64 a0_3,.bool a0_4,.slice A0_5 l0_5.length c0_5,.slice A0_6 l0_6.length c0_6,.int .i64 a0_7,.int .i64 a0_8,.int .i64 a0_9,.int .i64 a0_10,.slice A0_11 l0_11.length c0_11,.slice A0_12 l0_12.length c0_12]) 37 ?_;intro gb495 hg w66 hbox hb;have BK495:=Aside0.mk hbox;have GW495:=(gwH (w:=w) hg);have GE495:=(gwH (w:=w) hg);replace HB:=Aside0.mk (below_step bH hb);clear hb hbox hg)|((with_reducible refine gate_dst (N:=3) rfl ?_);refine boxE 3 (#[.int .i64 a1_0,.int .i64 a1_1,.int .i64 a1_2,.int .i64 a1_3,.bool a1_4,.slice A1_5 l1_5.length c1_5,.slice A1_6 l1_6.length c1_6,.int .i64 a1_7,.int .i64 a1_8,.int .i64 a1_9,.int .i64 a1_10,.slice A1_11 l1_11.length c1_11,.slice A1_12 l1_12.length c1_12]) 37 ?_;intro gb496 hg w67 hbox hb;have n0_:=Aside0.mk (bkb BK495 hb);have n1_:=Aside0.mk (below_step bG hb);have n2_:=Aside0.mk hbox;have n3_:=(gwG (w:=w) hg);have n4_:=(gwG (w:=w) hg);have n5_:=(nbl BK495 hg);have n6_:=(nbg BK495 hg);clear BK495;clear HB;have BK495:=n0_;have HB:=n1_;have BK496:=n2_;have GW496:=n3_;have GE496:=n4_;have NB495_496:=n5_;have NB496_495:=n6_;clear n0_ n1_ n2_ n3_ n4_ n5_ n6_;clear hb hbox hg;have hnb68:=NB495_496.out;have hnc68:=NB496_495.out;obtain ⟨z69_0,z69_1,z69_2,z69_3,z69_4,z69_5,z69_6,z69_7,z69_8,z69_9,z69_10,z69_11,z69_12,y69_0,y69_1,y69_2,y69_3,y69_4,y69_5,y69_6,y69_7,y69_8,y69_9,y69_10,y69_11,y69_12⟩:=blk13f BK495;obtain ⟨z70_0,z70_1,z70_2,z70_3,z70_4,z70_5,z70_6,z70_7,z70_8,z70_9,z70_10,z70_11,z70_12,y70_0,y70_1,y70_2,y70_3,y70_4,y70_5,y70_6,y70_7,y70_8,y70_9,y70_10,y70_11,y70_12⟩:=blk13f BK496)|((with_reducible refine gate_callee (f:=47) rfl ?_);refine gL (some 9) Try.func47 #[.agg #[.int .i64 a0_0,.int .i64 a0_1,.int .i64 a0_2,.int .i64 a0_3,.bool a0_4],.agg #[.int .i64 a1_0,.int .i64 a1_1,.int .i64 a1_2,.int .i64 a1_3,.bool a1_4]] ?_;(with_reducible refine (laws_eqHead.calls a0_0 a0_1 a0_2 a0_3 a0_4 a1_0 a1_1 a1_2 a1_3 a1_4 true _ A3.out).mono ?_);rintro e w71 ⟨rfl,hb⟩;refine ⟨_,rfl,?_⟩;replace BK495:=Aside0.mk (bkb BK495 hb);replace BK496:=Aside0.mk (bkb BK496 hb);replace HB:=Aside0.mk (below_step bG hb);(try clear hb);obtain ⟨z72_0,z72_1,z72_2,z72_3,z72_4,z72_5,z72_6,z72_7,z72_8,z72_9,z72_10,z72_11,z72_12,y72_0,y72_1,y72_2,y72_3,y72_4,y72_5,y72_6,y72_7,y72_8,y72_9,y72_10,y72_11,y72_12⟩:=blk13f BK495;obtain ⟨z73_0,z73_1,z73_2,z73_3,z73_4,z73_5,z73_6,z73_7,z73_8,z73_9,z73_10,z73_11,z73_12,y73_0,y73_1,y73_2,y73_3,y73_4,y73_5,y73_6,y73_7,y73_8,y73_9,y73_10,y73_11,y73_12⟩:=blk13f BK496)|((with_reducible refine gate_callee (f:=48) rfl ?_);refine gL (some 15) Try.func48 #[.slice A0_5 l0_5.length c0_5,.slice A1_5 l1_5.length c1_5] ?_;(with_reducible refine (laws_eqRgbS.calls k _ _ l0_5 _ _ l1_5 false _ (cB HR0_5) HC0_5.out (cB HR1_5) HC1_5.out A5.out).mono ?_);rintro e w74 ⟨rfl,hb⟩;refine ⟨_,rfl,?_⟩;replace BK495:=Aside0.mk (bkb BK495 hb);replace BK496:=Aside0.mk (bkb BK496 hb);replace HB:=Aside0.mk (below_step bG hb);(try clear hb)))
   go_ret
   exact ⟨fE,bG⟩
 ·obtain rfl:=bF c4
  rw [if_neg nF] at H
  obtain rfl:=sI H
  go_enter Try.func13,Try.ntmps13
  go_wp2_with (first|((with_reducible refine gate_dst (N:=2) rfl ?_);refine boxE 2 (#[.int .i64 a0_0,.int .i64 a0_1,.int .i64 a0_2,.int .i64 a0_3,.bool a0_4,.slice A0_5 l0_5.length c0_5,.slice A0_6 l0_6.length c0_6,.int .i64 a0_7,.int .i64 a0_8,.int .i64 a0_9,.int .i64 a0_10,.slice A0_11 l0_11.length c0_11,.slice A0_12 l0_12.length c0_12]) 37 ?_;intro gb495 hg w75 hbox hb;have BK495:=Aside0.mk hbox;have GW495:=(gwH (w:=w) hg);have GE495:=(gwH (w:=w) hg);replace HB:=Aside0.mk (below_step bH hb);clear hb hbox hg)|((with_reducible refine gate_dst (N:=3) rfl ?_);refine boxE 3 (#[.int .i64 a1_0,.int .i64 a1_1,.int .i64 a1_2,.int .i64 a1_3,.bool a1_4,.slice A1_5 l1_5.length c1_5,.slice A1_6 l1_6.length c1_6,.int .i64 a1_7,.int .i64 a1_8,.int .i64 a1_9,.int .i64 a1_10,.slice A1_11 l1_11.length c1_11,.slice A1_12 l1_12.length c1_12]) 37 ?_;intro gb496 hg w76 hbox hb;have n0_:=Aside0.mk (bkb BK495 hb);have n1_:=Aside0.mk (below_step bG hb);have n2_:=Aside0.mk hbox;have n3_:=(gwG (w:=w) hg);have n4_:=(gwG (w:=w) hg);have n5_:=(nbl BK495 hg);have n6_:=(nbg BK495 hg);clear BK495;clear HB;have BK495:=n0_;have HB:=n1_;have BK496:=n2_;have GW496:=n3_;have GE496:=n4_;have NB495_496:=n5_;have NB496_495:=n6_;clear n0_ n1_ n2_ n3_ n4_ n5_ n6_;clear hb hbox hg;have hnb77:=NB495_496.out;have hnc77:=NB496_495.out;obtain ⟨z78_0,z78_1,z78_2,z78_3,z78_4,z78_5,z78_6,z78_7,z78_8,z78_9,z78_10,z78_11,z78_12,y78_0,y78_1,y78_2,y78_3,y78_4,y78_5,y78_6,y78_7,y78_8,y78_9,y78_10,y78_11,y78_12⟩:=blk13f BK495;obtain ⟨z79_0,z79_1,z79_2,z79_3,z79_4,z79_5,z79_6,z79_7,z79_8,z79_9,z79_10,z79_11,z79_12,y79_0,y79_1,y79_2,y79_3,y79_4,y79_5,y79_6,y79_7,y79_8,y79_9,y79_10,y79_11,y79_12⟩:=blk13f BK496)|((with_reducible refine gate_callee (f:=47) rfl ?_);refine gL (some 9) Try.func47 #[.agg #[.int .i64 a0_0,.int .i64 a0_1,.int .i64 a0_2,.int .i64 a0_3,.bool a0_4],.agg #[.int .i64 a1_0,.int .i64 a1_1,.int .i64 a1_2,.int .i64 a1_3,.bool a1_4]] ?_;(with_reducible refine (laws_eqHead.calls a0_0 a0_1 a0_2 a0_3 a0_4 a1_0 a1_1 a1_2 a1_3 a1_4 false _ A3.out).mono ?_);rintro e w80 ⟨rfl,hb⟩;refine ⟨_,rfl,?_⟩;replace BK495:=Aside0.mk (bkb BK495 hb);replace BK496:=Aside0.mk (bkb BK496 hb);replace HB:=Aside0.mk (below_step bG hb);(try clear hb)))
  go_ret
  exact ⟨fE,bG⟩
def laws_markRgbS.l0:Nat→List (S95)→Int→Int→Option (Int×(List (S95)))
 | 0,_,_,_=>none
 | k+1,x0,x1,x5=>if x5 < (x0.length:Int) then (if 0≤x5 then ((some (x0.set (x5:Int).toNat (⟨x1,(rd_T95 x0 x5).f1,(rd_T95 x0 x5).f2⟩:S95):List (S95))).bind fun y502=>((some (y502.set (x5:Int).toNat (⟨(rd_T95 y502 x5).f0,wrap64 (x1+1),(rd_T95 y502 x5).f2⟩:S95):List (S95))).bind fun y503=>(laws_markRgbS.l0 k (y503.set (x5:Int).toNat (⟨(rd_T95 y503 x5).f0,(rd_T95 y503 x5).f1,wrap64 ((wrap64 (x1+1))+1)⟩:S95)) (wrap64 ((wrap64 ((wrap64 (x1+1))+1))+1)) (wrap64 (x5+1))))) else (none)) else (some (x1,x0))
def laws_markRgbS.f (k:Nat) (l0:List (S95)) (a1:Int):Option (Int×(List (S95))):=laws_markRgbS.l0 k l0 a1 0
theorem laws_markRgbS.mono_l:∀ k,(∀ y0 y1 y2,LeO (laws_markRgbS.l0 k y0 y1 y2) (laws_markRgbS.l0 (k+1) y0 y1 y2))
 | 0=>fun _ _ _ r h=>by simp [laws_markRgbS.l0] at h
 | k+1=>by
  have ih0:=laws_markRgbS.mono_l k
  ·intro y0 y1 y2
   unfold laws_markRgbS.l0
   repeat' first
   | (with_reducible exact ih0 _ _ _)
   | (with_reducible exact LeO.refl _)
   | (with_reducible exact LeO.none _)
   | (with_reducible refine LeO.ite ?_ ?_)
   | (with_reducible refine LeO.bind ?_ (fun _=>?_))
   | exact ih0 _ _ _
   | exact LeO.none _
   | refine LeO.ite ?_ ?_
   | refine LeO.bind ?_ (fun _=>?_)
theorem laws_markRgbS.mono:∀ a0 a1 k,LeO (laws_markRgbS.f k a0 a1) (laws_markRgbS.f (k+1) a0 a1):=by
 intro a0 a1 k
 have ih0:=laws_markRgbS.mono_l k
 unfold laws_markRgbS.f
 repeat' first
   | (with_reducible exact ih0 _ _ _)
   | (with_reducible exact LeO.refl _)
   | (with_reducible exact LeO.none _)
   | (with_reducible refine LeO.ite ?_ ?_)
   | (with_reducible refine LeO.bind ?_ (fun _=>?_))
   | exact ih0 _ _ _
   | exact LeO.none _
   | refine LeO.ite ?_ ?_
   | refine LeO.bind ?_ (fun _=>?_)
theorem laws_markRgbS.calls (k:Nat) (P0_:Nat→Prop) (u9000_:Value) (l0:List (S95)) (a1:Int) (r1:Int) (r2:List (S95)) (w0 w:World) (hB:Below w0.heap.size w0 w) (ho0:Kd.R k95 95 w w0.heap.size P0_ u9000_ l0) (h:laws_markRgbS.f k l0 a1=some (r1,r2)):
  Calls Try.prog 52 #[u9000_,.int .i64 a1] w fun e w'=>e=.returned (.int .i64 r1)∧Kd.R k95 95 w' w0.heap.size (fun k_=>(P0_ k_∨w.heap.size≤k_)) u9000_ r2∧Below w0.heap.size w0 w'∧Kept w w' (fun k_=>P0_ k_):=by
 have HO0:=Aside0.mk (show Kd.R k95 95 w w0.heap.size (fun k_=>(P0_ k_∨w.heap.size≤k_)) u9000_ l0 from Kd.R_mono ho0 (fun k_ hk=>(.inl hk)))
 have HK:=Aside0.mk (Kept.refl w (fun k_=>P0_ k_))
 have HW0:=Aside0.mk hB.size
 have HB:=Aside0.mk hB
 clear hB
 have H:(laws_markRgbS.l0 k l0 a1 0)=some (r1,r2):=h
 clear h
 have H':=Aside0.mk H
 clear H
 go_enter Try.func52,Try.ntmps52
 go_wp2
 go_loopg [1,5] k (fun kq v1 v5 w'=>∃ (x0_1:List (S95)) (x1_1:Int) (x5_1:Int),v1=.int .i64 x1_1∧v5=.int .i64 x5_1∧Aside0 (laws_markRgbS.l0 kq x0_1 x1_1 x5_1=some (r1,r2))∧Aside0 (kq≤k)∧Aside0 (Kd.R k95 95 w' w0.heap.size (fun k_=>(P0_ k_∨w.heap.size≤k_)) u9000_ x0_1)∧Aside0 (Kept w w' (fun k_=>P0_ k_))∧Aside0 (Below w0.heap.size w0 w'))
 case atStart=>exact ⟨(l0),(a1),(0),fS,fS,H',⟨Nat.le_refl _⟩,⟨rS HO0⟩,⟨by repeat (first|(with_reducible first|exact HK.out|apply Kept.alloc|apply Kept.drewN|apply Kept.drew)|exact HK.out)⟩,⟨bH⟩⟩
 case round =>
  clear H'
  try clear p2
  obtain ⟨x0_1,x1_1,x5_1,rfl,rfl,HA,HK1,HO_0,HK,HB⟩:=hrel
  cases gk with
  | zero=>exact absurd HA.out (by simp [laws_markRgbS.l0])
  | succ k1 =>
   have H:=HA.out
   clear HA
   simp only [laws_markRgbS.l0] at H
   by_cases c3:x5_1 < (x0_1.length:Int)
   ·rw [if_pos c3] at H
    have c3b0:decide (x5_1 < (x0_1.length:Int))=true:=decide_eq_true c3
    clear c3
    by_cases c4:0≤x5_1
    ·rw [if_pos c4] at H
     have c4b0:decide (0≤x5_1)=true:=decide_eq_true c4
     clear c4
     obtain ⟨y502,hy502⟩:∃ y_:List (S95),y_=(x0_1.set (x5_1:Int).toNat (⟨x1_1,(rd_T95 x0_1 x5_1).f1,(rd_T95 x0_1 x5_1).f2⟩:S95)):=⟨_,rfl⟩
     replace H:((some (y502.set (x5_1:Int).toNat (⟨(rd_T95 y502 x5_1).f0,wrap64 (x1_1+1),(rd_T95 y502 x5_1).f2⟩:S95):List (S95))).bind fun y503=>(laws_markRgbS.l0 k1 (y503.set (x5_1:Int).toNat (⟨(rd_T95 y503 x5_1).f0,(rd_T95 y503 x5_1).f1,wrap64 ((wrap64 (x1_1+1))+1)⟩:S95)) (wrap64 ((wrap64 ((wrap64 (x1_1+1))+1))+1)) (wrap64 (x5_1+1))))=some (r1,r2):=by first|(rw [hy502];with_reducible exact H)|(have H2_:=(Option.bind_some _ _).symm.trans H;rw [hy502];with_reducible exact H2_)|(have H2_:=(Option.bind_some _ _).symm.trans H;with_reducible exact H2_)|with_reducible exact H|(rw [hy502];exact H)|exact H
     have Ny502:=Aside0.mk hy502
     clear hy502
     obtain ⟨y503,hy503⟩:∃ y_:List (S95),y_=(y502.set (x5_1:Int).toNat (⟨(rd_T95 y502 x5_1).f0,wrap64 (x1_1+1),(rd_T95 y502 x5_1).f2⟩:S95)):=⟨_,rfl⟩
     replace H:(laws_markRgbS.l0 k1 (y503.set (x5_1:Int).toNat (⟨(rd_T95 y503 x5_1).f0,(rd_T95 y503 x5_1).f1,wrap64 ((wrap64 (x1_1+1))+1)⟩:S95)) (wrap64 ((wrap64 ((wrap64 (x1_1+1))+1))+1)) (wrap64 (x5_1+1)))=some (r1,r2):=by first|(rw [hy503];with_reducible exact H)|(have H2_:=(Option.bind_some _ _).symm.trans H;rw [hy503];with_reducible exact H2_)|(have H2_:=(Option.bind_some _ _).symm.trans H;with_reducible exact H2_)|with_reducible exact H|(rw [hy503];exact H)|exact H
     have Ny503:=Aside0.mk hy503
     clear hy503
     obtain ⟨y504,hy504⟩:∃ y_:List (S95),y_=(y503.set (x5_1:Int).toNat (⟨(rd_T95 y503 x5_1).f0,(rd_T95 y503 x5_1).f1,wrap64 ((wrap64 (x1_1+1))+1)⟩:S95)):=⟨_,rfl⟩
     replace H:(laws_markRgbS.l0 k1 y504 (wrap64 ((wrap64 ((wrap64 (x1_1+1))+1))+1)) (wrap64 (x5_1+1)))=some (r1,r2):=by first|(rw [hy504];with_reducible exact H)|(have H2_:=(Option.bind_some _ _).symm.trans H;rw [hy504];with_reducible exact H2_)|(have H2_:=(Option.bind_some _ _).symm.trans H;with_reducible exact H2_)|with_reducible exact H|(rw [hy504];exact H)|exact H
     have Ny504:=Aside0.mk hy504
     clear hy504
     have H':=Aside0.mk H
     clear H
     obtain ⟨Ao8,co8,eo8⟩:=Kd.R_slice HO_0.out
     subst eo8
     have p5:0≤(x5_1:Int):=oD
     have q5:(x5_1:Int) < ((x0_1.length:Int):Int):=oD
     obtain ⟨go5,co5,eo5,gb5,gl5,cl5,HG5⟩:=Kd.R_form HO_0.out (by omega)
     (first|cases eo5|(injection eo5 with ea_ en_ ec_;(first|subst ea_|(injection ea_ with ea_;subst ea_));subst ec_;clear en_))
     have GB5:=Aside0.mk gb5
     have GG5:=Aside0.mk HG5
     clear gb5 gl5 HG5
     have HMgo5:=Aside0.mk (show (P0_ go5∨w.heap.size≤go5) from (HO_0.out.1 _ rfl))
     obtain ⟨ce5,hcl5,hM5,hcc5,hfr5⟩:=Kd.R_elem HO_0.out z95 (x5_1:Int) p5 q5
     obtain rfl:=k95_openM hM5
     have hx5_0:wr.cell? ⟨go5,(x5_1:Int).toNat * 3,none⟩=some (.int .i64 ((rd_T95 x0_1 x5_1).f0)):=hcc5 0 _ rfl
     have hx5_1:wr.cell? ⟨go5,(x5_1:Int).toNat * 3+1,none⟩=some (.int .i64 ((rd_T95 x0_1 x5_1).f1)):=hcc5 1 _ rfl
     have hx5_2:wr.cell? ⟨go5,(x5_1:Int).toNat * 3+2,none⟩=some (.int .i64 ((rd_T95 x0_1 x5_1).f2)):=hcc5 2 _ rfl
     have hf5_0:wr.frozen? ⟨go5,(x5_1:Int).toNat * 3,none⟩=false:=hfr5 0
     have hf5_1:wr.frozen? ⟨go5,(x5_1:Int).toNat * 3+1,none⟩=false:=hfr5 1
     have hf5_2:wr.frozen? ⟨go5,(x5_1:Int).toNat * 3+2,none⟩=false:=hfr5 2
     clear hcl5 hcc5 hfr5 hM5
     replace p5:=eq_true p5
     replace q5:=eq_true q5
     have HX9:=Aside0.mk (show Kd.R k95 95 wr w0.heap.size (fun k_=>(P0_ k_∨w.heap.size≤k_)) (.slice (some ⟨go5,0,none⟩) x0_1.length co8) x0_1 from (rS HO_0))
     obtain ⟨ce9,hcl9,hM9,hcc9,hfr9⟩:=Kd.R_elem HX9.out z95 (x5_1:Int) (oD) (by have h_:(x5_1:Int) < ((x0_1.length:Int):Int):=oD;first|exact h_|(have e_:=(Kd.R_reads' HO_0.out).1;omega)|simpa using h_)
     obtain rfl:=k95_openM hM9
     have HP9:=Kd.R_seg HX9.out (x5_1:Int) (oD) (by have h_:(x5_1:Int) < ((x0_1.length:Int):Int):=oD;first|exact h_|(have e_:=(Kd.R_reads' HO_0.out).1;omega)|simpa using h_) (seg:=[.int .i64 x1_1]) (j:=0) hcl9 hcc9 (show 1≤3 from by decide) (x':=(⟨x1_1,(rd_T95 x0_1 x5_1).f1,(rd_T95 x0_1 x5_1).f2⟩:S95)) (k95_mkM _ _ _ (⟨x1_1,(rd_T95 x0_1 x5_1).f1,(rd_T95 x0_1 x5_1).f2⟩:S95) ) (fun _ hk=>hk)
     have hx9_0:=hcc9 0 _ rfl
     (try simp only [show (k95).sz=3 from rfl,Nat.mul_one,Nat.add_zero] at hx9_0)
     have hf9_0:=hfr9 0
     (try simp only [show (k95).sz=3 from rfl,Nat.mul_one,Nat.add_zero] at hf9_0)
     clear hcl9 hcc9 hfr9 hM9
     go_wp2_with (first|((with_reducible refine gate_store (t:=3) (p:=16) rfl ?_);refine store_event (t:=3) (p:=16) (v:=?vo_w10) (w1:=(wr.setCell ⟨go5,(x5_1:Int).toNat * 3,none⟩ (.int .i64 x1_1))) ?hg ?ho ?hn ?hr ?_;(case ho=>rfl);(case hg=>rfl);(case hn=>rfl);(case hr=>first|(go_simp;done)|(go_simp;rfl));intro w10 hw;have hg:wr.grownBy w10 (some go5):=(by rw [hw];exact HP9.2);have hp_:Kd.R k95 95 w10 w0.heap.size (fun k_=>(P0_ k_∨w.heap.size≤k_)) (.slice (some ⟨go5,0,none⟩) x0_1.length co8) y502:=(by rw [hw,Ny502.out];exact HP9.1);clear HP9;have n0_:=Aside0.mk hp_;have n1_:=Aside0.mk ((by rw [hw];exact below_set (HB.out) GB5.out:Below w0.heap.size w0 w10));have n2_:=Aside0.mk (Kept.of_grown (S:=(fun k_=>P0_ k_)) hg (by repeat (first|(with_reducible first|exact HK.out|apply Kept.alloc|apply Kept.drewN|apply Kept.drew)|exact HK.out)) (fun k_ e_=>(HO_0.out.1 k_ e_)));clear HO_0;clear HB;clear HK;have HO_0:=n0_;have HB:=n1_;have HK:=n2_;clear n0_ n1_ n2_;clear hg hw hp_;have p6:0≤(x5_1:Int):=oD;have q6:(x5_1:Int) < ((x0_1.length:Int):Int):=oD;obtain ⟨ce6,hcl6,hM6,hcc6,hfr6⟩:=Kd.R_elem HO_0.out z95 (x5_1:Int) p6 q6;obtain rfl:=k95_openM hM6;have hx6_0:w10.cell? ⟨go5,(x5_1:Int).toNat * 3,none⟩=some (.int .i64 ((rd_T95 y502 x5_1).f0)):=hcc6 0 _ rfl;have hx6_1:w10.cell? ⟨go5,(x5_1:Int).toNat * 3+1,none⟩=some (.int .i64 ((rd_T95 y502 x5_1).f1)):=hcc6 1 _ rfl;have hx6_2:w10.cell? ⟨go5,(x5_1:Int).toNat * 3+2,none⟩=some (.int .i64 ((rd_T95 y502 x5_1).f2)):=hcc6 2 _ rfl;have hf6_0:w10.frozen? ⟨go5,(x5_1:Int).toNat * 3,none⟩=false:=hfr6 0;have hf6_1:w10.frozen? ⟨go5,(x5_1:Int).toNat * 3+1,none⟩=false:=hfr6 1;have hf6_2:w10.frozen? ⟨go5,(x5_1:Int).toNat * 3+2,none⟩=false:=hfr6 2;clear hcl6 hcc6 hfr6 hM6;replace p6:=eq_true p6;replace q6:=eq_true q6;have HX11:=Aside0.mk (show Kd.R k95 95 w10 w0.heap.size (fun k_=>(P0_ k_∨w.heap.size≤k_)) (.slice (some ⟨go5,0,none⟩) x0_1.length co8) y502 from (rS HO_0));obtain ⟨ce11,hcl11,hM11,hcc11,hfr11⟩:=Kd.R_elem HX11.out z95 (x5_1:Int) (oD) (by have h_:(x5_1:Int) < ((x0_1.length:Int):Int):=oD;first|exact h_|(have e_:=(Kd.R_reads' HO_0.out).1;omega)|simpa using h_);obtain rfl:=k95_openM hM11;have HP11:=Kd.R_seg HX11.out (x5_1:Int) (oD) (by have h_:(x5_1:Int) < ((x0_1.length:Int):Int):=oD;first|exact h_|(have e_:=(Kd.R_reads' HO_0.out).1;omega)|simpa using h_) (seg:=[.int .i64 (wrap64 (x1_1+1))]) (j:=1) hcl11 hcc11 (show 2≤3 from by decide) (x':=(⟨(rd_T95 y502 x5_1).f0,wrap64 (x1_1+1),(rd_T95 y502 x5_1).f2⟩:S95)) (k95_mkM _ _ _ (⟨(rd_T95 y502 x5_1).f0,wrap64 (x1_1+1),(rd_T95 y502 x5_1).f2⟩:S95) ) (fun _ hk=>hk);have hx11_1:=hcc11 1 _ rfl;(try simp only [show (k95).sz=3 from rfl,Nat.mul_one,Nat.add_zero] at hx11_1);have hf11_1:=hfr11 1;(try simp only [show (k95).sz=3 from rfl,Nat.mul_one,Nat.add_zero] at hf11_1);clear hcl11 hcc11 hfr11 hM11)|((with_reducible refine gate_store (t:=3) (p:=23) rfl ?_);refine store_event (t:=3) (p:=23) (v:=?vo_w12) (w1:=(w10.setCell ⟨go5,(x5_1:Int).toNat * 3+1,none⟩ (.int .i64 (wrap64 (x1_1+1))))) ?hg ?ho ?hn ?hr ?_;(case ho=>rfl);(case hg=>rfl);(case hn=>rfl);(case hr=>first|(go_simp;done)|(go_simp;rfl));intro w12 hw;have hg:w10.grownBy w12 (some go5):=(by rw [hw];exact HP11.2);have hp_:Kd.R k95 95 w12 w0.heap.size (fun k_=>(P0_ k_∨w.heap.size≤k_)) (.slice (some ⟨go5,0,none⟩) x0_1.length co8) y503:=(by rw [hw,Ny503.out];exact HP11.1);clear HP11;have n0_:=Aside0.mk hp_;have n1_:=Aside0.mk ((by rw [hw];exact below_set (HB.out) GB5.out:Below w0.heap.size w0 w12));have n2_:=Aside0.mk (Kept.of_grown (S:=(fun k_=>P0_ k_)) hg (by repeat (first|(with_reducible first|exact HK.out|apply Kept.alloc|apply Kept.drewN|apply Kept.drew)|exact HK.out)) (fun k_ e_=>(HO_0.out.1 k_ e_)));clear HO_0;clear HB;clear HK;have HO_0:=n0_;have HB:=n1_;have HK:=n2_;clear n0_ n1_ n2_;clear hg hw hp_;have p7:0≤(x5_1:Int):=oD;have q7:(x5_1:Int) < ((x0_1.length:Int):Int):=oD;obtain ⟨ce7,hcl7,hM7,hcc7,hfr7⟩:=Kd.R_elem HO_0.out z95 (x5_1:Int) p7 q7;obtain rfl:=k95_openM hM7;have hx7_0:w12.cell? ⟨go5,(x5_1:Int).toNat * 3,none⟩=some (.int .i64 ((rd_T95 y503 x5_1).f0)):=hcc7 0 _ rfl;have hx7_1:w12.cell? ⟨go5,(x5_1:Int).toNat * 3+1,none⟩=some (.int .i64 ((rd_T95 y503 x5_1).f1)):=hcc7 1 _ rfl;have hx7_2:w12.cell? ⟨go5,(x5_1:Int).toNat * 3+2,none⟩=some (.int .i64 ((rd_T95 y503 x5_1).f2)):=hcc7 2 _ rfl;have hf7_0:w12.frozen? ⟨go5,(x5_1:Int).toNat * 3,none⟩=false:=hfr7 0;have hf7_1:w12.frozen? ⟨go5,(x5_1:Int).toNat * 3+1,none⟩=false:=hfr7 1;have hf7_2:w12.frozen? ⟨go5,(x5_1:Int).toNat * 3+2,none⟩=false:=hfr7 2;clear hcl7 hcc7 hfr7 hM7;replace p7:=eq_true p7;replace q7:=eq_true q7;have HX13:=Aside0.mk (show Kd.R k95 95 w12 w0.heap.size (fun k_=>(P0_ k_∨w.heap.size≤k_)) (.slice (some ⟨go5,0,none⟩) x0_1.length co8) y503 from (rS HO_0));obtain ⟨ce13,hcl13,hM13,hcc13,hfr13⟩:=Kd.R_elem HX13.out z95 (x5_1:Int) (oD) (by have h_:(x5_1:Int) < ((x0_1.length:Int):Int):=oD;first|exact h_|(have e_:=(Kd.R_reads' HO_0.out).1;omega)|simpa using h_);obtain rfl:=k95_openM hM13;have HP13:=Kd.R_seg HX13.out (x5_1:Int) (oD) (by have h_:(x5_1:Int) < ((x0_1.length:Int):Int):=oD;first|exact h_|(have e_:=(Kd.R_reads' HO_0.out).1;omega)|simpa using h_) (seg:=[.int .i64 (wrap64 ((wrap64 (x1_1+1))+1))]) (j:=2) hcl13 hcc13 (show 3≤3 from by decide) (x':=(⟨(rd_T95 y503 x5_1).f0,(rd_T95 y503 x5_1).f1,wrap64 ((wrap64 (x1_1+1))+1)⟩:S95)) (k95_mkM _ _ _ (⟨(rd_T95 y503 x5_1).f0,(rd_T95 y503 x5_1).f1,wrap64 ((wrap64 (x1_1+1))+1)⟩:S95) ) (fun _ hk=>hk);have hx13_2:=hcc13 2 _ rfl;(try simp only [show (k95).sz=3 from rfl,Nat.mul_one,Nat.add_zero] at hx13_2);have hf13_2:=hfr13 2;(try simp only [show (k95).sz=3 from rfl,Nat.mul_one,Nat.add_zero] at hf13_2);clear hcl13 hcc13 hfr13 hM13)|((with_reducible refine gate_store (t:=3) (p:=30) rfl ?_);refine store_event (t:=3) (p:=30) (v:=?vo_w14) (w1:=(w12.setCell ⟨go5,(x5_1:Int).toNat * 3+2,none⟩ (.int .i64 (wrap64 ((wrap64 (x1_1+1))+1))))) ?hg ?ho ?hn ?hr ?_;(case ho=>rfl);(case hg=>rfl);(case hn=>rfl);(case hr=>first|(go_simp;done)|(go_simp;rfl));intro w14 hw;have hg:w12.grownBy w14 (some go5):=(by rw [hw];exact HP13.2);have hp_:Kd.R k95 95 w14 w0.heap.size (fun k_=>(P0_ k_∨w.heap.size≤k_)) (.slice (some ⟨go5,0,none⟩) x0_1.length co8) y504:=(by rw [hw,Ny504.out];exact HP13.1);clear HP13;have n0_:=Aside0.mk hp_;have n1_:=Aside0.mk ((by rw [hw];exact below_set (HB.out) GB5.out:Below w0.heap.size w0 w14));have n2_:=Aside0.mk (Kept.of_grown (S:=(fun k_=>P0_ k_)) hg (by repeat (first|(with_reducible first|exact HK.out|apply Kept.alloc|apply Kept.drewN|apply Kept.drew)|exact HK.out)) (fun k_ e_=>(HO_0.out.1 k_ e_)));clear HO_0;clear HB;clear HK;have HO_0:=n0_;have HB:=n1_;have HK:=n2_;clear n0_ n1_ n2_;clear hg hw hp_))
     go_roundg k1
     case measure=>have:=HK1.out;omega
     case rel=>exact ⟨(y504),(wrap64 ((wrap64 ((wrap64 (x1_1+1))+1))+1)),(wrap64 (x5_1+1)),fS,fS,H',⟨by have:=HK1.out;omega⟩,⟨rS HO_0⟩,⟨by repeat (first|(with_reducible first|exact HK.out|apply Kept.alloc|apply Kept.drewN|apply Kept.drew)|exact HK.out)⟩,⟨bH⟩⟩
    ·rw [if_neg c4] at H
     exact absurd H (by simp)
   ·rw [if_neg c3] at H
    have c3b0:decide (x5_1 < (x0_1.length:Int))=false:=decide_eq_false c3
    clear c3
    simp only [Option.some.injEq,Prod.mk.injEq] at H
    obtain ⟨rfl,rfl⟩:=H
    obtain ⟨Ao15,co15,eo15⟩:=Kd.R_slice HO_0.out
    subst eo15
    go_wp2
    go_ret
    exact ⟨fE,rS HO_0,bH,by repeat (first|(with_reducible first|exact HK.out|apply Kept.alloc|apply Kept.drewN|apply Kept.drew)|exact HK.out)⟩
def laws_markIntS.l0:Nat→List Int→Int→Int→Option (Int×List Int)
 | 0,_,_,_=>none
 | k+1,x0,x1,x5=>if x5 < (x0.length:Int) then (if 0≤x5 then (laws_markIntS.l0 k (x0.set (x5:Int).toNat x1) (wrap64 (x1+1)) (wrap64 (x5+1))) else (none)) else (some (x1,x0))
def laws_markIntS.f (k:Nat) (l0:List Int) (a1:Int):Option (Int×List Int):=laws_markIntS.l0 k l0 a1 0
theorem laws_markIntS.mono_l:∀ k,(∀ y0 y1 y2,LeO (laws_markIntS.l0 k y0 y1 y2) (laws_markIntS.l0 (k+1) y0 y1 y2))
 | 0=>fun _ _ _ r h=>by simp [laws_markIntS.l0] at h
 | k+1=>by
  have ih0:=laws_markIntS.mono_l k
  ·intro y0 y1 y2
   unfold laws_markIntS.l0
   repeat' first
   | (with_reducible exact ih0 _ _ _)
   | (with_reducible exact LeO.refl _)
   | (with_reducible exact LeO.none _)
   | (with_reducible refine LeO.ite ?_ ?_)
   | (with_reducible refine LeO.bind ?_ (fun _=>?_))
   | exact ih0 _ _ _
   | exact LeO.none _
   | refine LeO.ite ?_ ?_
   | refine LeO.bind ?_ (fun _=>?_)
theorem laws_markIntS.mono:∀ a0 a1 k,LeO (laws_markIntS.f k a0 a1) (laws_markIntS.f (k+1) a0 a1):=by
 intro a0 a1 k
 have ih0:=laws_markIntS.mono_l k
 unfold laws_markIntS.f
 repeat' first
   | (with_reducible exact ih0 _ _ _)
   | (with_reducible exact LeO.refl _)
   | (with_reducible exact LeO.none _)
   | (with_reducible refine LeO.ite ?_ ?_)
   | (with_reducible refine LeO.bind ?_ (fun _=>?_))
   | exact ih0 _ _ _
   | exact LeO.none _
   | refine LeO.ite ?_ ?_
   | refine LeO.bind ?_ (fun _=>?_)
theorem laws_markIntS.calls (k:Nat) (P0_:Nat→Prop) (u9000_:Value) (l0:List Int) (a1:Int) (r1:Int) (r2:List Int) (w0 w:World) (hB:Below w0.heap.size w0 w) (ho0:Kd.R (Kd.int .i64) 3 w w0.heap.size P0_ u9000_ l0) (h:laws_markIntS.f k l0 a1=some (r1,r2)):
  Calls Try.prog 53 #[u9000_,.int .i64 a1] w fun e w'=>e=.returned (.int .i64 r1)∧Kd.R (Kd.int .i64) 3 w' w0.heap.size (fun k_=>(P0_ k_∨w.heap.size≤k_)) u9000_ r2∧Below w0.heap.size w0 w'∧Kept w w' (fun k_=>P0_ k_):=by
 have HO0:=Aside0.mk (show Kd.R (Kd.int .i64) 3 w w0.heap.size (fun k_=>(P0_ k_∨w.heap.size≤k_)) u9000_ l0 from Kd.R_mono ho0 (fun k_ hk=>(.inl hk)))
 have HK:=Aside0.mk (Kept.refl w (fun k_=>P0_ k_))
 have HW0:=Aside0.mk hB.size
 have HB:=Aside0.mk hB
 clear hB
 have H:(laws_markIntS.l0 k l0 a1 0)=some (r1,r2):=h
 clear h
 have H':=Aside0.mk H
 clear H
 go_enter Try.func53,Try.ntmps53
 go_wp2
 go_loopg [1,5] k (fun kq v1 v5 w'=>∃ (x0_1:List Int) (x1_1:Int) (x5_1:Int),v1=.int .i64 x1_1∧v5=.int .i64 x5_1∧Aside0 (laws_markIntS.l0 kq x0_1 x1_1 x5_1=some (r1,r2))∧Aside0 (kq≤k)∧Aside0 (Kd.R (Kd.int .i64) 3 w' w0.heap.size (fun k_=>(P0_ k_∨w.heap.size≤k_)) u9000_ x0_1)∧Aside0 (Kept w w' (fun k_=>P0_ k_))∧Aside0 (Below w0.heap.size w0 w'))
 case atStart=>exact ⟨(l0),(a1),(0),fS,fS,H',⟨Nat.le_refl _⟩,⟨rS HO0⟩,⟨by repeat (first|(with_reducible first|exact HK.out|apply Kept.alloc|apply Kept.drewN|apply Kept.drew)|exact HK.out)⟩,⟨bH⟩⟩
 case round =>
  clear H'
  try clear p2
  obtain ⟨x0_1,x1_1,x5_1,rfl,rfl,HA,HK1,HO_0,HK,HB⟩:=hrel
  cases gk with
  | zero=>exact absurd HA.out (by simp [laws_markIntS.l0])
  | succ k1 =>
   have H:=HA.out
   clear HA
   simp only [laws_markIntS.l0] at H
   by_cases c3:x5_1 < (x0_1.length:Int)
   ·rw [if_pos c3] at H
    have c3b0:decide (x5_1 < (x0_1.length:Int))=true:=decide_eq_true c3
    clear c3
    by_cases c4:0≤x5_1
    ·rw [if_pos c4] at H
     have c4b0:decide (0≤x5_1)=true:=decide_eq_true c4
     clear c4
     obtain ⟨y505,hy505⟩:∃ y_:List Int,y_=(x0_1.set (x5_1:Int).toNat x1_1):=⟨_,rfl⟩
     replace H:(laws_markIntS.l0 k1 y505 (wrap64 (x1_1+1)) (wrap64 (x5_1+1)))=some (r1,r2):=by first|(rw [hy505];with_reducible exact H)|(have H2_:=(Option.bind_some _ _).symm.trans H;rw [hy505];with_reducible exact H2_)|(have H2_:=(Option.bind_some _ _).symm.trans H;with_reducible exact H2_)|with_reducible exact H|(rw [hy505];exact H)|exact H
     have Ny505:=Aside0.mk hy505
     clear hy505
     have H':=Aside0.mk H
     clear H
     obtain ⟨Ao6,co6,eo6⟩:=Kd.R_slice HO_0.out
     subst eo6
     have p5:0≤(x5_1:Int):=oD
     have q5:(x5_1:Int) < ((x0_1.length:Int):Int):=oD
     obtain ⟨go5,co5,eo5,gb5,gl5,cl5,HG5⟩:=Kd.R_form HO_0.out (by omega)
     (first|cases eo5|(injection eo5 with ea_ en_ ec_;(first|subst ea_|(injection ea_ with ea_;subst ea_));subst ec_;clear en_))
     have GB5:=Aside0.mk gb5
     have GG5:=Aside0.mk HG5
     clear gb5 gl5 HG5
     have HMgo5:=Aside0.mk (show (P0_ go5∨w.heap.size≤go5) from (HO_0.out.1 _ rfl))
     obtain ⟨hx5_0,hf5_0⟩:=Kd.R_celln 0 HO_0.out (x5_1:Int) p5 q5
     replace p5:=eq_true p5
     replace q5:=eq_true q5
     have HP7:=Kd.R_putg HO_0.out (x5_1:Int) x1_1
     go_wp2_with (first|((with_reducible refine gate_store (t:=3) (p:=15) rfl ?_);refine store_event (t:=3) (p:=15) (v:=?vo_w8) (w1:=(wr.setCell ⟨go5,(x5_1:Int).toNat,none⟩ (.int .i64 x1_1))) ?hg ?ho ?hn ?hr ?_;(case ho=>rfl);(case hg=>rfl);(case hn=>rfl);(case hr=>first|(go_simp;done)|(go_simp;rfl));intro w8 hw;have hg:wr.grownBy w8 (some go5):=(by rw [hw];exact HP7.2);have hp_:Kd.R (Kd.int .i64) 3 w8 w0.heap.size (fun k_=>(P0_ k_∨w.heap.size≤k_)) (.slice (some ⟨go5,0,none⟩) x0_1.length co6) y505:=(by rw [hw,Ny505.out];exact HP7.1);clear HP7;have n0_:=Aside0.mk hp_;have n1_:=Aside0.mk ((by rw [hw];exact below_set (HB.out) GB5.out:Below w0.heap.size w0 w8));have n2_:=Aside0.mk (Kept.of_grown (S:=(fun k_=>P0_ k_)) hg (by repeat (first|(with_reducible first|exact HK.out|apply Kept.alloc|apply Kept.drewN|apply Kept.drew)|exact HK.out)) (fun k_ e_=>(HO_0.out.1 k_ e_)));clear HO_0;clear HB;clear HK;have HO_0:=n0_;have HB:=n1_;have HK:=n2_;clear n0_ n1_ n2_;clear hg hw hp_))
     go_roundg k1
     case measure=>have:=HK1.out;omega
     case rel=>exact ⟨(y505),(wrap64 (x1_1+1)),(wrap64 (x5_1+1)),fS,fS,H',⟨by have:=HK1.out;omega⟩,⟨rS HO_0⟩,⟨by repeat (first|(with_reducible first|exact HK.out|apply Kept.alloc|apply Kept.drewN|apply Kept.drew)|exact HK.out)⟩,⟨bH⟩⟩
    ·rw [if_neg c4] at H
     exact absurd H (by simp)
   ·rw [if_neg c3] at H
    have c3b0:decide (x5_1 < (x0_1.length:Int))=false:=decide_eq_false c3
    clear c3
    simp only [Option.some.injEq,Prod.mk.injEq] at H
    obtain ⟨rfl,rfl⟩:=H
    obtain ⟨Ao9,co9,eo9⟩:=Kd.R_slice HO_0.out
    subst eo9
    go_wp2
    go_ret
    exact ⟨fE,rS HO_0,bH,by repeat (first|(with_reducible first|exact HK.out|apply Kept.alloc|apply Kept.drewN|apply Kept.drew)|exact HK.out)⟩
def laws_markRaster.f (k:Nat) (a0_0:Int) (a0_1:Int) (a0_2:Int) (a0_3:Int) (l0_4:List Int) (a1:Int):Option (Int×List Int):=(laws_markIntS.f k l0_4 a1).bind fun bt507=>(some (bt507.1,bt507.2))
theorem laws_markRaster.mono:∀ a0 a1 a2 a3 a4 a5 k,LeO (laws_markRaster.f k a0 a1 a2 a3 a4 a5) (laws_markRaster.f (k+1) a0 a1 a2 a3 a4 a5):=by
 intro a0 a1 a2 a3 a4 a5 k
 unfold laws_markRaster.f
 repeat' first
   | (with_reducible exact laws_markIntS.mono _ _ _)
   | (with_reducible exact LeO.refl _)
   | (with_reducible exact LeO.none _)
   | (with_reducible refine LeO.ite ?_ ?_)
   | (with_reducible refine LeO.bind ?_ (fun _=>?_))
   | exact laws_markIntS.mono _ _ _
   | exact LeO.none _
   | refine LeO.ite ?_ ?_
   | refine LeO.bind ?_ (fun _=>?_)
theorem laws_markRaster.calls (k:Nat) (a0_0:Int) (a0_1:Int) (a0_2:Int) (a0_3:Int) (P0_4_:Nat→Prop) (u9000_:Value) (l0_4:List Int) (a1:Int) (r1:Int) (r2:List Int) (w0 w:World) (hB:Below w0.heap.size w0 w) (ho0_4:Kd.R (Kd.int .i64) 3 w w0.heap.size P0_4_ u9000_ l0_4) (h:laws_markRaster.f k a0_0 a0_1 a0_2 a0_3 l0_4 a1=some (r1,r2)):
  Calls Try.prog 54 #[.agg #[.int .i64 a0_0,.int .i64 a0_1,.int .i64 a0_2,.int .i64 a0_3,u9000_],.int .i64 a1] w fun e w'=>e=.returned (.int .i64 r1)∧Kd.R (Kd.int .i64) 3 w' w0.heap.size (fun k_=>(P0_4_ k_∨w.heap.size≤k_)) u9000_ r2∧Below w0.heap.size w0 w'∧Kept w w' (fun k_=>P0_4_ k_):=by
 have hu34:=Try.underlying34
 have HO0_4:=Aside0.mk (show Kd.R (Kd.int .i64) 3 w w0.heap.size (fun k_=>(P0_4_ k_∨w.heap.size≤k_)) u9000_ l0_4 from Kd.R_mono ho0_4 (fun k_ hk=>(.inl hk)))
 have HK:=Aside0.mk (Kept.refl w (fun k_=>P0_4_ k_))
 have HW0:=Aside0.mk hB.size
 have HB:=Aside0.mk hB
 clear hB
 have H:((laws_markIntS.f k l0_4 a1).bind fun bt507=>(some (bt507.1,bt507.2)))=some (r1,r2):=h
 clear h
 replace H:=Option.bind_eq_some_iff.mp H
 obtain ⟨⟨t507,t508⟩,A30,H⟩:=H
 replace H:(some (t507,t508))=some (r1,r2):=H
 have A3:=Aside0.mk A30
 clear A30
 simp only [Option.some.injEq,Prod.mk.injEq] at H
 obtain ⟨rfl,rfl⟩:=H
 obtain ⟨Ao4,co4,eo4⟩:=Kd.R_slice HO0_4.out
 subst eo4
 go_enter Try.func54,Try.ntmps54
 go_wp2_with (first|((with_reducible refine gate_dst (N:=2) rfl ?_);refine boxE 2 (#[.int .i64 a0_0,.int .i64 a0_1,.int .i64 a0_2,.int .i64 a0_3,.slice Ao4 l0_4.length co4]) 34 ?_;intro gb506 hg w5 hbox hb;have n0_:=Aside0.mk (Kd.R_below (rS HO0_4) hb);have n1_:=Aside0.mk (Kept.below (S:=(fun k_=>P0_4_ k_)) (by repeat (first|(with_reducible first|exact HK.out|apply Kept.alloc|apply Kept.drewN|apply Kept.drew)|exact HK.out)) hb);have n2_:=Aside0.mk (below_step bH hb);have n3_:=Aside0.mk hbox;have n4_:=Aside0.mk ((by rw [hg];exact (by first|exact HK.out.1|exact (show Kept w _ (fun k_=>P0_4_ k_) from by repeat (first|(with_reducible first|exact HK.out|apply Kept.alloc|apply Kept.drewN|apply Kept.drew)|exact HK.out)).1):w.heap.size≤gb506));have n5_:=(gwH (w:=w0) hg);clear HO0_4;clear HK;clear HB;have HO0_4:=n0_;have HK:=n1_;have HB:=n2_;have BK506:=n3_;have GW506:=n4_;have GE506:=n5_;clear n0_ n1_ n2_ n3_ n4_ n5_;clear hb hbox hg;obtain ⟨z6_0,z6_1,z6_2,z6_3,z6_4,y6_0,y6_1,y6_2,y6_3,y6_4⟩:=blk5f BK506)|((with_reducible refine gate_callee (f:=53) rfl ?_);refine gL (some 8) Try.func53 #[.slice Ao4 l0_4.length co4,.int .i64 a1] ?_;(with_reducible refine (laws_markIntS.calls k (fun k_=>some k_=(.slice Ao4 l0_4.length co4:Value).ownBlock) (.slice Ao4 l0_4.length co4) l0_4 a1 t507 t508 w0 _ ?side1 ?side2 A3.out).mono ?_);(case side1=>repeat (first|(with_reducible first|exact HB.out|apply below_alloc|apply pw_below_drewN|apply below_drew1|refine below_set ?_ GE506.out)|exact HB.out));(case side2=>exact Kd.R_tight rfl HO0_4.out);rintro e w7 ⟨rfl,hy0,hb,hkp⟩;refine ⟨_,rfl,?_⟩;have n0_:=Aside0.mk (Kd.R_reok rfl hy0 (fun k_ e_=>HO0_4.out.1 k_ e_));have n1_:=Aside0.mk (blk_kept (bk BK506) hkp (fun hs_=>(fun e_=>(Kd.R_ne HO0_4.out BK506.out (by decide)) e_) hs_));have n2_:=Aside0.mk (Kept.then_ (S:=(fun k_=>P0_4_ k_)) (by repeat (first|(with_reducible first|exact HK.out|apply Kept.alloc|apply Kept.drewN|apply Kept.drew|refine Kept.setCell ?_ (.inr GW506.out) _)|exact HK.out)) hkp (fun k_ hs_=>(fun e_=>(HO0_4.out.1 k_ e_.symm)) hs_));have n3_:=Aside0.mk hb;clear HO0_4;clear BK506;clear HK;clear HB;have HO0_4:=n0_;have BK506:=n1_;have HK:=n2_;have HB:=n3_;clear n0_ n1_ n2_ n3_;(try clear hb);(try clear hkp);(try clear hy0)))
 go_ret
 exact ⟨fE,rS HO0_4,bG,by repeat (first|(with_reducible first|exact HK.out|apply Kept.alloc|apply Kept.drewN|apply Kept.drew|refine Kept.setCell ?_ (.inr GW506.out) _)|exact HK.out)⟩
end Go.Proofs.Ytjpfhldklbgdcaa.Ld
