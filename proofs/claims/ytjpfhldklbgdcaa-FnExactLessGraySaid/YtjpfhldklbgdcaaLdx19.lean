import Derived.Test.YtjpfhldklbgdcaaLdx0
import Derived.Test.YtjpfhldklbgdcaaLdx18
set_option maxHeartbeats 8000000
set_option maxRecDepth 100000
namespace Go.Proofs.Ytjpfhldklbgdcaa.Ld
open Go.RowKit Go.Proofs.Ytjpfhldklbgdcaa.Sq Go.Proofs.YtjpfhldklbgdcaaW.PrintWords Go.Proofs.YtjpfhldklbgdcaaW.PrintLast Go.Proofs.YtjpfhldklbgdcaaW.PrintMore
attribute [local go_sem] max2_int min2_int max_two min_two max_three min_three max_four min_four   -- for this text's walks alone
set_option linter.unusedVariables false
set_option linter.unusedSimpArgs false
def laws_heldChunkS.l0:Nat→List (S83)→Int→Int→Option (Int)
 | 0,_,_,_=>none
 | k+1,x0,x1,x5=>if x5 < (x0.length:Int) then (if 0≤x5 then ((laws_markText.f k x1).bind fun t532=>(if ((rd_T83 x0 x5).f0).toList=t532.toList then ((laws_markText.f k (wrap64 (x1+1))).bind fun t534=>(if ((rd_T83 x0 x5).f1).toList=t534.toList then (laws_heldChunkS.l0 k x0 (wrap64 ((wrap64 (x1+1))+1)) (wrap64 (x5+1))) else (some (-1)))) else (some (-1)))) else (none)) else (some x1)
def laws_heldChunkS.f (k:Nat) (l0:List (S83)) (a1:Int):Option (Int):=laws_heldChunkS.l0 k l0 a1 0
theorem laws_heldChunkS.mono_l:∀ k,(∀ y0 y1 y2,LeO (laws_heldChunkS.l0 k y0 y1 y2) (laws_heldChunkS.l0 (k+1) y0 y1 y2))
 | 0=>fun _ _ _ r h=>by simp [laws_heldChunkS.l0] at h
 | k+1=>by
  have ih0:=laws_heldChunkS.mono_l k
  ·intro y0 y1 y2
   unfold laws_heldChunkS.l0
   repeat' first
   | (with_reducible exact ih0 _ _ _)
   | (with_reducible exact laws_markText.mono _ _)
   | (with_reducible exact LeO.refl _)
   | (with_reducible exact LeO.none _)
   | (with_reducible refine LeO.ite ?_ ?_)
   | (with_reducible refine LeO.bind ?_ (fun _=>?_))
   | exact ih0 _ _ _
   | exact laws_markText.mono _ _
   | exact LeO.none _
   | refine LeO.ite ?_ ?_
   | refine LeO.bind ?_ (fun _=>?_)
theorem laws_heldChunkS.mono:∀ a0 a1 k,LeO (laws_heldChunkS.f k a0 a1) (laws_heldChunkS.f (k+1) a0 a1):=by
 intro a0 a1 k
 have ih0:=laws_heldChunkS.mono_l k
 unfold laws_heldChunkS.f
 repeat' first
   | (with_reducible exact ih0 _ _ _)
   | (with_reducible exact laws_markText.mono _ _)
   | (with_reducible exact LeO.refl _)
   | (with_reducible exact LeO.none _)
   | (with_reducible refine LeO.ite ?_ ?_)
   | (with_reducible refine LeO.bind ?_ (fun _=>?_))
   | exact ih0 _ _ _
   | exact laws_markText.mono _ _
   | exact LeO.none _
   | refine LeO.ite ?_ ?_
   | refine LeO.bind ?_ (fun _=>?_)
def laws_heldChunkS.T4:Bool×List (List Nat×List Nat):=(true,[([],[]),([],[]),([0,1],[0,1]),([2],[2]),([3],[3]),([],[]),([5],[5]),([4,6],[4,6])])
def laws_heldChunkS.B4:List Nat:=[0,0,3,7,15,0,32,127]
theorem laws_heldChunkS.tab4:rtab .any (opsOf Try.f59 4)=laws_heldChunkS.T4:=by kernel_rfl
theorem laws_heldChunkS.bits4:waitsOk laws_heldChunkS.T4.2 laws_heldChunkS.B4=true:=by kernel_rfl
def laws_heldChunkS.T7:Bool×List (List Nat×List Nat):=(true,[([],[]),([],[]),([0,1],[0,1]),([2],[2]),([3],[3]),([],[]),([5],[5]),([4,6],[4,6])])
def laws_heldChunkS.B7:List Nat:=[0,0,3,7,15,0,32,127]
theorem laws_heldChunkS.tab7:rtab .any (opsOf Try.f59 7)=laws_heldChunkS.T7:=by kernel_rfl
theorem laws_heldChunkS.bits7:waitsOk laws_heldChunkS.T7.2 laws_heldChunkS.B7=true:=by kernel_rfl
theorem laws_heldChunkS.calls (k:Nat) (A0:Option Addr) (c0:Nat) (l0:List (S83)) (a1:Int) (r:Int) (w:World) (hr0:Kd.C k83 w A0 l0.length l0) (hc0:l0.length≤c0) (h:laws_heldChunkS.f k l0 a1=some r):
  Calls Try.prog 59 #[.slice A0 l0.length c0,.int .i64 a1] w fun e w'=>e=.returned (.int .i64 r)∧Below w.heap.size w w':=by
 have HR0:=Aside0.mk hr0
 have HC0:=Aside0.mk hc0
 clear hr0 hc0
 have HB:=Aside0.mk (Below.refl w.heap.size w)
 have H:=h
 clear h
 unfold laws_heldChunkS.f at H
 have H':=Aside0.mk H
 clear H
 go_enter Try.func59,Try.ntmps59
 go_wp2
 go_loopg [1,5] k (fun kq v1 v5 w'=>∃ (x1_1:Int) (x5_1:Int),v1=.int .i64 x1_1∧v5=.int .i64 x5_1∧Aside0 (laws_heldChunkS.l0 kq l0 x1_1 x5_1=some r)∧Aside0 (kq≤k)∧Aside0 (Below w.heap.size w w'))
 case atStart=>exact ⟨(a1),(0),fS,fS,H',⟨Nat.le_refl _⟩,⟨bH⟩⟩
 case round =>
  clear H'
  try clear p2
  obtain ⟨x1_1,x5_1,rfl,rfl,HA,HK1,HB⟩:=hrel
  cases gk with
  | zero=>exact absurd HA.out (by simp [laws_heldChunkS.l0])
  | succ k1 =>
   have H:=HA.out
   clear HA
   simp only [laws_heldChunkS.l0] at H
   by_cases c3:x5_1 < (l0.length:Int)
   ·rw [if_pos c3] at H
    have c3b0:decide (x5_1 < (l0.length:Int))=true:=decide_eq_true c3
    clear c3
    by_cases c4:0≤x5_1
    ·rw [if_pos c4] at H
     have c4b0:decide (0≤x5_1)=true:=decide_eq_true c4
     clear c4
     obtain ⟨t532,A5,H⟩:=bS H
     try dsimp only at H
     by_cases c6:((rd_T83 l0 x5_1).f0).toList=t532.toList
     ·rw [if_pos c6] at H
      have c6b0:(((rd_T83 l0 x5_1).f0).toList == t532.toList)=true:=beq_iff_eq.mpr c6
      have c6b1:(((rd_T83 l0 x5_1).f0).toList != t532.toList)=false:=bne_eq_false_iff_eq.mpr c6
      clear c6
      obtain ⟨t534,A7,H⟩:=bS H
      try dsimp only at H
      by_cases c8:((rd_T83 l0 x5_1).f1).toList=t534.toList
      ·rw [if_pos c8] at H
       have c8b0:(((rd_T83 l0 x5_1).f1).toList == t534.toList)=true:=beq_iff_eq.mpr c8
       have c8b1:(((rd_T83 l0 x5_1).f1).toList != t534.toList)=false:=bne_eq_false_iff_eq.mpr c8
       clear c8
       have H':=Aside0.mk H
       clear H
       try go_wp2
       replace HB:=Aside0.mk (below_drew1 HB.out)
       have p531:0≤(x5_1:Int):=oD
       have q531:x5_1 < (l0.length:Int):=oD
       obtain ⟨ad531,e531,hx531_0,hx531_1⟩:=at_T83 HR0.out x5_1 p531 q531
       have hw531_1:=hx531_1
       have hw531_0:=hx531_0
       cases e531
       replace hx531_0:=(HB.out.cell (World.block_lt_of_cell? w _ hx531_0)).trans hx531_0
       replace hx531_1:=(HB.out.cell (World.block_lt_of_cell? w _ hx531_1)).trans hx531_1
       replace p531:=eq_true p531
       replace q531:=eq_true q531
       refine start_ (n:=8) (S:=fun w'=>w'.cell? (ad531.add ((x5_1).toNat * 2))=some (.string ((rd_T83 l0 x5_1).f0))∧w'.cell? ⟨(ad531.add ((x5_1).toNat * 2)).block,(ad531.add ((x5_1).toNat * 2)).off+1,none⟩=some (.string ((rd_T83 l0 x5_1).f1))) (ds:=[]) #[false,false,false,false,false,false,false,false] (by kernel_rfl) rfl rfl ⟨((HB.out.cell (World.block_lt_of_cell? w _ hw531_0)).trans hw531_0),((HB.out.cell (World.block_lt_of_cell? w _ hw531_1)).trans hw531_1)⟩ (fun hHeld=>?_);refine with_tabW laws_heldChunkS.tab4 laws_heldChunkS.bits4 (fun HT_ HW_=>?_)
       generalize wr.drew=w9 at HB hx531_0 hx531_1 hHeld ⊢
       refine pure_ (i:=0) (N:=some 12) (v:=?_) (a':=?_) #[true,false,false,false,false,false,false,false] rfl rfl (any_of HT_.out (by kernel_rfl)) (fun _ _ _ h=>h) (Or.inl ⟨by rfl,?_⟩) ?_ ?_
       rotate_left
       ·intro w'
        go_simp
        with_reducible rfl
       rotate_left
       ·simp only [Act.put,sA,sZ,sC,i64_w,i32_w]
        rfl
       refine pure_ (i:=1) (N:=some 13) (v:=?_) (a':=?_) #[true,true,false,false,false,false,false,false] rfl rfl (any_of HT_.out (by kernel_rfl)) (fun _ _ _ h=>h) (Or.inl ⟨by rfl,?_⟩) ?_ ?_
       rotate_left
       ·intro w'
        go_simp
        with_reducible rfl
       rotate_left
       ·simp only [Act.put,sA,sZ,sC,i64_w,i32_w]
        rfl
       refine pure_ (i:=2) (N:=some 14) (v:=?_) (a':=?_) #[true,true,true,false,false,false,false,false] rfl rfl (any_of HT_.out (by kernel_rfl)) (fun _ _ _ h=>h) (Or.inl ⟨by rfl,?_⟩) ?_ ?_
       rotate_left
       ·intro w'
        go_simp
        with_reducible rfl
       rotate_left
       ·simp only [Act.put,sA,sZ,sC,i64_w,i32_w]
        rfl
       refine pure_ (i:=3) (N:=some 15) (v:=?_) (a':=?_) #[true,true,true,true,false,false,false,false] rfl rfl (any_of HT_.out (by kernel_rfl)) (fun _ _ _ h=>h) (Or.inl ⟨by rfl,?_⟩) ?_ ?_
       rotate_left
       ·intro w'
        go_simp
        with_reducible rfl
       rotate_left
       ·simp only [Act.put,sA,sZ,sC,i64_w,i32_w]
        rfl
       refine pure_ (i:=5) (N:=some 17) (v:=?_) (a':=?_) #[true,true,true,true,false,true,false,false] rfl rfl (any_of HT_.out (by kernel_rfl)) (fun _ _ _ h=>h) (Or.inl ⟨by rfl,?_⟩) ?_ ?_
       rotate_left
       ·intro w'
        go_simp
        with_reducible rfl
       rotate_left
       ·simp only [Act.put,sA,sZ,sC,i64_w,i32_w]
        rfl
       refine take_ (i:=4) (N:=some 16) (v:=?_) (a':=?_) #[true,true,true,true,true,true,false,false] rfl rfl (take_ofW HT_.out HW_.out (by kernel_rfl)) (fun _ _ _ h=>h) (Or.inl ⟨by rfl,?_⟩) hHeld ?_ ?_
       rotate_left
       ·rintro w' ⟨s0,s1⟩
        go_simp
        with_reducible rfl
       rotate_left
       ·simp only [Act.put,sA,sZ,sC,i64_w,i32_w]
        rfl
       refine one_ (i:=6) (N:=some 18) #[true,true,true,true,true,true,true,false] rfl rfl (one_of HT_.out (by kernel_rfl)) (by decide) (fun K hK=>?_)
       refine goes_ Try.func94 (by kernel_rfl) rfl #[.int .i64 x1_1] (by rfl) rfl rfl (by (try simp only [List.map_toArray,List.map_cons,List.map_nil]);first|done|rfl|(simp only [List.length_drop,List.length_take];rfl)) ?_
       with_reducible refine (laws_markText.calls k1 x1_1 t532 _ A5.out).mono ?_
       rintro e w10 ⟨rfl,hb⟩
       refine ⟨_,rfl,?_⟩
       replace HB:=Aside0.mk (below_step bH hb)
       (try clear hb)
       (try clear hb2)
       (try clear hk)
       (try clear hi)
       refine hK.out _ _ ⟨((HB.out.cell (World.block_lt_of_cell? w _ hw531_0)).trans hw531_0),((HB.out.cell (World.block_lt_of_cell? w _ hw531_1)).trans hw531_1)⟩ (fun hHeld=>?_)
       clear hK K
       refine norm_ (a':=?_) ?_ ?_
       rotate_left
       ·show Act.put _ (some 18) _=_
        simp only [Act.put,sA,sZ,sC,i64_w,i32_w]
        rfl
       refine pure_ (i:=7) (N:=some 19) (v:=?_) (a':=?_) #[true,true,true,true,true,true,true,true] rfl rfl (any_of HT_.out (by kernel_rfl)) (fun _ _ _ h=>h) (Or.inl ⟨by rfl,?_⟩) ?_ ?_
       rotate_left
       ·intro w'
        go_simp
        with_reducible rfl
       rotate_left
       ·simp only [Act.put,sA,sZ,sC,i64_w,i32_w]
        rfl
       refine done_ (done_of HT_.out (by kernel_rfl)) ?_
       try go_wp2
       replace HB:=Aside0.mk (below_drew1 HB.out)
       have p533:0≤(x5_1:Int):=oD
       have q533:x5_1 < (l0.length:Int):=oD
       obtain ⟨ad533,e533,hx533_0,hx533_1⟩:=at_T83 HR0.out x5_1 p533 q533
       have hw533_1:=hx533_1
       have hw533_0:=hx533_0
       obtain rfl:ad531=ad533:=(by injection e533)
       replace hx533_0:=(HB.out.cell (World.block_lt_of_cell? w _ hx533_0)).trans hx533_0
       replace hx533_1:=(HB.out.cell (World.block_lt_of_cell? w _ hx533_1)).trans hx533_1
       replace p533:=eq_true p533
       replace q533:=eq_true q533
       refine start_ (n:=8) (S:=fun w'=>w'.cell? (ad531.add ((x5_1).toNat * 2))=some (.string ((rd_T83 l0 x5_1).f0))∧w'.cell? ⟨(ad531.add ((x5_1).toNat * 2)).block,(ad531.add ((x5_1).toNat * 2)).off+1,none⟩=some (.string ((rd_T83 l0 x5_1).f1))) (ds:=[]) #[false,false,false,false,false,false,false,false] (by kernel_rfl) rfl rfl ⟨((HB.out.cell (World.block_lt_of_cell? w _ hw533_0)).trans hw533_0),((HB.out.cell (World.block_lt_of_cell? w _ hw533_1)).trans hw533_1)⟩ (fun hHeld=>?_);refine with_tabW laws_heldChunkS.tab7 laws_heldChunkS.bits7 (fun HT_ HW_=>?_)
       generalize w10.drew=w11 at HB hx533_0 hx533_1 hHeld ⊢
       refine pure_ (i:=0) (N:=some 22) (v:=?_) (a':=?_) #[true,false,false,false,false,false,false,false] rfl rfl (any_of HT_.out (by kernel_rfl)) (fun _ _ _ h=>h) (Or.inl ⟨by rfl,?_⟩) ?_ ?_
       rotate_left
       ·intro w'
        go_simp
        with_reducible rfl
       rotate_left
       ·simp only [Act.put,sA,sZ,sC,i64_w,i32_w]
        rfl
       refine pure_ (i:=1) (N:=some 23) (v:=?_) (a':=?_) #[true,true,false,false,false,false,false,false] rfl rfl (any_of HT_.out (by kernel_rfl)) (fun _ _ _ h=>h) (Or.inl ⟨by rfl,?_⟩) ?_ ?_
       rotate_left
       ·intro w'
        go_simp
        with_reducible rfl
       rotate_left
       ·simp only [Act.put,sA,sZ,sC,i64_w,i32_w]
        rfl
       refine pure_ (i:=2) (N:=some 24) (v:=?_) (a':=?_) #[true,true,true,false,false,false,false,false] rfl rfl (any_of HT_.out (by kernel_rfl)) (fun _ _ _ h=>h) (Or.inl ⟨by rfl,?_⟩) ?_ ?_
       rotate_left
       ·intro w'
        go_simp
        with_reducible rfl
       rotate_left
       ·simp only [Act.put,sA,sZ,sC,i64_w,i32_w]
        rfl
       refine pure_ (i:=3) (N:=some 25) (v:=?_) (a':=?_) #[true,true,true,true,false,false,false,false] rfl rfl (any_of HT_.out (by kernel_rfl)) (fun _ _ _ h=>h) (Or.inl ⟨by rfl,?_⟩) ?_ ?_
       rotate_left
       ·intro w'
        go_simp
        with_reducible rfl
       rotate_left
       ·simp only [Act.put,sA,sZ,sC,i64_w,i32_w]
        rfl
       refine pure_ (i:=5) (N:=some 27) (v:=?_) (a':=?_) #[true,true,true,true,false,true,false,false] rfl rfl (any_of HT_.out (by kernel_rfl)) (fun _ _ _ h=>h) (Or.inl ⟨by rfl,?_⟩) ?_ ?_
       rotate_left
       ·intro w'
        go_simp
        with_reducible rfl
       rotate_left
       ·simp only [Act.put,sA,sZ,sC,i64_w,i32_w]
        rfl
       refine take_ (i:=4) (N:=some 26) (v:=?_) (a':=?_) #[true,true,true,true,true,true,false,false] rfl rfl (take_ofW HT_.out HW_.out (by kernel_rfl)) (fun _ _ _ h=>h) (Or.inl ⟨by rfl,?_⟩) hHeld ?_ ?_
       rotate_left
       ·rintro w' ⟨s0,s1⟩
        go_simp
        with_reducible rfl
       rotate_left
       ·simp only [Act.put,sA,sZ,sC,i64_w,i32_w]
        rfl
       refine one_ (i:=6) (N:=some 28) #[true,true,true,true,true,true,true,false] rfl rfl (one_of HT_.out (by kernel_rfl)) (by decide) (fun K hK=>?_)
       refine goes_ Try.func94 (by kernel_rfl) rfl #[.int .i64 (wrap64 (x1_1+1))] (by rfl) rfl rfl (by (try simp only [List.map_toArray,List.map_cons,List.map_nil]);first|done|rfl|(simp only [List.length_drop,List.length_take];rfl)) ?_
       with_reducible refine (laws_markText.calls k1 (wrap64 (x1_1+1)) t534 _ A7.out).mono ?_
       rintro e w12 ⟨rfl,hb⟩
       refine ⟨_,rfl,?_⟩
       replace HB:=Aside0.mk (below_step bH hb)
       (try clear hb)
       (try clear hb2)
       (try clear hk)
       (try clear hi)
       refine hK.out _ _ ⟨((HB.out.cell (World.block_lt_of_cell? w _ hw533_0)).trans hw533_0),((HB.out.cell (World.block_lt_of_cell? w _ hw533_1)).trans hw533_1)⟩ (fun hHeld=>?_)
       clear hK K
       refine norm_ (a':=?_) ?_ ?_
       rotate_left
       ·show Act.put _ (some 28) _=_
        simp only [Act.put,sA,sZ,sC,i64_w,i32_w]
        rfl
       refine pure_ (i:=7) (N:=some 29) (v:=?_) (a':=?_) #[true,true,true,true,true,true,true,true] rfl rfl (any_of HT_.out (by kernel_rfl)) (fun _ _ _ h=>h) (Or.inl ⟨by rfl,?_⟩) ?_ ?_
       rotate_left
       ·intro w'
        go_simp
        with_reducible rfl
       rotate_left
       ·simp only [Act.put,sA,sZ,sC,i64_w,i32_w]
        rfl
       refine done_ (done_of HT_.out (by kernel_rfl)) ?_
       try go_wp2
       go_roundg k1
       case measure=>have:=HK1.out;omega
       case rel=>exact ⟨(wrap64 ((wrap64 (x1_1+1))+1)),(wrap64 (x5_1+1)),fS,fS,H',⟨by have:=HK1.out;omega⟩,⟨bH⟩⟩
      ·rw [if_neg c8] at H
       have c8b0:(((rd_T83 l0 x5_1).f1).toList == t534.toList)=false:=beq_eq_false_iff_ne.mpr c8
       have c8b1:(((rd_T83 l0 x5_1).f1).toList != t534.toList)=true:=bne_iff_ne.mpr c8
       obtain rfl:=sI H
       try go_wp2
       replace HB:=Aside0.mk (below_drew1 HB.out)
       have p531:0≤(x5_1:Int):=oD
       have q531:x5_1 < (l0.length:Int):=oD
       obtain ⟨ad531,e531,hx531_0,hx531_1⟩:=at_T83 HR0.out x5_1 p531 q531
       have hw531_1:=hx531_1
       have hw531_0:=hx531_0
       cases e531
       replace hx531_0:=(HB.out.cell (World.block_lt_of_cell? w _ hx531_0)).trans hx531_0
       replace hx531_1:=(HB.out.cell (World.block_lt_of_cell? w _ hx531_1)).trans hx531_1
       replace p531:=eq_true p531
       replace q531:=eq_true q531
       refine start_ (n:=8) (S:=fun w'=>w'.cell? (ad531.add ((x5_1).toNat * 2))=some (.string ((rd_T83 l0 x5_1).f0))∧w'.cell? ⟨(ad531.add ((x5_1).toNat * 2)).block,(ad531.add ((x5_1).toNat * 2)).off+1,none⟩=some (.string ((rd_T83 l0 x5_1).f1))) (ds:=[]) #[false,false,false,false,false,false,false,false] (by kernel_rfl) rfl rfl ⟨((HB.out.cell (World.block_lt_of_cell? w _ hw531_0)).trans hw531_0),((HB.out.cell (World.block_lt_of_cell? w _ hw531_1)).trans hw531_1)⟩ (fun hHeld=>?_);refine with_tabW laws_heldChunkS.tab4 laws_heldChunkS.bits4 (fun HT_ HW_=>?_)
       generalize wr.drew=w13 at HB hx531_0 hx531_1 hHeld ⊢
       refine pure_ (i:=0) (N:=some 12) (v:=?_) (a':=?_) #[true,false,false,false,false,false,false,false] rfl rfl (any_of HT_.out (by kernel_rfl)) (fun _ _ _ h=>h) (Or.inl ⟨by rfl,?_⟩) ?_ ?_
       rotate_left
       ·intro w'
        go_simp
        with_reducible rfl
       rotate_left
       ·simp only [Act.put,sA,sZ,sC,i64_w,i32_w]
        rfl
       refine pure_ (i:=1) (N:=some 13) (v:=?_) (a':=?_) #[true,true,false,false,false,false,false,false] rfl rfl (any_of HT_.out (by kernel_rfl)) (fun _ _ _ h=>h) (Or.inl ⟨by rfl,?_⟩) ?_ ?_
       rotate_left
       ·intro w'
        go_simp
        with_reducible rfl
       rotate_left
       ·simp only [Act.put,sA,sZ,sC,i64_w,i32_w]
        rfl
       refine pure_ (i:=2) (N:=some 14) (v:=?_) (a':=?_) #[true,true,true,false,false,false,false,false] rfl rfl (any_of HT_.out (by kernel_rfl)) (fun _ _ _ h=>h) (Or.inl ⟨by rfl,?_⟩) ?_ ?_
       rotate_left
       ·intro w'
        go_simp
        with_reducible rfl
       rotate_left
       ·simp only [Act.put,sA,sZ,sC,i64_w,i32_w]
        rfl
       refine pure_ (i:=3) (N:=some 15) (v:=?_) (a':=?_) #[true,true,true,true,false,false,false,false] rfl rfl (any_of HT_.out (by kernel_rfl)) (fun _ _ _ h=>h) (Or.inl ⟨by rfl,?_⟩) ?_ ?_
       rotate_left
       ·intro w'
        go_simp
        with_reducible rfl
       rotate_left
       ·simp only [Act.put,sA,sZ,sC,i64_w,i32_w]
        rfl
       refine pure_ (i:=5) (N:=some 17) (v:=?_) (a':=?_) #[true,true,true,true,false,true,false,false] rfl rfl (any_of HT_.out (by kernel_rfl)) (fun _ _ _ h=>h) (Or.inl ⟨by rfl,?_⟩) ?_ ?_
       rotate_left
       ·intro w'
        go_simp
        with_reducible rfl
       rotate_left
       ·simp only [Act.put,sA,sZ,sC,i64_w,i32_w]
        rfl
       refine take_ (i:=4) (N:=some 16) (v:=?_) (a':=?_) #[true,true,true,true,true,true,false,false] rfl rfl (take_ofW HT_.out HW_.out (by kernel_rfl)) (fun _ _ _ h=>h) (Or.inl ⟨by rfl,?_⟩) hHeld ?_ ?_
       rotate_left
       ·rintro w' ⟨s0,s1⟩
        go_simp
        with_reducible rfl
       rotate_left
       ·simp only [Act.put,sA,sZ,sC,i64_w,i32_w]
        rfl
       refine one_ (i:=6) (N:=some 18) #[true,true,true,true,true,true,true,false] rfl rfl (one_of HT_.out (by kernel_rfl)) (by decide) (fun K hK=>?_)
       refine goes_ Try.func94 (by kernel_rfl) rfl #[.int .i64 x1_1] (by rfl) rfl rfl (by (try simp only [List.map_toArray,List.map_cons,List.map_nil]);first|done|rfl|(simp only [List.length_drop,List.length_take];rfl)) ?_
       with_reducible refine (laws_markText.calls k1 x1_1 t532 _ A5.out).mono ?_
       rintro e w14 ⟨rfl,hb⟩
       refine ⟨_,rfl,?_⟩
       replace HB:=Aside0.mk (below_step bH hb)
       (try clear hb)
       (try clear hb2)
       (try clear hk)
       (try clear hi)
       refine hK.out _ _ ⟨((HB.out.cell (World.block_lt_of_cell? w _ hw531_0)).trans hw531_0),((HB.out.cell (World.block_lt_of_cell? w _ hw531_1)).trans hw531_1)⟩ (fun hHeld=>?_)
       clear hK K
       refine norm_ (a':=?_) ?_ ?_
       rotate_left
       ·show Act.put _ (some 18) _=_
        simp only [Act.put,sA,sZ,sC,i64_w,i32_w]
        rfl
       refine pure_ (i:=7) (N:=some 19) (v:=?_) (a':=?_) #[true,true,true,true,true,true,true,true] rfl rfl (any_of HT_.out (by kernel_rfl)) (fun _ _ _ h=>h) (Or.inl ⟨by rfl,?_⟩) ?_ ?_
       rotate_left
       ·intro w'
        go_simp
        with_reducible rfl
       rotate_left
       ·simp only [Act.put,sA,sZ,sC,i64_w,i32_w]
        rfl
       refine done_ (done_of HT_.out (by kernel_rfl)) ?_
       try go_wp2
       replace HB:=Aside0.mk (below_drew1 HB.out)
       have p533:0≤(x5_1:Int):=oD
       have q533:x5_1 < (l0.length:Int):=oD
       obtain ⟨ad533,e533,hx533_0,hx533_1⟩:=at_T83 HR0.out x5_1 p533 q533
       have hw533_1:=hx533_1
       have hw533_0:=hx533_0
       obtain rfl:ad531=ad533:=(by injection e533)
       replace hx533_0:=(HB.out.cell (World.block_lt_of_cell? w _ hx533_0)).trans hx533_0
       replace hx533_1:=(HB.out.cell (World.block_lt_of_cell? w _ hx533_1)).trans hx533_1
       replace p533:=eq_true p533
       replace q533:=eq_true q533
       refine start_ (n:=8) (S:=fun w'=>w'.cell? (ad531.add ((x5_1).toNat * 2))=some (.string ((rd_T83 l0 x5_1).f0))∧w'.cell? ⟨(ad531.add ((x5_1).toNat * 2)).block,(ad531.add ((x5_1).toNat * 2)).off+1,none⟩=some (.string ((rd_T83 l0 x5_1).f1))) (ds:=[]) #[false,false,false,false,false,false,false,false] (by kernel_rfl) rfl rfl ⟨((HB.out.cell (World.block_lt_of_cell? w _ hw533_0)).trans hw533_0),((HB.out.cell (World.block_lt_of_cell? w _ hw533_1)).trans hw533_1)⟩ (fun hHeld=>?_);refine with_tabW laws_heldChunkS.tab7 laws_heldChunkS.bits7 (fun HT_ HW_=>?_)
       generalize w14.drew=w15 at HB hx533_0 hx533_1 hHeld ⊢
       refine pure_ (i:=0) (N:=some 22) (v:=?_) (a':=?_) #[true,false,false,false,false,false,false,false] rfl rfl (any_of HT_.out (by kernel_rfl)) (fun _ _ _ h=>h) (Or.inl ⟨by rfl,?_⟩) ?_ ?_
       rotate_left
       ·intro w'
        go_simp
        with_reducible rfl
       rotate_left
       ·simp only [Act.put,sA,sZ,sC,i64_w,i32_w]
        rfl
       refine pure_ (i:=1) (N:=some 23) (v:=?_) (a':=?_) #[true,true,false,false,false,false,false,false] rfl rfl (any_of HT_.out (by kernel_rfl)) (fun _ _ _ h=>h) (Or.inl ⟨by rfl,?_⟩) ?_ ?_
       rotate_left
       ·intro w'
        go_simp
        with_reducible rfl
       rotate_left
       ·simp only [Act.put,sA,sZ,sC,i64_w,i32_w]
        rfl
       refine pure_ (i:=2) (N:=some 24) (v:=?_) (a':=?_) #[true,true,true,false,false,false,false,false] rfl rfl (any_of HT_.out (by kernel_rfl)) (fun _ _ _ h=>h) (Or.inl ⟨by rfl,?_⟩) ?_ ?_
       rotate_left
       ·intro w'
        go_simp
        with_reducible rfl
       rotate_left
       ·simp only [Act.put,sA,sZ,sC,i64_w,i32_w]
        rfl
       refine pure_ (i:=3) (N:=some 25) (v:=?_) (a':=?_) #[true,true,true,true,false,false,false,false] rfl rfl (any_of HT_.out (by kernel_rfl)) (fun _ _ _ h=>h) (Or.inl ⟨by rfl,?_⟩) ?_ ?_
       rotate_left
       ·intro w'
        go_simp
        with_reducible rfl
       rotate_left
       ·simp only [Act.put,sA,sZ,sC,i64_w,i32_w]
        rfl
       refine pure_ (i:=5) (N:=some 27) (v:=?_) (a':=?_) #[true,true,true,true,false,true,false,false] rfl rfl (any_of HT_.out (by kernel_rfl)) (fun _ _ _ h=>h) (Or.inl ⟨by rfl,?_⟩) ?_ ?_
       rotate_left
       ·intro w'
        go_simp
        with_reducible rfl
       rotate_left
       ·simp only [Act.put,sA,sZ,sC,i64_w,i32_w]
        rfl
       refine take_ (i:=4) (N:=some 26) (v:=?_) (a':=?_) #[true,true,true,true,true,true,false,false] rfl rfl (take_ofW HT_.out HW_.out (by kernel_rfl)) (fun _ _ _ h=>h) (Or.inl ⟨by rfl,?_⟩) hHeld ?_ ?_
       rotate_left
       ·rintro w' ⟨s0,s1⟩
        go_simp
        with_reducible rfl
       rotate_left
       ·simp only [Act.put,sA,sZ,sC,i64_w,i32_w]
        rfl
       refine one_ (i:=6) (N:=some 28) #[true,true,true,true,true,true,true,false] rfl rfl (one_of HT_.out (by kernel_rfl)) (by decide) (fun K hK=>?_)
       refine goes_ Try.func94 (by kernel_rfl) rfl #[.int .i64 (wrap64 (x1_1+1))] (by rfl) rfl rfl (by (try simp only [List.map_toArray,List.map_cons,List.map_nil]);first|done|rfl|(simp only [List.length_drop,List.length_take];rfl)) ?_
       with_reducible refine (laws_markText.calls k1 (wrap64 (x1_1+1)) t534 _ A7.out).mono ?_
       rintro e w16 ⟨rfl,hb⟩
       refine ⟨_,rfl,?_⟩
       replace HB:=Aside0.mk (below_step bH hb)
       (try clear hb)
       (try clear hb2)
       (try clear hk)
       (try clear hi)
       refine hK.out _ _ ⟨((HB.out.cell (World.block_lt_of_cell? w _ hw533_0)).trans hw533_0),((HB.out.cell (World.block_lt_of_cell? w _ hw533_1)).trans hw533_1)⟩ (fun hHeld=>?_)
       clear hK K
       refine norm_ (a':=?_) ?_ ?_
       rotate_left
       ·show Act.put _ (some 28) _=_
        simp only [Act.put,sA,sZ,sC,i64_w,i32_w]
        rfl
       refine pure_ (i:=7) (N:=some 29) (v:=?_) (a':=?_) #[true,true,true,true,true,true,true,true] rfl rfl (any_of HT_.out (by kernel_rfl)) (fun _ _ _ h=>h) (Or.inl ⟨by rfl,?_⟩) ?_ ?_
       rotate_left
       ·intro w'
        go_simp
        with_reducible rfl
       rotate_left
       ·simp only [Act.put,sA,sZ,sC,i64_w,i32_w]
        rfl
       refine done_ (done_of HT_.out (by kernel_rfl)) ?_
       try go_wp2
       go_ret
       exact ⟨fE,bH⟩
     ·rw [if_neg c6] at H
      have c6b0:(((rd_T83 l0 x5_1).f0).toList == t532.toList)=false:=beq_eq_false_iff_ne.mpr c6
      have c6b1:(((rd_T83 l0 x5_1).f0).toList != t532.toList)=true:=bne_iff_ne.mpr c6
      obtain rfl:=sI H
      try go_wp2
      replace HB:=Aside0.mk (below_drew1 HB.out)
      have p531:0≤(x5_1:Int):=oD
      have q531:x5_1 < (l0.length:Int):=oD
      obtain ⟨ad531,e531,hx531_0,hx531_1⟩:=at_T83 HR0.out x5_1 p531 q531
      have hw531_1:=hx531_1
      have hw531_0:=hx531_0
      cases e531
      replace hx531_0:=(HB.out.cell (World.block_lt_of_cell? w _ hx531_0)).trans hx531_0
      replace hx531_1:=(HB.out.cell (World.block_lt_of_cell? w _ hx531_1)).trans hx531_1
      replace p531:=eq_true p531
      replace q531:=eq_true q531
      refine start_ (n:=8) (S:=fun w'=>w'.cell? (ad531.add ((x5_1).toNat * 2))=some (.string ((rd_T83 l0 x5_1).f0))∧w'.cell? ⟨(ad531.add ((x5_1).toNat * 2)).block,(ad531.add ((x5_1).toNat * 2)).off+1,none⟩=some (.string ((rd_T83 l0 x5_1).f1))) (ds:=[]) #[false,false,false,false,false,false,false,false] (by kernel_rfl) rfl rfl ⟨((HB.out.cell (World.block_lt_of_cell? w _ hw531_0)).trans hw531_0),((HB.out.cell (World.block_lt_of_cell? w _ hw531_1)).trans hw531_1)⟩ (fun hHeld=>?_);refine with_tabW laws_heldChunkS.tab4 laws_heldChunkS.bits4 (fun HT_ HW_=>?_)
      generalize wr.drew=w17 at HB hx531_0 hx531_1 hHeld ⊢
      refine pure_ (i:=0) (N:=some 12) (v:=?_) (a':=?_) #[true,false,false,false,false,false,false,false] rfl rfl (any_of HT_.out (by kernel_rfl)) (fun _ _ _ h=>h) (Or.inl ⟨by rfl,?_⟩) ?_ ?_
      rotate_left
      ·intro w'
       go_simp
       with_reducible rfl
      rotate_left
      ·simp only [Act.put,sA,sZ,sC,i64_w,i32_w]
       rfl
      refine pure_ (i:=1) (N:=some 13) (v:=?_) (a':=?_) #[true,true,false,false,false,false,false,false] rfl rfl (any_of HT_.out (by kernel_rfl)) (fun _ _ _ h=>h) (Or.inl ⟨by rfl,?_⟩) ?_ ?_
      rotate_left
      ·intro w'
       go_simp
       with_reducible rfl
      rotate_left
      ·simp only [Act.put,sA,sZ,sC,i64_w,i32_w]
       rfl
      refine pure_ (i:=2) (N:=some 14) (v:=?_) (a':=?_) #[true,true,true,false,false,false,false,false] rfl rfl (any_of HT_.out (by kernel_rfl)) (fun _ _ _ h=>h) (Or.inl ⟨by rfl,?_⟩) ?_ ?_
      rotate_left
      ·intro w'
       go_simp
       with_reducible rfl
      rotate_left
      ·simp only [Act.put,sA,sZ,sC,i64_w,i32_w]
       rfl
      refine pure_ (i:=3) (N:=some 15) (v:=?_) (a':=?_) #[true,true,true,true,false,false,false,false] rfl rfl (any_of HT_.out (by kernel_rfl)) (fun _ _ _ h=>h) (Or.inl ⟨by rfl,?_⟩) ?_ ?_
      rotate_left
      ·intro w'
       go_simp
       with_reducible rfl
      rotate_left
      ·simp only [Act.put,sA,sZ,sC,i64_w,i32_w]
       rfl
      refine pure_ (i:=5) (N:=some 17) (v:=?_) (a':=?_) #[true,true,true,true,false,true,false,false] rfl rfl (any_of HT_.out (by kernel_rfl)) (fun _ _ _ h=>h) (Or.inl ⟨by rfl,?_⟩) ?_ ?_
      rotate_left
      ·intro w'
       go_simp
       with_reducible rfl
      rotate_left
      ·simp only [Act.put,sA,sZ,sC,i64_w,i32_w]
       rfl
      refine take_ (i:=4) (N:=some 16) (v:=?_) (a':=?_) #[true,true,true,true,true,true,false,false] rfl rfl (take_ofW HT_.out HW_.out (by kernel_rfl)) (fun _ _ _ h=>h) (Or.inl ⟨by rfl,?_⟩) hHeld ?_ ?_
      rotate_left
      ·rintro w' ⟨s0,s1⟩
       go_simp
       with_reducible rfl
      rotate_left
      ·simp only [Act.put,sA,sZ,sC,i64_w,i32_w]
       rfl
      refine one_ (i:=6) (N:=some 18) #[true,true,true,true,true,true,true,false] rfl rfl (one_of HT_.out (by kernel_rfl)) (by decide) (fun K hK=>?_)
      refine goes_ Try.func94 (by kernel_rfl) rfl #[.int .i64 x1_1] (by rfl) rfl rfl (by (try simp only [List.map_toArray,List.map_cons,List.map_nil]);first|done|rfl|(simp only [List.length_drop,List.length_take];rfl)) ?_
      with_reducible refine (laws_markText.calls k1 x1_1 t532 _ A5.out).mono ?_
      rintro e w18 ⟨rfl,hb⟩
      refine ⟨_,rfl,?_⟩
      replace HB:=Aside0.mk (below_step bH hb)
      (try clear hb)
      (try clear hb2)
      (try clear hk)
      (try clear hi)
      refine hK.out _ _ ⟨((HB.out.cell (World.block_lt_of_cell? w _ hw531_0)).trans hw531_0),((HB.out.cell (World.block_lt_of_cell? w _ hw531_1)).trans hw531_1)⟩ (fun hHeld=>?_)
      clear hK K
      refine norm_ (a':=?_) ?_ ?_
      rotate_left
      ·show Act.put _ (some 18) _=_
       simp only [Act.put,sA,sZ,sC,i64_w,i32_w]
       rfl
      refine pure_ (i:=7) (N:=some 19) (v:=?_) (a':=?_) #[true,true,true,true,true,true,true,true] rfl rfl (any_of HT_.out (by kernel_rfl)) (fun _ _ _ h=>h) (Or.inl ⟨by rfl,?_⟩) ?_ ?_
      rotate_left
      ·intro w'
       go_simp
       with_reducible rfl
      rotate_left
      ·simp only [Act.put,sA,sZ,sC,i64_w,i32_w]
       rfl
      refine done_ (done_of HT_.out (by kernel_rfl)) ?_
      try go_wp2
      go_ret
      exact ⟨fE,bH⟩
    ·rw [if_neg c4] at H
     exact absurd H (by simp)
   ·rw [if_neg c3] at H
    have c3b0:decide (x5_1 < (l0.length:Int))=false:=decide_eq_false c3
    clear c3
    obtain rfl:=sI H
    go_wp2
    go_ret
    exact ⟨fE,bH⟩
def laws_heldPng.f (k:Nat) (a0_0:Int) (a0_1:Int) (a0_2:Int) (a0_3:Int) (a0_4:Bool) (l0_5:List (S95)) (l0_6:List Int) (a0_7:Int) (a0_8:Int) (a0_9:Int) (a0_10:Int) (l0_11:List Int) (l0_12:List (S83)) (a1:Int):Option (Int):=(laws_heldRgbS.f k l0_5 a1).bind fun t536=>(if t536 < 0 then (some (-1)) else ((laws_heldIntS.f k l0_6 t536).bind fun t537=>(if t537 < 0 then (some (-1)) else ((laws_heldRaster.f k a0_7 a0_8 a0_9 a0_10 l0_11 t537).bind fun t538=>(if t538 < 0 then (some (-1)) else ((laws_heldChunkS.f k l0_12 t538).bind fun t539=>(if t539 < 0 then (some (-1)) else (some t539))))))))
theorem laws_heldPng.mono:∀ a0 a1 a2 a3 a4 a5 a6 a7 a8 a9 a10 a11 a12 a13 k,LeO (laws_heldPng.f k a0 a1 a2 a3 a4 a5 a6 a7 a8 a9 a10 a11 a12 a13) (laws_heldPng.f (k+1) a0 a1 a2 a3 a4 a5 a6 a7 a8 a9 a10 a11 a12 a13):=by
 intro a0 a1 a2 a3 a4 a5 a6 a7 a8 a9 a10 a11 a12 a13 k
 unfold laws_heldPng.f
 repeat' first
   | (with_reducible exact laws_heldChunkS.mono _ _ _)
   | (with_reducible exact laws_heldIntS.mono _ _ _)
   | (with_reducible exact laws_heldRaster.mono _ _ _ _ _ _ _)
   | (with_reducible exact laws_heldRgbS.mono _ _ _)
   | (with_reducible exact LeO.refl _)
   | (with_reducible exact LeO.none _)
   | (with_reducible refine LeO.ite ?_ ?_)
   | (with_reducible refine LeO.bind ?_ (fun _=>?_))
   | exact laws_heldChunkS.mono _ _ _
   | exact laws_heldIntS.mono _ _ _
   | exact laws_heldRaster.mono _ _ _ _ _ _ _
   | exact laws_heldRgbS.mono _ _ _
   | exact LeO.none _
   | refine LeO.ite ?_ ?_
   | refine LeO.bind ?_ (fun _=>?_)
theorem laws_heldPng.calls (k:Nat) (a0_0:Int) (a0_1:Int) (a0_2:Int) (a0_3:Int) (a0_4:Bool) (A0_5:Option Addr) (c0_5:Nat) (l0_5:List (S95)) (A0_6:Option Addr) (c0_6:Nat) (l0_6:List Int) (a0_7:Int) (a0_8:Int) (a0_9:Int) (a0_10:Int) (A0_11:Option Addr) (c0_11:Nat) (l0_11:List Int) (A0_12:Option Addr) (c0_12:Nat) (l0_12:List (S83)) (a1:Int) (r:Int) (w:World) (hr0_5:Kd.C k95 w A0_5 l0_5.length l0_5) (hc0_5:l0_5.length≤c0_5) (hr0_6:Kd.C (Kd.int .i64) w A0_6 l0_6.length l0_6) (hc0_6:l0_6.length≤c0_6) (hr0_11:Kd.C (Kd.int .i64) w A0_11 l0_11.length l0_11) (hc0_11:l0_11.length≤c0_11) (hr0_12:Kd.C k83 w A0_12 l0_12.length l0_12) (hc0_12:l0_12.length≤c0_12) (h:laws_heldPng.f k a0_0 a0_1 a0_2 a0_3 a0_4 l0_5 l0_6 a0_7 a0_8 a0_9 a0_10 l0_11 l0_12 a1=some r):
  Calls Try.prog 15 #[.agg #[.int .i64 a0_0,.int .i64 a0_1,.int .i64 a0_2,.int .i64 a0_3,.bool a0_4,.slice A0_5 l0_5.length c0_5,.slice A0_6 l0_6.length c0_6,.int .i64 a0_7,.int .i64 a0_8,.int .i64 a0_9,.int .i64 a0_10,.slice A0_11 l0_11.length c0_11,.slice A0_12 l0_12.length c0_12],.int .i64 a1] w fun e w'=>e=.returned (.int .i64 r)∧Below w.heap.size w w':=by
 have hu37:=Try.underlying37
 have hu34:=Try.underlying34
 have HR0_5:=Aside0.mk hr0_5
 have HC0_5:=Aside0.mk hc0_5
 clear hr0_5 hc0_5
 have HR0_6:=Aside0.mk hr0_6
 have HC0_6:=Aside0.mk hc0_6
 clear hr0_6 hc0_6
 have HR0_11:=Aside0.mk hr0_11
 have HC0_11:=Aside0.mk hc0_11
 clear hr0_11 hc0_11
 have HR0_12:=Aside0.mk hr0_12
 have HC0_12:=Aside0.mk hc0_12
 clear hr0_12 hc0_12
 have HB:=Aside0.mk (Below.refl w.heap.size w)
 have H:=h
 clear h
 unfold laws_heldPng.f at H
 obtain ⟨t536,A3,H⟩:=bS H
 try dsimp only at H
 by_cases c4:t536 < 0
 ·rw [if_pos c4] at H
  have c4b0:decide (t536 < 0)=true:=decide_eq_true c4
  clear c4
  obtain rfl:=sI H
  go_enter Try.func15,Try.ntmps15
  go_wp2_with (first|((with_reducible refine gate_dst (N:=2) rfl ?_);refine boxE 2 (#[.int .i64 a0_0,.int .i64 a0_1,.int .i64 a0_2,.int .i64 a0_3,.bool a0_4,.slice A0_5 l0_5.length c0_5,.slice A0_6 l0_6.length c0_6,.int .i64 a0_7,.int .i64 a0_8,.int .i64 a0_9,.int .i64 a0_10,.slice A0_11 l0_11.length c0_11,.slice A0_12 l0_12.length c0_12]) 37 ?_;intro gb535 hg w5 hbox hb;have BK535:=Aside0.mk hbox;have GW535:=(gwH (w:=w) hg);have GE535:=(gwH (w:=w) hg);replace HB:=Aside0.mk (below_step bH hb);clear hb hbox hg;obtain ⟨z6_0,z6_1,z6_2,z6_3,z6_4,z6_5,z6_6,z6_7,z6_8,z6_9,z6_10,z6_11,z6_12,y6_0,y6_1,y6_2,y6_3,y6_4,y6_5,y6_6,y6_7,y6_8,y6_9,y6_10,y6_11,y6_12⟩:=blk13f BK535)|((with_reducible refine gate_callee (f:=56) rfl ?_);refine gL (some 8) Try.func56 #[.slice A0_5 l0_5.length c0_5,.int .i64 a1] ?_;(with_reducible refine (laws_heldRgbS.calls k _ _ l0_5 a1 t536 _ (cB HR0_5) HC0_5.out A3.out).mono ?_);rintro e w' ⟨rfl,⟨nd,rfl⟩⟩;refine ⟨_,rfl,?_⟩))
  go_ret
  exact ⟨fE,bG⟩
 ·rw [if_neg c4] at H
  have c4b0:decide (t536 < 0)=false:=decide_eq_false c4
  clear c4
  obtain ⟨t537,A7,H⟩:=bS H
  try dsimp only at H
  by_cases c8:t537 < 0
  ·rw [if_pos c8] at H
   have c8b0:decide (t537 < 0)=true:=decide_eq_true c8
   clear c8
   obtain rfl:=sI H
   go_enter Try.func15,Try.ntmps15
   go_wp2_with (first|((with_reducible refine gate_dst (N:=2) rfl ?_);refine boxE 2 (#[.int .i64 a0_0,.int .i64 a0_1,.int .i64 a0_2,.int .i64 a0_3,.bool a0_4,.slice A0_5 l0_5.length c0_5,.slice A0_6 l0_6.length c0_6,.int .i64 a0_7,.int .i64 a0_8,.int .i64 a0_9,.int .i64 a0_10,.slice A0_11 l0_11.length c0_11,.slice A0_12 l0_12.length c0_12]) 37 ?_;intro gb535 hg w9 hbox hb;have BK535:=Aside0.mk hbox;have GW535:=(gwH (w:=w) hg);have GE535:=(gwH (w:=w) hg);replace HB:=Aside0.mk (below_step bH hb);clear hb hbox hg;obtain ⟨z10_0,z10_1,z10_2,z10_3,z10_4,z10_5,z10_6,z10_7,z10_8,z10_9,z10_10,z10_11,z10_12,y10_0,y10_1,y10_2,y10_3,y10_4,y10_5,y10_6,y10_7,y10_8,y10_9,y10_10,y10_11,y10_12⟩:=blk13f BK535)|((with_reducible refine gate_callee (f:=56) rfl ?_);refine gL (some 8) Try.func56 #[.slice A0_5 l0_5.length c0_5,.int .i64 a1] ?_;(with_reducible refine (laws_heldRgbS.calls k _ _ l0_5 a1 t536 _ (cB HR0_5) HC0_5.out A3.out).mono ?_);rintro e w' ⟨rfl,⟨nd,rfl⟩⟩;refine ⟨_,rfl,?_⟩)|((with_reducible refine gate_callee (f:=57) rfl ?_);refine gL (some 14) Try.func57 #[.slice A0_6 l0_6.length c0_6,.int .i64 t536] ?_;(with_reducible refine (laws_heldIntS.calls k _ _ l0_6 t536 t537 _ ?side1 HC0_6.out A7.out).mono ?_);(case side1=>repeat (first|exact (Kd.C_below HR0_6.out bG)|(with_reducible refine Kd.C_alloc ?_ _)|(with_reducible refine Kd.C_drewN ?_ _)|(with_reducible refine Kd.C_drew ?_)));rintro e w' ⟨rfl,⟨nd,rfl⟩⟩;refine ⟨_,rfl,?_⟩))
   go_ret
   exact ⟨fE,bG⟩
  ·rw [if_neg c8] at H
   have c8b0:decide (t537 < 0)=false:=decide_eq_false c8
   clear c8
   obtain ⟨t538,A11,H⟩:=bS H
   try dsimp only at H
   by_cases c12:t538 < 0
   ·rw [if_pos c12] at H
    have c12b0:decide (t538 < 0)=true:=decide_eq_true c12
    clear c12
    obtain rfl:=sI H
    go_enter Try.func15,Try.ntmps15
    go_wp2_with (first|((with_reducible refine gate_dst (N:=2) rfl ?_);refine boxE 2 (#[.int .i64 a0_0,.int .i64 a0_1,.int .i64 a0_2,.int .i64 a0_3,.bool a0_4,.slice A0_5 l0_5.length c0_5,.slice A0_6 l0_6.length c0_6,.int .i64 a0_7,.int .i64 a0_8,.int .i64 a0_9,.int .i64 a0_10,.slice A0_11 l0_11.length c0_11,.slice A0_12 l0_12.length c0_12]) 37 ?_;intro gb535 hg w13 hbox hb;have BK535:=Aside0.mk hbox;have GW535:=(gwH (w:=w) hg);have GE535:=(gwH (w:=w) hg);replace HB:=Aside0.mk (below_step bH hb);clear hb hbox hg;obtain ⟨z14_0,z14_1,z14_2,z14_3,z14_4,z14_5,z14_6,z14_7,z14_8,z14_9,z14_10,z14_11,z14_12,y14_0,y14_1,y14_2,y14_3,y14_4,y14_5,y14_6,y14_7,y14_8,y14_9,y14_10,y14_11,y14_12⟩:=blk13f BK535)|((with_reducible refine gate_callee (f:=56) rfl ?_);refine gL (some 8) Try.func56 #[.slice A0_5 l0_5.length c0_5,.int .i64 a1] ?_;(with_reducible refine (laws_heldRgbS.calls k _ _ l0_5 a1 t536 _ (cB HR0_5) HC0_5.out A3.out).mono ?_);rintro e w' ⟨rfl,⟨nd,rfl⟩⟩;refine ⟨_,rfl,?_⟩)|((with_reducible refine gate_callee (f:=57) rfl ?_);refine gL (some 14) Try.func57 #[.slice A0_6 l0_6.length c0_6,.int .i64 t536] ?_;(with_reducible refine (laws_heldIntS.calls k _ _ l0_6 t536 t537 _ ?side1 HC0_6.out A7.out).mono ?_);(case side1=>repeat (first|exact (Kd.C_below HR0_6.out bG)|(with_reducible refine Kd.C_alloc ?_ _)|(with_reducible refine Kd.C_drewN ?_ _)|(with_reducible refine Kd.C_drew ?_)));rintro e w' ⟨rfl,⟨nd,rfl⟩⟩;refine ⟨_,rfl,?_⟩)|((with_reducible refine gate_callee (f:=58) rfl ?_);refine gL (some 20) Try.func58 #[.agg #[.int .i64 a0_7,.int .i64 a0_8,.int .i64 a0_9,.int .i64 a0_10,.slice A0_11 l0_11.length c0_11],.int .i64 t537] ?_;(with_reducible refine (laws_heldRaster.calls k a0_7 a0_8 a0_9 a0_10 _ _ l0_11 t537 t538 _ ?side1 HC0_11.out A11.out).mono ?_);(case side1=>repeat (first|exact (Kd.C_below HR0_11.out bG)|(with_reducible refine Kd.C_alloc ?_ _)|(with_reducible refine Kd.C_drewN ?_ _)|(with_reducible refine Kd.C_drew ?_)));rintro e w15 ⟨rfl,hb⟩;refine ⟨_,rfl,?_⟩;replace BK535:=Aside0.mk (bkb BK535 hb);replace HB:=Aside0.mk (below_step bG hb);(try clear hb)))
    go_ret
    exact ⟨fE,bG⟩
   ·rw [if_neg c12] at H
    have c12b0:decide (t538 < 0)=false:=decide_eq_false c12
    clear c12
    obtain ⟨t539,A16,H⟩:=bS H
    try dsimp only at H
    by_cases c17:t539 < 0
    ·rw [if_pos c17] at H
     have c17b0:decide (t539 < 0)=true:=decide_eq_true c17
     clear c17
     obtain rfl:=sI H
     go_enter Try.func15,Try.ntmps15
     go_wp2_with (first|((with_reducible refine gate_dst (N:=2) rfl ?_);refine boxE 2 (#[.int .i64 a0_0,.int .i64 a0_1,.int .i64 a0_2,.int .i64 a0_3,.bool a0_4,.slice A0_5 l0_5.length c0_5,.slice A0_6 l0_6.length c0_6,.int .i64 a0_7,.int .i64 a0_8,.int .i64 a0_9,.int .i64 a0_10,.slice A0_11 l0_11.length c0_11,.slice A0_12 l0_12.length c0_12]) 37 ?_;intro gb535 hg w18 hbox hb;have BK535:=Aside0.mk hbox;have GW535:=(gwH (w:=w) hg);have GE535:=(gwH (w:=w) hg);replace HB:=Aside0.mk (below_step bH hb);clear hb hbox hg;obtain ⟨z19_0,z19_1,z19_2,z19_3,z19_4,z19_5,z19_6,z19_7,z19_8,z19_9,z19_10,z19_11,z19_12,y19_0,y19_1,y19_2,y19_3,y19_4,y19_5,y19_6,y19_7,y19_8,y19_9,y19_10,y19_11,y19_12⟩:=blk13f BK535)|((with_reducible refine gate_callee (f:=56) rfl ?_);refine gL (some 8) Try.func56 #[.slice A0_5 l0_5.length c0_5,.int .i64 a1] ?_;(with_reducible refine (laws_heldRgbS.calls k _ _ l0_5 a1 t536 _ (cB HR0_5) HC0_5.out A3.out).mono ?_);rintro e w' ⟨rfl,⟨nd,rfl⟩⟩;refine ⟨_,rfl,?_⟩)|((with_reducible refine gate_callee (f:=57) rfl ?_);refine gL (some 14) Try.func57 #[.slice A0_6 l0_6.length c0_6,.int .i64 t536] ?_;(with_reducible refine (laws_heldIntS.calls k _ _ l0_6 t536 t537 _ ?side1 HC0_6.out A7.out).mono ?_);(case side1=>repeat (first|exact (Kd.C_below HR0_6.out bG)|(with_reducible refine Kd.C_alloc ?_ _)|(with_reducible refine Kd.C_drewN ?_ _)|(with_reducible refine Kd.C_drew ?_)));rintro e w' ⟨rfl,⟨nd,rfl⟩⟩;refine ⟨_,rfl,?_⟩)|((with_reducible refine gate_callee (f:=58) rfl ?_);refine gL (some 20) Try.func58 #[.agg #[.int .i64 a0_7,.int .i64 a0_8,.int .i64 a0_9,.int .i64 a0_10,.slice A0_11 l0_11.length c0_11],.int .i64 t537] ?_;(with_reducible refine (laws_heldRaster.calls k a0_7 a0_8 a0_9 a0_10 _ _ l0_11 t537 t538 _ ?side1 HC0_11.out A11.out).mono ?_);(case side1=>repeat (first|exact (Kd.C_below HR0_11.out bG)|(with_reducible refine Kd.C_alloc ?_ _)|(with_reducible refine Kd.C_drewN ?_ _)|(with_reducible refine Kd.C_drew ?_)));rintro e w20 ⟨rfl,hb⟩;refine ⟨_,rfl,?_⟩;replace BK535:=Aside0.mk (bkb BK535 hb);replace HB:=Aside0.mk (below_step bG hb);(try clear hb);obtain ⟨z21_0,z21_1,z21_2,z21_3,z21_4,z21_5,z21_6,z21_7,z21_8,z21_9,z21_10,z21_11,z21_12,y21_0,y21_1,y21_2,y21_3,y21_4,y21_5,y21_6,y21_7,y21_8,y21_9,y21_10,y21_11,y21_12⟩:=blk13f BK535)|((with_reducible refine gate_callee (f:=59) rfl ?_);refine gL (some 26) Try.func59 #[.slice A0_12 l0_12.length c0_12,.int .i64 t538] ?_;(with_reducible refine (laws_heldChunkS.calls k _ _ l0_12 t538 t539 _ (cB HR0_12) HC0_12.out A16.out).mono ?_);rintro e w22 ⟨rfl,hb⟩;refine ⟨_,rfl,?_⟩;replace BK535:=Aside0.mk (bkb BK535 hb);replace HB:=Aside0.mk (below_step bG hb);(try clear hb)))
     go_ret
     exact ⟨fE,bG⟩
    ·rw [if_neg c17] at H
     have c17b0:decide (t539 < 0)=false:=decide_eq_false c17
     clear c17
     obtain rfl:=sI H
     go_enter Try.func15,Try.ntmps15
     go_wp2_with (first|((with_reducible refine gate_dst (N:=2) rfl ?_);refine boxE 2 (#[.int .i64 a0_0,.int .i64 a0_1,.int .i64 a0_2,.int .i64 a0_3,.bool a0_4,.slice A0_5 l0_5.length c0_5,.slice A0_6 l0_6.length c0_6,.int .i64 a0_7,.int .i64 a0_8,.int .i64 a0_9,.int .i64 a0_10,.slice A0_11 l0_11.length c0_11,.slice A0_12 l0_12.length c0_12]) 37 ?_;intro gb535 hg w23 hbox hb;have BK535:=Aside0.mk hbox;have GW535:=(gwH (w:=w) hg);have GE535:=(gwH (w:=w) hg);replace HB:=Aside0.mk (below_step bH hb);clear hb hbox hg;obtain ⟨z24_0,z24_1,z24_2,z24_3,z24_4,z24_5,z24_6,z24_7,z24_8,z24_9,z24_10,z24_11,z24_12,y24_0,y24_1,y24_2,y24_3,y24_4,y24_5,y24_6,y24_7,y24_8,y24_9,y24_10,y24_11,y24_12⟩:=blk13f BK535)|((with_reducible refine gate_callee (f:=56) rfl ?_);refine gL (some 8) Try.func56 #[.slice A0_5 l0_5.length c0_5,.int .i64 a1] ?_;(with_reducible refine (laws_heldRgbS.calls k _ _ l0_5 a1 t536 _ (cB HR0_5) HC0_5.out A3.out).mono ?_);rintro e w' ⟨rfl,⟨nd,rfl⟩⟩;refine ⟨_,rfl,?_⟩)|((with_reducible refine gate_callee (f:=57) rfl ?_);refine gL (some 14) Try.func57 #[.slice A0_6 l0_6.length c0_6,.int .i64 t536] ?_;(with_reducible refine (laws_heldIntS.calls k _ _ l0_6 t536 t537 _ ?side1 HC0_6.out A7.out).mono ?_);(case side1=>repeat (first|exact (Kd.C_below HR0_6.out bG)|(with_reducible refine Kd.C_alloc ?_ _)|(with_reducible refine Kd.C_drewN ?_ _)|(with_reducible refine Kd.C_drew ?_)));rintro e w' ⟨rfl,⟨nd,rfl⟩⟩;refine ⟨_,rfl,?_⟩)|((with_reducible refine gate_callee (f:=58) rfl ?_);refine gL (some 20) Try.func58 #[.agg #[.int .i64 a0_7,.int .i64 a0_8,.int .i64 a0_9,.int .i64 a0_10,.slice A0_11 l0_11.length c0_11],.int .i64 t537] ?_;(with_reducible refine (laws_heldRaster.calls k a0_7 a0_8 a0_9 a0_10 _ _ l0_11 t537 t538 _ ?side1 HC0_11.out A11.out).mono ?_);(case side1=>repeat (first|exact (Kd.C_below HR0_11.out bG)|(with_reducible refine Kd.C_alloc ?_ _)|(with_reducible refine Kd.C_drewN ?_ _)|(with_reducible refine Kd.C_drew ?_)));rintro e w25 ⟨rfl,hb⟩;refine ⟨_,rfl,?_⟩;replace BK535:=Aside0.mk (bkb BK535 hb);replace HB:=Aside0.mk (below_step bG hb);(try clear hb);obtain ⟨z26_0,z26_1,z26_2,z26_3,z26_4,z26_5,z26_6,z26_7,z26_8,z26_9,z26_10,z26_11,z26_12,y26_0,y26_1,y26_2,y26_3,y26_4,y26_5,y26_6,y26_7,y26_8,y26_9,y26_10,y26_11,y26_12⟩:=blk13f BK535)|((with_reducible refine gate_callee (f:=59) rfl ?_);refine gL (some 26) Try.func59 #[.slice A0_12 l0_12.length c0_12,.int .i64 t538] ?_;(with_reducible refine (laws_heldChunkS.calls k _ _ l0_12 t538 t539 _ (cB HR0_12) HC0_12.out A16.out).mono ?_);rintro e w27 ⟨rfl,hb⟩;refine ⟨_,rfl,?_⟩;replace BK535:=Aside0.mk (bkb BK535 hb);replace HB:=Aside0.mk (below_step bG hb);(try clear hb)))
     go_ret
     exact ⟨fE,bG⟩
-- NOT PRINTED: function 3 (laws_FnExactLessDepth)
end Go.Proofs.Ytjpfhldklbgdcaa.Ld
