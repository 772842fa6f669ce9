import Derived.Test.YtjpfhldklbgdcaaLdx0
import Derived.Test.YtjpfhldklbgdcaaLdx17
set_option maxHeartbeats 8000000
set_option maxRecDepth 100000
namespace Go.Proofs.Ytjpfhldklbgdcaa.Ld
open Go.RowKit Go.Proofs.Ytjpfhldklbgdcaa.Sq Go.Proofs.YtjpfhldklbgdcaaW.PrintWords Go.Proofs.YtjpfhldklbgdcaaW.PrintLast Go.Proofs.YtjpfhldklbgdcaaW.PrintMore
attribute [local go_sem] max2_int min2_int max_two min_two max_three min_three max_four min_four   -- for this text's walks alone
set_option linter.unusedVariables false
set_option linter.unusedSimpArgs false
def laws_markText.l0:Nat→Int→ByteArray→Option (ByteArray)
 | 0,_,_=>none
 | k+1,x0,x3=>if x0 > 0 then ((some (([(wrap64 (48+(Int.tmod x0 10))) % 256]:List Int):List Int)).bind fun y509=>(if (strOfNums y509).size+x3.size≤9223372036854775807 then (laws_markText.l0 k (wrap64 (Int.tdiv x0 10)) ((strOfNums y509)++x3)) else (none))) else (if 1+x3.size≤9223372036854775807 then (some ((⟨#[109]⟩:ByteArray)++x3)) else (none))
def laws_markText.f (k:Nat) (a0:Int):Option (ByteArray):=if a0≤0 then (some (⟨#[109,48]⟩:ByteArray)) else (laws_markText.l0 k a0 (⟨#[]⟩:ByteArray))
theorem laws_markText.mono_l:∀ k,(∀ y0 y1,LeO (laws_markText.l0 k y0 y1) (laws_markText.l0 (k+1) y0 y1))
 | 0=>fun _ _ r h=>by simp [laws_markText.l0] at h
 | k+1=>by
  have ih0:=laws_markText.mono_l k
  ·intro y0 y1
   unfold laws_markText.l0
   repeat' first
   | (with_reducible exact ih0 _ _)
   | (with_reducible exact LeO.refl _)
   | (with_reducible exact LeO.none _)
   | (with_reducible refine LeO.ite ?_ ?_)
   | (with_reducible refine LeO.bind ?_ (fun _=>?_))
   | exact ih0 _ _
   | exact LeO.none _
   | refine LeO.ite ?_ ?_
   | refine LeO.bind ?_ (fun _=>?_)
theorem laws_markText.mono:∀ a0 k,LeO (laws_markText.f k a0) (laws_markText.f (k+1) a0):=by
 intro a0 k
 have ih0:=laws_markText.mono_l k
 unfold laws_markText.f
 repeat' first
   | (with_reducible exact ih0 _ _)
   | (with_reducible exact LeO.refl _)
   | (with_reducible exact LeO.none _)
   | (with_reducible refine LeO.ite ?_ ?_)
   | (with_reducible refine LeO.bind ?_ (fun _=>?_))
   | exact ih0 _ _
   | exact LeO.none _
   | refine LeO.ite ?_ ?_
   | refine LeO.bind ?_ (fun _=>?_)
theorem laws_markText.calls (k:Nat) (a0:Int) (r:ByteArray) (w:World) (h:laws_markText.f k a0=some r):
  Calls Try.prog 94 #[.int .i64 a0] w fun e w'=>e=.returned (.string r)∧Below w.heap.size w w':=by
 have HB:=Aside0.mk (Below.refl w.heap.size w)
 have H:=h
 clear h
 unfold laws_markText.f at H
 by_cases c2:a0≤0
 ·rw [if_pos c2] at H
  have c2b0:decide (a0≤0)=true:=decide_eq_true c2
  clear c2
  obtain rfl:=sI H
  go_enter Try.func94,Try.ntmps94
  go_wp2
  go_ret
  exact ⟨fE,bH⟩
 ·rw [if_neg c2] at H
  have c2b0:decide (a0≤0)=false:=decide_eq_false c2
  clear c2
  have H':=Aside0.mk H
  clear H
  go_enter Try.func94,Try.ntmps94
  go_wp2
  go_loopg [0,3] k (fun kq v0 v3 w'=>∃ (x0_1:Int) (x3_1:ByteArray),v0=.int .i64 x0_1∧v3=.string x3_1∧Aside0 (laws_markText.l0 kq x0_1 x3_1=some r)∧Aside0 (kq≤k)∧Aside0 (Below w.heap.size w w'))
  case atStart=>exact ⟨(a0),((⟨#[]⟩:ByteArray)),fS,fS,H',⟨Nat.le_refl _⟩,⟨bH⟩⟩
  case round =>
   clear H'
   try clear c2
   try clear c2b0
   try clear p2
   obtain ⟨x0_1,x3_1,rfl,rfl,HA,HK1,HB⟩:=hrel
   cases gk with
   | zero=>exact absurd HA.out (by simp [laws_markText.l0])
   | succ k1 =>
    have H:=HA.out
    clear HA
    simp only [laws_markText.l0] at H
    by_cases c3:x0_1 > 0
    ·rw [if_pos c3] at H
     have c3b0:decide (0 < x0_1)=true:=decide_eq_true c3
     clear c3
     obtain ⟨y509,hy509⟩:∃ y_:List Int,y_=(([(wrap64 (48+(Int.tmod x0_1 10))) % 256]:List Int)):=⟨_,rfl⟩
     replace H:(if (strOfNums y509).size+x3_1.size≤9223372036854775807 then (laws_markText.l0 k1 (wrap64 (Int.tdiv x0_1 10)) ((strOfNums y509)++x3_1)) else (none))=some r:=by first|(rw [hy509];with_reducible exact H)|(have H2_:=(Option.bind_some _ _).symm.trans H;rw [hy509];with_reducible exact H2_)|(have H2_:=(Option.bind_some _ _).symm.trans H;with_reducible exact H2_)|with_reducible exact H|(rw [hy509];exact H)|exact H
     have Ny509:=Aside0.mk hy509
     clear hy509
     by_cases c4:(strOfNums y509).size+x3_1.size≤9223372036854775807
     ·rw [if_pos c4] at H
      have c4b0:=eq_true c4
      have c4b1:decide ((strOfNums y509).size+x3_1.size≤9223372036854775807)=true:=decide_eq_true c4
      try have c4b2:(9223372036854775807 < (strOfNums y509).size+x3_1.size)=False:=eq_false (Nat.not_lt.2 c4)
      have H':=Aside0.mk H
      clear H
      go_wp2_with (first|((with_reducible refine gate_dst (N:=12) rfl ?_);refine Kd.R_lit (Kd.int .u8) _ 5 ?hg (N:=12) ?hd (xs:=([(wrap64 (48+(Int.tmod x0_1 10))) % 256]:List Int)) (inner:=[.int .u8 ((wrap64 (48+(Int.tmod x0_1 10))) % 256)]) (ok:=fun _=>True) (okp:=fun _=>True) ?hr ?hp (fun _ hk=>hk) trivial (Below.refl _ _) (Nat.le_refl _) (by simp) ?_;(case hd=>rfl);(case hg=>rfl);(case hr=>first|(go_simp;done)|(go_simp;rfl));(case hp=>exact (Reps.one (show Kd.M (Kd.int .u8) _ _ _ ((wrap64 (48+(Int.tmod x0_1 10))) % 256) [.int .u8 ((wrap64 (48+(Int.tmod x0_1 10))) % 256)] from rfl) (Reps.none _ _)));intro v510 w5 ho6 hb hg_ hnew_;clear hg_ hnew_;(first|rw [← Ny509.out] at ho6|(simp only [Int.reduceToNat] at ho6;rw [← Ny509.out] at ho6));have HO511:=Aside0.mk (Kd.R_lower ho6 (below_size bH));replace HB:=Aside0.mk (below_step bH hb);clear hb ho6;have hcv7:=own_string (P:=Try.prog) Try.underlying44 Try.underlying5 Try.underlying9 (Kd.own_of_R HO511.out)))
      go_roundg k1
      case measure=>have:=HK1.out;omega
      case rel=>exact ⟨(wrap64 (Int.tdiv x0_1 10)),((strOfNums y509)++x3_1),fS,fS,H',⟨by have:=HK1.out;omega⟩,⟨bH⟩⟩
     ·rw [if_neg c4] at H
      exact absurd H (by simp)
    ·rw [if_neg c3] at H
     have c3b0:decide (0 < x0_1)=false:=decide_eq_false c3
     clear c3
     by_cases c8:1+x3_1.size≤9223372036854775807
     ·rw [if_pos c8] at H
      have c8b0:=eq_true c8
      have c8b1:decide (1+x3_1.size≤9223372036854775807)=true:=decide_eq_true c8
      try have c8b2:(9223372036854775807 < 1+x3_1.size)=False:=eq_false (Nat.not_lt.2 c8)
      obtain rfl:=sI H
      go_wp2
      go_ret
      exact ⟨fE,bH⟩
     ·rw [if_neg c8] at H
      exact absurd H (by simp)
def laws_markChunkS.l0:Nat→List (S83)→Int→Int→Option (Int×(List (S83)))
 | 0,_,_,_=>none
 | k+1,x0,x1,x5=>if x5 < (x0.length:Int) then ((laws_markText.f k x1).bind fun t512=>(if 0≤x5 then ((some (x0.set (x5:Int).toNat (⟨t512,(rd_T83 x0 x5).f1⟩:S83):List (S83))).bind fun y513=>((laws_markText.f k (wrap64 (x1+1))).bind fun t514=>(laws_markChunkS.l0 k (y513.set (x5:Int).toNat (⟨(rd_T83 y513 x5).f0,t514⟩:S83)) (wrap64 ((wrap64 (x1+1))+1)) (wrap64 (x5+1))))) else (none))) else (some (x1,x0))
def laws_markChunkS.f (k:Nat) (l0:List (S83)) (a1:Int):Option (Int×(List (S83))):=laws_markChunkS.l0 k l0 a1 0
theorem laws_markChunkS.mono_l:∀ k,(∀ y0 y1 y2,LeO (laws_markChunkS.l0 k y0 y1 y2) (laws_markChunkS.l0 (k+1) y0 y1 y2))
 | 0=>fun _ _ _ r h=>by simp [laws_markChunkS.l0] at h
 | k+1=>by
  have ih0:=laws_markChunkS.mono_l k
  ·intro y0 y1 y2
   unfold laws_markChunkS.l0
   repeat' first
   | (with_reducible exact ih0 _ _ _)
   | (with_reducible exact laws_markText.mono _ _)
   | (with_reducible exact LeO.refl _)
   | (with_reducible exact LeO.none _)
   | (with_reducible refine LeO.ite ?_ ?_)
   | (with_reducible refine LeO.bind ?_ (fun _=>?_))
   | exact ih0 _ _ _
   | exact laws_markText.mono _ _
   | exact LeO.none _
   | refine LeO.ite ?_ ?_
   | refine LeO.bind ?_ (fun _=>?_)
theorem laws_markChunkS.mono:∀ a0 a1 k,LeO (laws_markChunkS.f k a0 a1) (laws_markChunkS.f (k+1) a0 a1):=by
 intro a0 a1 k
 have ih0:=laws_markChunkS.mono_l k
 unfold laws_markChunkS.f
 repeat' first
   | (with_reducible exact ih0 _ _ _)
   | (with_reducible exact laws_markText.mono _ _)
   | (with_reducible exact LeO.refl _)
   | (with_reducible exact LeO.none _)
   | (with_reducible refine LeO.ite ?_ ?_)
   | (with_reducible refine LeO.bind ?_ (fun _=>?_))
   | exact ih0 _ _ _
   | exact laws_markText.mono _ _
   | exact LeO.none _
   | refine LeO.ite ?_ ?_
   | refine LeO.bind ?_ (fun _=>?_)
theorem laws_markChunkS.calls (k:Nat) (P0_:Nat→Prop) (u9000_:Value) (l0:List (S83)) (a1:Int) (r1:Int) (r2:List (S83)) (w0 w:World) (hB:Below w0.heap.size w0 w) (ho0:Kd.R k83 83 w w0.heap.size P0_ u9000_ l0) (h:laws_markChunkS.f k l0 a1=some (r1,r2)):
  Calls Try.prog 55 #[u9000_,.int .i64 a1] w fun e w'=>e=.returned (.int .i64 r1)∧Kd.R k83 83 w' w0.heap.size (fun k_=>(P0_ k_∨w.heap.size≤k_)) u9000_ r2∧Below w0.heap.size w0 w'∧Kept w w' (fun k_=>P0_ k_):=by
 have HO0:=Aside0.mk (show Kd.R k83 83 w w0.heap.size (fun k_=>(P0_ k_∨w.heap.size≤k_)) u9000_ l0 from Kd.R_mono ho0 (fun k_ hk=>(.inl hk)))
 have HK:=Aside0.mk (Kept.refl w (fun k_=>P0_ k_))
 have HW0:=Aside0.mk hB.size
 have HB:=Aside0.mk hB
 clear hB
 have H:(laws_markChunkS.l0 k l0 a1 0)=some (r1,r2):=h
 clear h
 have H':=Aside0.mk H
 clear H
 go_enter Try.func55,Try.ntmps55
 go_wp2
 go_loopg [1,5] k (fun kq v1 v5 w'=>∃ (x0_1:List (S83)) (x1_1:Int) (x5_1:Int),v1=.int .i64 x1_1∧v5=.int .i64 x5_1∧Aside0 (laws_markChunkS.l0 kq x0_1 x1_1 x5_1=some (r1,r2))∧Aside0 (kq≤k)∧Aside0 (Kd.R k83 83 w' w0.heap.size (fun k_=>(P0_ k_∨w.heap.size≤k_)) u9000_ x0_1)∧Aside0 (Kept w w' (fun k_=>P0_ k_))∧Aside0 (Below w0.heap.size w0 w'))
 case atStart=>exact ⟨(l0),(a1),(0),fS,fS,H',⟨Nat.le_refl _⟩,⟨rS HO0⟩,⟨by repeat (first|(with_reducible first|exact HK.out|apply Kept.alloc|apply Kept.drewN|apply Kept.drew)|exact HK.out)⟩,⟨bH⟩⟩
 case round =>
  clear H'
  try clear p2
  obtain ⟨x0_1,x1_1,x5_1,rfl,rfl,HA,HK1,HO_0,HK,HB⟩:=hrel
  cases gk with
  | zero=>exact absurd HA.out (by simp [laws_markChunkS.l0])
  | succ k1 =>
   have H:=HA.out
   clear HA
   simp only [laws_markChunkS.l0] at H
   by_cases c3:x5_1 < (x0_1.length:Int)
   ·rw [if_pos c3] at H
    have c3b0:decide (x5_1 < (x0_1.length:Int))=true:=decide_eq_true c3
    clear c3
    replace H:=Option.bind_eq_some_iff.mp H
    obtain ⟨t512,A40,H⟩:=H
    replace H:(if 0≤x5_1 then ((some (x0_1.set (x5_1:Int).toNat (⟨t512,(rd_T83 x0_1 x5_1).f1⟩:S83):List (S83))).bind fun y513=>((laws_markText.f k1 (wrap64 (x1_1+1))).bind fun t514=>(laws_markChunkS.l0 k1 (y513.set (x5_1:Int).toNat (⟨(rd_T83 y513 x5_1).f0,t514⟩:S83)) (wrap64 ((wrap64 (x1_1+1))+1)) (wrap64 (x5_1+1))))) else (none))=some (r1,r2):=H
    have A4:=Aside0.mk A40
    clear A40
    by_cases c5:0≤x5_1
    ·rw [if_pos c5] at H
     have c5b0:decide (0≤x5_1)=true:=decide_eq_true c5
     clear c5
     obtain ⟨y513,hy513⟩:∃ y_:List (S83),y_=(x0_1.set (x5_1:Int).toNat (⟨t512,(rd_T83 x0_1 x5_1).f1⟩:S83)):=⟨_,rfl⟩
     replace H:((laws_markText.f k1 (wrap64 (x1_1+1))).bind fun t514=>(laws_markChunkS.l0 k1 (y513.set (x5_1:Int).toNat (⟨(rd_T83 y513 x5_1).f0,t514⟩:S83)) (wrap64 ((wrap64 (x1_1+1))+1)) (wrap64 (x5_1+1))))=some (r1,r2):=by first|(rw [hy513];with_reducible exact H)|(have H2_:=(Option.bind_some _ _).symm.trans H;rw [hy513];with_reducible exact H2_)|(have H2_:=(Option.bind_some _ _).symm.trans H;with_reducible exact H2_)|with_reducible exact H|(rw [hy513];exact H)|exact H
     have Ny513:=Aside0.mk hy513
     clear hy513
     replace H:=Option.bind_eq_some_iff.mp H
     obtain ⟨t514,A70,H⟩:=H
     replace H:(laws_markChunkS.l0 k1 (y513.set (x5_1:Int).toNat (⟨(rd_T83 y513 x5_1).f0,t514⟩:S83)) (wrap64 ((wrap64 (x1_1+1))+1)) (wrap64 (x5_1+1)))=some (r1,r2):=H
     have A7:=Aside0.mk A70
     clear A70
     obtain ⟨y515,hy515⟩:∃ y_:List (S83),y_=(y513.set (x5_1:Int).toNat (⟨(rd_T83 y513 x5_1).f0,t514⟩:S83)):=⟨_,rfl⟩
     replace H:(laws_markChunkS.l0 k1 y515 (wrap64 ((wrap64 (x1_1+1))+1)) (wrap64 (x5_1+1)))=some (r1,r2):=by first|(rw [hy515];with_reducible exact H)|(have H2_:=(Option.bind_some _ _).symm.trans H;rw [hy515];with_reducible exact H2_)|(have H2_:=(Option.bind_some _ _).symm.trans H;with_reducible exact H2_)|with_reducible exact H|(rw [hy515];exact H)|exact H
     have Ny515:=Aside0.mk hy515
     clear hy515
     have H':=Aside0.mk H
     clear H
     obtain ⟨Ao9,co9,eo9⟩:=Kd.R_slice HO_0.out
     subst eo9
     go_wp2_with (first|((with_reducible refine gate_callee (f:=94) rfl ?_);refine gL (some 15) Try.func94 #[.int .i64 x1_1] ?_;(with_reducible refine (laws_markText.calls k1 x1_1 t512 _ A4.out).mono ?_);rintro e w10 ⟨rfl,hb⟩;refine ⟨_,rfl,?_⟩;replace HO_0:=Aside0.mk (Kd.R_below (rS HO_0) hb);replace HK:=Aside0.mk (Kept.below (S:=(fun k_=>P0_ k_)) (by repeat (first|(with_reducible first|exact HK.out|apply Kept.alloc|apply Kept.drewN|apply Kept.drew)|exact HK.out)) hb);replace HB:=Aside0.mk (below_step bH hb);(try clear hb);have p6:0≤(x5_1:Int):=oD;have q6:(x5_1:Int) < ((x0_1.length:Int):Int):=oD;obtain ⟨go6,co6,eo6,gb6,gl6,cl6,HG6⟩:=Kd.R_form HO_0.out (by omega);(first|cases eo6|(injection eo6 with ea_ en_ ec_;(first|subst ea_|(injection ea_ with ea_;subst ea_));subst ec_;clear en_));have GB6:=Aside0.mk gb6;have GG6:=Aside0.mk HG6;clear gb6 gl6 HG6;have HMgo6:=Aside0.mk (show (P0_ go6∨w.heap.size≤go6) from (HO_0.out.1 _ rfl));obtain ⟨ce6,hcl6,hM6,hcc6,hfr6⟩:=Kd.R_elem HO_0.out z83 (x5_1:Int) p6 q6;obtain rfl:=k83_openM hM6;have hx6_0:w10.cell? ⟨go6,(x5_1:Int).toNat * 2,none⟩=some (.string ((rd_T83 x0_1 x5_1).f0)):=hcc6 0 _ rfl;have hx6_1:w10.cell? ⟨go6,(x5_1:Int).toNat * 2+1,none⟩=some (.string ((rd_T83 x0_1 x5_1).f1)):=hcc6 1 _ rfl;have hf6_0:w10.frozen? ⟨go6,(x5_1:Int).toNat * 2,none⟩=false:=hfr6 0;have hf6_1:w10.frozen? ⟨go6,(x5_1:Int).toNat * 2+1,none⟩=false:=hfr6 1;clear hcl6 hcc6 hfr6 hM6;replace p6:=eq_true p6;replace q6:=eq_true q6;have HX11:=Aside0.mk (show Kd.R k83 83 w10 w0.heap.size (fun k_=>(P0_ k_∨w.heap.size≤k_)) (.slice (some ⟨go6,0,none⟩) x0_1.length co9) x0_1 from (rS HO_0));obtain ⟨ce11,hcl11,hM11,hcc11,hfr11⟩:=Kd.R_elem HX11.out z83 (x5_1:Int) (oD) (by have h_:(x5_1:Int) < ((x0_1.length:Int):Int):=oD;first|exact h_|(have e_:=(Kd.R_reads' HO_0.out).1;omega)|simpa using h_);obtain rfl:=k83_openM hM11;have HP11:=Kd.R_seg HX11.out (x5_1:Int) (oD) (by have h_:(x5_1:Int) < ((x0_1.length:Int):Int):=oD;first|exact h_|(have e_:=(Kd.R_reads' HO_0.out).1;omega)|simpa using h_) (seg:=[.string t512]) (j:=0) hcl11 hcc11 (show 1≤2 from by decide) (x':=(⟨t512,(rd_T83 x0_1 x5_1).f1⟩:S83)) (k83_mkM _ _ _ (⟨t512,(rd_T83 x0_1 x5_1).f1⟩:S83) ) (fun _ hk=>hk);have hx11_0:=hcc11 0 _ rfl;(try simp only [show (k83).sz=2 from rfl,Nat.mul_one,Nat.add_zero] at hx11_0);have hf11_0:=hfr11 0;(try simp only [show (k83).sz=2 from rfl,Nat.mul_one,Nat.add_zero] at hf11_0);clear hcl11 hcc11 hfr11 hM11)|((with_reducible refine gate_store (t:=9) (p:=17) rfl ?_);refine store_event (t:=9) (p:=17) (v:=?vo_w12) (w1:=(w10.setCell ⟨go6,(x5_1:Int).toNat * 2,none⟩ (.string t512))) ?hg ?ho ?hn ?hr ?_;(case ho=>rfl);(case hg=>rfl);(case hn=>rfl);(case hr=>first|(go_simp;done)|(go_simp;rfl));intro w12 hw;have hg:w10.grownBy w12 (some go6):=(by rw [hw];exact HP11.2);have hp_:Kd.R k83 83 w12 w0.heap.size (fun k_=>(P0_ k_∨w.heap.size≤k_)) (.slice (some ⟨go6,0,none⟩) x0_1.length co9) y513:=(by rw [hw,Ny513.out];exact HP11.1);clear HP11;have n0_:=Aside0.mk hp_;have n1_:=Aside0.mk ((by rw [hw];exact below_set (HB.out) GB6.out:Below w0.heap.size w0 w12));have n2_:=Aside0.mk (Kept.of_grown (S:=(fun k_=>P0_ k_)) hg (by repeat (first|(with_reducible first|exact HK.out|apply Kept.alloc|apply Kept.drewN|apply Kept.drew)|exact HK.out)) (fun k_ e_=>(HO_0.out.1 k_ e_)));clear HO_0;clear HB;clear HK;have HO_0:=n0_;have HB:=n1_;have HK:=n2_;clear n0_ n1_ n2_;clear hg hw hp_)|((with_reducible refine gate_callee (f:=94) rfl ?_);refine gL (some 23) Try.func94 #[.int .i64 (wrap64 (x1_1+1))] ?_;(with_reducible refine (laws_markText.calls k1 (wrap64 (x1_1+1)) t514 _ A7.out).mono ?_);rintro e w13 ⟨rfl,hb⟩;refine ⟨_,rfl,?_⟩;replace HO_0:=Aside0.mk (Kd.R_below (rS HO_0) hb);replace HK:=Aside0.mk (Kept.below (S:=(fun k_=>P0_ k_)) (by repeat (first|(with_reducible first|exact HK.out|apply Kept.alloc|apply Kept.drewN|apply Kept.drew)|exact HK.out)) hb);replace HB:=Aside0.mk (below_step bH hb);(try clear hb);have p8:0≤(x5_1:Int):=oD;have q8:(x5_1:Int) < ((x0_1.length:Int):Int):=oD;obtain ⟨ce8,hcl8,hM8,hcc8,hfr8⟩:=Kd.R_elem HO_0.out z83 (x5_1:Int) p8 q8;obtain rfl:=k83_openM hM8;have hx8_0:w13.cell? ⟨go6,(x5_1:Int).toNat * 2,none⟩=some (.string ((rd_T83 y513 x5_1).f0)):=hcc8 0 _ rfl;have hx8_1:w13.cell? ⟨go6,(x5_1:Int).toNat * 2+1,none⟩=some (.string ((rd_T83 y513 x5_1).f1)):=hcc8 1 _ rfl;have hf8_0:w13.frozen? ⟨go6,(x5_1:Int).toNat * 2,none⟩=false:=hfr8 0;have hf8_1:w13.frozen? ⟨go6,(x5_1:Int).toNat * 2+1,none⟩=false:=hfr8 1;clear hcl8 hcc8 hfr8 hM8;replace p8:=eq_true p8;replace q8:=eq_true q8;have HX14:=Aside0.mk (show Kd.R k83 83 w13 w0.heap.size (fun k_=>(P0_ k_∨w.heap.size≤k_)) (.slice (some ⟨go6,0,none⟩) x0_1.length co9) y513 from (rS HO_0));obtain ⟨ce14,hcl14,hM14,hcc14,hfr14⟩:=Kd.R_elem HX14.out z83 (x5_1:Int) (oD) (by have h_:(x5_1:Int) < ((x0_1.length:Int):Int):=oD;first|exact h_|(have e_:=(Kd.R_reads' HO_0.out).1;omega)|simpa using h_);obtain rfl:=k83_openM hM14;have HP14:=Kd.R_seg HX14.out (x5_1:Int) (oD) (by have h_:(x5_1:Int) < ((x0_1.length:Int):Int):=oD;first|exact h_|(have e_:=(Kd.R_reads' HO_0.out).1;omega)|simpa using h_) (seg:=[.string t514]) (j:=1) hcl14 hcc14 (show 2≤2 from by decide) (x':=(⟨(rd_T83 y513 x5_1).f0,t514⟩:S83)) (k83_mkM _ _ _ (⟨(rd_T83 y513 x5_1).f0,t514⟩:S83) ) (fun _ hk=>hk);have hx14_1:=hcc14 1 _ rfl;(try simp only [show (k83).sz=2 from rfl,Nat.mul_one,Nat.add_zero] at hx14_1);have hf14_1:=hfr14 1;(try simp only [show (k83).sz=2 from rfl,Nat.mul_one,Nat.add_zero] at hf14_1);clear hcl14 hcc14 hfr14 hM14)|((with_reducible refine gate_store (t:=9) (p:=25) rfl ?_);refine store_event (t:=9) (p:=25) (v:=?vo_w15) (w1:=(w13.setCell ⟨go6,(x5_1:Int).toNat * 2+1,none⟩ (.string t514))) ?hg ?ho ?hn ?hr ?_;(case ho=>rfl);(case hg=>rfl);(case hn=>rfl);(case hr=>first|(go_simp;done)|(go_simp;rfl));intro w15 hw;have hg:w13.grownBy w15 (some go6):=(by rw [hw];exact HP14.2);have hp_:Kd.R k83 83 w15 w0.heap.size (fun k_=>(P0_ k_∨w.heap.size≤k_)) (.slice (some ⟨go6,0,none⟩) x0_1.length co9) y515:=(by rw [hw,Ny515.out];exact HP14.1);clear HP14;have n0_:=Aside0.mk hp_;have n1_:=Aside0.mk ((by rw [hw];exact below_set (HB.out) GB6.out:Below w0.heap.size w0 w15));have n2_:=Aside0.mk (Kept.of_grown (S:=(fun k_=>P0_ k_)) hg (by repeat (first|(with_reducible first|exact HK.out|apply Kept.alloc|apply Kept.drewN|apply Kept.drew)|exact HK.out)) (fun k_ e_=>(HO_0.out.1 k_ e_)));clear HO_0;clear HB;clear HK;have HO_0:=n0_;have HB:=n1_;have HK:=n2_;clear n0_ n1_ n2_;clear hg hw hp_))
     go_roundg k1
     case measure=>have:=HK1.out;omega
     case rel=>exact ⟨(y515),(wrap64 ((wrap64 (x1_1+1))+1)),(wrap64 (x5_1+1)),fS,fS,H',⟨by have:=HK1.out;omega⟩,⟨rS HO_0⟩,⟨by repeat (first|(with_reducible first|exact HK.out|apply Kept.alloc|apply Kept.drewN|apply Kept.drew)|exact HK.out)⟩,⟨bH⟩⟩
    ·rw [if_neg c5] at H
     exact absurd H (by simp)
   ·rw [if_neg c3] at H
    have c3b0:decide (x5_1 < (x0_1.length:Int))=false:=decide_eq_false c3
    clear c3
    simp only [Option.some.injEq,Prod.mk.injEq] at H
    obtain ⟨rfl,rfl⟩:=H
    obtain ⟨Ao16,co16,eo16⟩:=Kd.R_slice HO_0.out
    subst eo16
    go_wp2
    go_ret
    exact ⟨fE,rS HO_0,bH,by repeat (first|(with_reducible first|exact HK.out|apply Kept.alloc|apply Kept.drewN|apply Kept.drew)|exact HK.out)⟩
def laws_markPng.f (k:Nat) (a0_0:Int) (a0_1:Int) (a0_2:Int) (a0_3:Int) (a0_4:Bool) (l0_5:List (S95)) (l0_6:List Int) (a0_7:Int) (a0_8:Int) (a0_9:Int) (a0_10:Int) (l0_11:List Int) (l0_12:List (S83)) (a1:Int):Option (Int×(List (S95))×List Int×List Int×(List (S83))):=(laws_markRgbS.f k l0_5 a1).bind fun bt517=>((laws_markIntS.f k l0_6 bt517.1).bind fun bt519=>((laws_markRaster.f k a0_7 a0_8 a0_9 a0_10 l0_11 bt519.1).bind fun bt521=>((laws_markChunkS.f k l0_12 bt521.1).bind fun bt523=>(some (bt523.1,bt517.2,bt519.2,bt521.2,bt523.2)))))
theorem laws_markPng.mono:∀ a0 a1 a2 a3 a4 a5 a6 a7 a8 a9 a10 a11 a12 a13 k,LeO (laws_markPng.f k a0 a1 a2 a3 a4 a5 a6 a7 a8 a9 a10 a11 a12 a13) (laws_markPng.f (k+1) a0 a1 a2 a3 a4 a5 a6 a7 a8 a9 a10 a11 a12 a13):=by
 intro a0 a1 a2 a3 a4 a5 a6 a7 a8 a9 a10 a11 a12 a13 k
 unfold laws_markPng.f
 repeat' first
   | (with_reducible exact laws_markChunkS.mono _ _ _)
   | (with_reducible exact laws_markIntS.mono _ _ _)
   | (with_reducible exact laws_markRaster.mono _ _ _ _ _ _ _)
   | (with_reducible exact laws_markRgbS.mono _ _ _)
   | (with_reducible exact LeO.refl _)
   | (with_reducible exact LeO.none _)
   | (with_reducible refine LeO.ite ?_ ?_)
   | (with_reducible refine LeO.bind ?_ (fun _=>?_))
   | exact laws_markChunkS.mono _ _ _
   | exact laws_markIntS.mono _ _ _
   | exact laws_markRaster.mono _ _ _ _ _ _ _
   | exact laws_markRgbS.mono _ _ _
   | exact LeO.none _
   | refine LeO.ite ?_ ?_
   | refine LeO.bind ?_ (fun _=>?_)
theorem laws_markPng.calls (k:Nat) (a0_0:Int) (a0_1:Int) (a0_2:Int) (a0_3:Int) (a0_4:Bool) (P0_5_:Nat→Prop) (u9000_:Value) (l0_5:List (S95)) (P0_6_:Nat→Prop) (u9001_:Value) (l0_6:List Int) (a0_7:Int) (a0_8:Int) (a0_9:Int) (a0_10:Int) (P0_11_:Nat→Prop) (u9002_:Value) (l0_11:List Int) (P0_12_:Nat→Prop) (u9003_:Value) (l0_12:List (S83)) (a1:Int) (r1:Int) (r2:List (S95)) (r3:List Int) (r4:List Int) (r5:List (S83)) (w0 w:World) (hB:Below w0.heap.size w0 w) (ho0_5:Kd.R k95 95 w w0.heap.size P0_5_ u9000_ l0_5) (ho0_6:Kd.R (Kd.int .i64) 3 w w0.heap.size P0_6_ u9001_ l0_6) (hp0_6_0_11:∀ k_,P0_6_ k_→¬ P0_11_ k_) (ho0_11:Kd.R (Kd.int .i64) 3 w w0.heap.size P0_11_ u9002_ l0_11) (hp0_11_0_6:∀ k_,P0_11_ k_→¬ P0_6_ k_) (ho0_12:Kd.R k83 83 w w0.heap.size P0_12_ u9003_ l0_12) (h:laws_markPng.f k a0_0 a0_1 a0_2 a0_3 a0_4 l0_5 l0_6 a0_7 a0_8 a0_9 a0_10 l0_11 l0_12 a1=some (r1,r2,r3,r4,r5)):
  Calls Try.prog 14 #[.agg #[.int .i64 a0_0,.int .i64 a0_1,.int .i64 a0_2,.int .i64 a0_3,.bool a0_4,u9000_,u9001_,.int .i64 a0_7,.int .i64 a0_8,.int .i64 a0_9,.int .i64 a0_10,u9002_,u9003_],.int .i64 a1] w fun e w'=>e=.returned (.int .i64 r1)∧Kd.R k95 95 w' w0.heap.size (fun k_=>((P0_5_ k_∨P0_6_ k_∨P0_11_ k_∨P0_12_ k_)∨w.heap.size≤k_)) u9000_ r2∧Kd.R (Kd.int .i64) 3 w' w0.heap.size (fun k_=>((P0_5_ k_∨P0_6_ k_∨P0_11_ k_∨P0_12_ k_)∨w.heap.size≤k_)) u9001_ r3∧Kd.R (Kd.int .i64) 3 w' w0.heap.size (fun k_=>((P0_5_ k_∨P0_6_ k_∨P0_11_ k_∨P0_12_ k_)∨w.heap.size≤k_)) u9002_ r4∧Kd.R k83 83 w' w0.heap.size (fun k_=>((P0_5_ k_∨P0_6_ k_∨P0_11_ k_∨P0_12_ k_)∨w.heap.size≤k_)) u9003_ r5∧Below w0.heap.size w0 w'∧Kept w w' (fun k_=>P0_5_ k_∨P0_6_ k_∨P0_11_ k_∨P0_12_ k_):=by
 have hu37:=Try.underlying37
 have hu34:=Try.underlying34
 have HO0_5:=Aside0.mk (show Kd.R k95 95 w w0.heap.size (fun k_=>((P0_5_ k_∨P0_6_ k_∨P0_11_ k_∨P0_12_ k_)∨w.heap.size≤k_)) u9000_ l0_5 from Kd.R_mono ho0_5 (fun k_ hk=>(.inl (.inl hk))))
 have HO0_6:=Aside0.mk (show Kd.R (Kd.int .i64) 3 w w0.heap.size (fun k_=>((P0_5_ k_∨P0_6_ k_∨P0_11_ k_∨P0_12_ k_)∨w.heap.size≤k_)∧some k_≠(u9002_:Value).ownBlock) u9001_ l0_6 from Kd.R_mono ho0_6 (fun k_ hk=>⟨(.inl (.inr (.inl hk))),fun e_=>hp0_6_0_11 k_ hk (ho0_11.1 k_ e_.symm)⟩))
 have HO0_11:=Aside0.mk (show Kd.R (Kd.int .i64) 3 w w0.heap.size (fun k_=>((P0_5_ k_∨P0_6_ k_∨P0_11_ k_∨P0_12_ k_)∨w.heap.size≤k_)∧some k_≠(u9001_:Value).ownBlock) u9002_ l0_11 from Kd.R_mono ho0_11 (fun k_ hk=>⟨(.inl (.inr (.inr (.inl hk)))),fun e_=>hp0_11_0_6 k_ hk (ho0_6.1 k_ e_.symm)⟩))
 have HO0_12:=Aside0.mk (show Kd.R k83 83 w w0.heap.size (fun k_=>((P0_5_ k_∨P0_6_ k_∨P0_11_ k_∨P0_12_ k_)∨w.heap.size≤k_)) u9003_ l0_12 from Kd.R_mono ho0_12 (fun k_ hk=>(.inl (.inr (.inr (.inr hk))))))
 have HK:=Aside0.mk (Kept.refl w (fun k_=>P0_5_ k_∨P0_6_ k_∨P0_11_ k_∨P0_12_ k_))
 have HW0:=Aside0.mk hB.size
 have HB:=Aside0.mk hB
 clear hB
 have H:((laws_markRgbS.f k l0_5 a1).bind fun bt517=>((laws_markIntS.f k l0_6 bt517.1).bind fun bt519=>((laws_markRaster.f k a0_7 a0_8 a0_9 a0_10 l0_11 bt519.1).bind fun bt521=>((laws_markChunkS.f k l0_12 bt521.1).bind fun bt523=>(some (bt523.1,bt517.2,bt519.2,bt521.2,bt523.2))))))=some (r1,r2,r3,r4,r5):=h
 clear h
 replace H:=Option.bind_eq_some_iff.mp H
 obtain ⟨⟨t517,t518⟩,A30,H⟩:=H
 replace H:((laws_markIntS.f k l0_6 t517).bind fun bt519=>((laws_markRaster.f k a0_7 a0_8 a0_9 a0_10 l0_11 bt519.1).bind fun bt521=>((laws_markChunkS.f k l0_12 bt521.1).bind fun bt523=>(some (bt523.1,t518,bt519.2,bt521.2,bt523.2)))))=some (r1,r2,r3,r4,r5):=H
 have A3:=Aside0.mk A30
 clear A30
 replace H:=Option.bind_eq_some_iff.mp H
 obtain ⟨⟨t519,t520⟩,A40,H⟩:=H
 replace H:((laws_markRaster.f k a0_7 a0_8 a0_9 a0_10 l0_11 t519).bind fun bt521=>((laws_markChunkS.f k l0_12 bt521.1).bind fun bt523=>(some (bt523.1,t518,t520,bt521.2,bt523.2))))=some (r1,r2,r3,r4,r5):=H
 have A4:=Aside0.mk A40
 clear A40
 replace H:=Option.bind_eq_some_iff.mp H
 obtain ⟨⟨t521,t522⟩,A50,H⟩:=H
 replace H:((laws_markChunkS.f k l0_12 t521).bind fun bt523=>(some (bt523.1,t518,t520,t522,bt523.2)))=some (r1,r2,r3,r4,r5):=H
 have A5:=Aside0.mk A50
 clear A50
 replace H:=Option.bind_eq_some_iff.mp H
 obtain ⟨⟨t523,t524⟩,A60,H⟩:=H
 replace H:(some (t523,t518,t520,t522,t524))=some (r1,r2,r3,r4,r5):=H
 have A6:=Aside0.mk A60
 clear A60
 simp only [Option.some.injEq,Prod.mk.injEq] at H
 obtain ⟨rfl,rfl,rfl,rfl,rfl⟩:=H
 obtain ⟨Ao7,co7,eo7⟩:=Kd.R_slice HO0_5.out
 subst eo7
 obtain ⟨Ao8,co8,eo8⟩:=Kd.R_slice HO0_6.out
 subst eo8
 obtain ⟨Ao9,co9,eo9⟩:=Kd.R_slice HO0_11.out
 subst eo9
 obtain ⟨Ao10,co10,eo10⟩:=Kd.R_slice HO0_12.out
 subst eo10
 go_enter Try.func14,Try.ntmps14
 go_wp2_with (first|((with_reducible refine gate_dst (N:=2) rfl ?_);refine boxE 2 (#[.int .i64 a0_0,.int .i64 a0_1,.int .i64 a0_2,.int .i64 a0_3,.bool a0_4,.slice Ao7 l0_5.length co7,.slice Ao8 l0_6.length co8,.int .i64 a0_7,.int .i64 a0_8,.int .i64 a0_9,.int .i64 a0_10,.slice Ao9 l0_11.length co9,.slice Ao10 l0_12.length co10]) 37 ?_;intro gb516 hg w11 hbox hb;have n0_:=Aside0.mk (Kd.R_below (rS HO0_5) hb);have n1_:=Aside0.mk (Kd.R_below (rS HO0_6) hb);have n2_:=Aside0.mk (Kd.R_below (rS HO0_11) hb);have n3_:=Aside0.mk (Kd.R_below (rS HO0_12) hb);have n4_:=Aside0.mk (Kept.below (S:=(fun k_=>P0_5_ k_∨P0_6_ k_∨P0_11_ k_∨P0_12_ k_)) (by repeat (first|(with_reducible first|exact HK.out|apply Kept.alloc|apply Kept.drewN|apply Kept.drew)|exact HK.out)) hb);have n5_:=Aside0.mk (below_step bH hb);have n6_:=Aside0.mk hbox;have n7_:=Aside0.mk ((by rw [hg];exact (by first|exact HK.out.1|exact (show Kept w _ (fun k_=>P0_5_ k_∨P0_6_ k_∨P0_11_ k_∨P0_12_ k_) from by repeat (first|(with_reducible first|exact HK.out|apply Kept.alloc|apply Kept.drewN|apply Kept.drew)|exact HK.out)).1):w.heap.size≤gb516));have n8_:=(gwH (w:=w0) hg);clear HO0_5;clear HO0_6;clear HO0_11;clear HO0_12;clear HK;clear HB;have HO0_5:=n0_;have HO0_6:=n1_;have HO0_11:=n2_;have HO0_12:=n3_;have HK:=n4_;have HB:=n5_;have BK516:=n6_;have GW516:=n7_;have GE516:=n8_;clear n0_ n1_ n2_ n3_ n4_ n5_ n6_ n7_ n8_;clear hb hbox hg;obtain ⟨z12_0,z12_1,z12_2,z12_3,z12_4,z12_5,z12_6,z12_7,z12_8,z12_9,z12_10,z12_11,z12_12,y12_0,y12_1,y12_2,y12_3,y12_4,y12_5,y12_6,y12_7,y12_8,y12_9,y12_10,y12_11,y12_12⟩:=blk13f BK516)|((with_reducible refine gate_callee (f:=52) rfl ?_);refine gL (some 8) Try.func52 #[.slice Ao7 l0_5.length co7,.int .i64 a1] ?_;(with_reducible refine (laws_markRgbS.calls k (fun k_=>some k_=(.slice Ao7 l0_5.length co7:Value).ownBlock) (.slice Ao7 l0_5.length co7) l0_5 a1 t517 t518 w0 _ ?side1 ?side2 A3.out).mono ?_);(case side1=>repeat (first|(with_reducible first|exact HB.out|apply below_alloc|apply pw_below_drewN|apply below_drew1|refine below_set ?_ GE516.out)|exact HB.out));(case side2=>exact Kd.R_tight rfl HO0_5.out);rintro e w13 ⟨rfl,hy0,hb,hkp⟩;refine ⟨_,rfl,?_⟩;have n0_:=Aside0.mk (Kd.R_reok rfl hy0 (fun k_ e_=>HO0_5.out.1 k_ e_));have n1_:=Aside0.mk (Kd.R_mono (ok':=fun k_=>((P0_5_ k_∨P0_6_ k_∨P0_11_ k_∨P0_12_ k_)∨w.heap.size≤k_)∧some k_≠(.slice Ao9 l0_11.length co9:Value).ownBlock) (Kd.R_keptB ((Kd.R_apart' HO0_6.out (Kd.R_typed HO0_5.out) (by decide))) hkp (fun k_ hk_ hs_=>(hk_.2) hs_)) (fun k_ hk_=>⟨hk_.1.1.1,hk_.1.1.2⟩));have n2_:=Aside0.mk (Kd.R_mono (ok':=fun k_=>((P0_5_ k_∨P0_6_ k_∨P0_11_ k_∨P0_12_ k_)∨w.heap.size≤k_)∧some k_≠(.slice Ao8 l0_6.length co8:Value).ownBlock) (Kd.R_keptB ((Kd.R_apart' HO0_11.out (Kd.R_typed HO0_5.out) (by decide))) hkp (fun k_ hk_ hs_=>(hk_.2) hs_)) (fun k_ hk_=>⟨hk_.1.1.1,hk_.1.1.2⟩));have n3_:=Aside0.mk (Kd.R_mono (ok':=fun k_=>((P0_5_ k_∨P0_6_ k_∨P0_11_ k_∨P0_12_ k_)∨w.heap.size≤k_)) (Kd.R_keptB ((Kd.R_apart' HO0_12.out (Kd.R_typed HO0_5.out) (by decide))) hkp (fun k_ hk_ hs_=>(hk_.2) hs_)) (fun k_ hk_=>hk_.1.1));have n4_:=Aside0.mk (blk_kept (bk BK516) hkp (fun hs_=>(fun e_=>(Kd.R_ne HO0_5.out BK516.out (by decide)) e_) hs_));have n5_:=Aside0.mk (Kept.then_ (S:=(fun k_=>P0_5_ k_∨P0_6_ k_∨P0_11_ k_∨P0_12_ k_)) (by repeat (first|(with_reducible first|exact HK.out|apply Kept.alloc|apply Kept.drewN|apply Kept.drew|refine Kept.setCell ?_ (.inr GW516.out) _)|exact HK.out)) hkp (fun k_ hs_=>(fun e_=>(HO0_5.out.1 k_ e_.symm)) hs_));have n6_:=Aside0.mk hb;clear HO0_5;clear HO0_6;clear HO0_11;clear HO0_12;clear BK516;clear HK;clear HB;have HO0_5:=n0_;have HO0_6:=n1_;have HO0_11:=n2_;have HO0_12:=n3_;have BK516:=n4_;have HK:=n5_;have HB:=n6_;clear n0_ n1_ n2_ n3_ n4_ n5_ n6_;(try clear hb);(try clear hkp);(try clear hy0);obtain ⟨z14_0,z14_1,z14_2,z14_3,z14_4,z14_5,z14_6,z14_7,z14_8,z14_9,z14_10,z14_11,z14_12,y14_0,y14_1,y14_2,y14_3,y14_4,y14_5,y14_6,y14_7,y14_8,y14_9,y14_10,y14_11,y14_12⟩:=blk13f BK516)|((with_reducible refine gate_callee (f:=53) rfl ?_);refine gL (some 12) Try.func53 #[.slice Ao8 l0_6.length co8,.int .i64 t517] ?_;(with_reducible refine (laws_markIntS.calls k (fun k_=>some k_=(.slice Ao8 l0_6.length co8:Value).ownBlock) (.slice Ao8 l0_6.length co8) l0_6 t517 t519 t520 w0 _ ?side1 ?side2 A4.out).mono ?_);(case side1=>repeat (first|(with_reducible first|exact HB.out|apply below_alloc|apply pw_below_drewN|apply below_drew1|refine below_set ?_ GE516.out)|exact HB.out));(case side2=>exact Kd.R_tight rfl HO0_6.out);rintro e w15 ⟨rfl,hy0,hb,hkp⟩;refine ⟨_,rfl,?_⟩;have n0_:=Aside0.mk (Kd.R_mono (ok':=fun k_=>((P0_5_ k_∨P0_6_ k_∨P0_11_ k_∨P0_12_ k_)∨w.heap.size≤k_)) (Kd.R_keptB ((Kd.R_apart' HO0_5.out (Kd.R_typed HO0_6.out) (by decide))) hkp (fun k_ hk_ hs_=>(hk_.2) hs_)) (fun k_ hk_=>hk_.1.1));have n1_:=Aside0.mk (Kd.R_reok rfl hy0 (fun k_ e_=>HO0_6.out.1 k_ e_));have n2_:=Aside0.mk (Kd.R_mono (ok':=fun k_=>((P0_5_ k_∨P0_6_ k_∨P0_11_ k_∨P0_12_ k_)∨w.heap.size≤k_)∧some k_≠(.slice Ao8 l0_6.length co8:Value).ownBlock) (Kd.R_keptB (HO0_11.out) hkp (fun k_ hk_ hs_=>(hk_.2) hs_)) (fun k_ hk_=>⟨hk_.1.1,hk_.1.2⟩));have n3_:=Aside0.mk (Kd.R_mono (ok':=fun k_=>((P0_5_ k_∨P0_6_ k_∨P0_11_ k_∨P0_12_ k_)∨w.heap.size≤k_)) (Kd.R_keptB ((Kd.R_apart' HO0_12.out (Kd.R_typed HO0_6.out) (by decide))) hkp (fun k_ hk_ hs_=>(hk_.2) hs_)) (fun k_ hk_=>hk_.1.1));have n4_:=Aside0.mk (blk_kept (bk BK516) hkp (fun hs_=>(fun e_=>(Kd.R_ne HO0_6.out BK516.out (by decide)) e_) hs_));have n5_:=Aside0.mk (Kept.then_ (S:=(fun k_=>P0_5_ k_∨P0_6_ k_∨P0_11_ k_∨P0_12_ k_)) (by repeat (first|(with_reducible first|exact HK.out|apply Kept.alloc|apply Kept.drewN|apply Kept.drew|refine Kept.setCell ?_ (.inr GW516.out) _)|exact HK.out)) hkp (fun k_ hs_=>(fun e_=>(HO0_6.out.1 k_ e_.symm).1) hs_));have n6_:=Aside0.mk hb;clear HO0_5;clear HO0_6;clear HO0_11;clear HO0_12;clear BK516;clear HK;clear HB;have HO0_5:=n0_;have HO0_6:=n1_;have HO0_11:=n2_;have HO0_12:=n3_;have BK516:=n4_;have HK:=n5_;have HB:=n6_;clear n0_ n1_ n2_ n3_ n4_ n5_ n6_;(try clear hb);(try clear hkp);(try clear hy0);obtain ⟨z16_0,z16_1,z16_2,z16_3,z16_4,z16_5,z16_6,z16_7,z16_8,z16_9,z16_10,z16_11,z16_12,y16_0,y16_1,y16_2,y16_3,y16_4,y16_5,y16_6,y16_7,y16_8,y16_9,y16_10,y16_11,y16_12⟩:=blk13f BK516)|((with_reducible refine gate_callee (f:=54) rfl ?_);refine gL (some 16) Try.func54 #[.agg #[.int .i64 a0_7,.int .i64 a0_8,.int .i64 a0_9,.int .i64 a0_10,.slice Ao9 l0_11.length co9],.int .i64 t519] ?_;(with_reducible refine (laws_markRaster.calls k a0_7 a0_8 a0_9 a0_10 (fun k_=>some k_=(.slice Ao9 l0_11.length co9:Value).ownBlock) (.slice Ao9 l0_11.length co9) l0_11 t519 t521 t522 w0 _ ?side1 ?side2 A5.out).mono ?_);(case side1=>repeat (first|(with_reducible first|exact HB.out|apply below_alloc|apply pw_below_drewN|apply below_drew1|refine below_set ?_ GE516.out)|exact HB.out));(case side2=>exact Kd.R_tight rfl HO0_11.out);rintro e w17 ⟨rfl,hy0,hb,hkp⟩;refine ⟨_,rfl,?_⟩;have n0_:=Aside0.mk (Kd.R_mono (ok':=fun k_=>((P0_5_ k_∨P0_6_ k_∨P0_11_ k_∨P0_12_ k_)∨w.heap.size≤k_)) (Kd.R_keptB ((Kd.R_apart' HO0_5.out (Kd.R_typed HO0_11.out) (by decide))) hkp (fun k_ hk_ hs_=>(hk_.2) hs_)) (fun k_ hk_=>hk_.1.1));have n1_:=Aside0.mk (Kd.R_mono (ok':=fun k_=>((P0_5_ k_∨P0_6_ k_∨P0_11_ k_∨P0_12_ k_)∨w.heap.size≤k_)∧some k_≠(.slice Ao9 l0_11.length co9:Value).ownBlock) (Kd.R_keptB (HO0_6.out) hkp (fun k_ hk_ hs_=>(hk_.2) hs_)) (fun k_ hk_=>⟨hk_.1.1,hk_.1.2⟩));have n2_:=Aside0.mk (Kd.R_reok rfl hy0 (fun k_ e_=>HO0_11.out.1 k_ e_));have n3_:=Aside0.mk (Kd.R_mono (ok':=fun k_=>((P0_5_ k_∨P0_6_ k_∨P0_11_ k_∨P0_12_ k_)∨w.heap.size≤k_)) (Kd.R_keptB ((Kd.R_apart' HO0_12.out (Kd.R_typed HO0_11.out) (by decide))) hkp (fun k_ hk_ hs_=>(hk_.2) hs_)) (fun k_ hk_=>hk_.1.1));have n4_:=Aside0.mk (blk_kept (bk BK516) hkp (fun hs_=>(fun e_=>(Kd.R_ne HO0_11.out BK516.out (by decide)) e_) hs_));have n5_:=Aside0.mk (Kept.then_ (S:=(fun k_=>P0_5_ k_∨P0_6_ k_∨P0_11_ k_∨P0_12_ k_)) (by repeat (first|(with_reducible first|exact HK.out|apply Kept.alloc|apply Kept.drewN|apply Kept.drew|refine Kept.setCell ?_ (.inr GW516.out) _)|exact HK.out)) hkp (fun k_ hs_=>(fun e_=>(HO0_11.out.1 k_ e_.symm).1) hs_));have n6_:=Aside0.mk hb;clear HO0_5;clear HO0_6;clear HO0_11;clear HO0_12;clear BK516;clear HK;clear HB;have HO0_5:=n0_;have HO0_6:=n1_;have HO0_11:=n2_;have HO0_12:=n3_;have BK516:=n4_;have HK:=n5_;have HB:=n6_;clear n0_ n1_ n2_ n3_ n4_ n5_ n6_;(try clear hb);(try clear hkp);(try clear hy0);obtain ⟨z18_0,z18_1,z18_2,z18_3,z18_4,z18_5,z18_6,z18_7,z18_8,z18_9,z18_10,z18_11,z18_12,y18_0,y18_1,y18_2,y18_3,y18_4,y18_5,y18_6,y18_7,y18_8,y18_9,y18_10,y18_11,y18_12⟩:=blk13f BK516)|((with_reducible refine gate_callee (f:=55) rfl ?_);refine gL (some 20) Try.func55 #[.slice Ao10 l0_12.length co10,.int .i64 t521] ?_;(with_reducible refine (laws_markChunkS.calls k (fun k_=>some k_=(.slice Ao10 l0_12.length co10:Value).ownBlock) (.slice Ao10 l0_12.length co10) l0_12 t521 t523 t524 w0 _ ?side1 ?side2 A6.out).mono ?_);(case side1=>repeat (first|(with_reducible first|exact HB.out|apply below_alloc|apply pw_below_drewN|apply below_drew1|refine below_set ?_ GE516.out)|exact HB.out));(case side2=>exact Kd.R_tight rfl HO0_12.out);rintro e w19 ⟨rfl,hy0,hb,hkp⟩;refine ⟨_,rfl,?_⟩;have n0_:=Aside0.mk (Kd.R_mono (ok':=fun k_=>((P0_5_ k_∨P0_6_ k_∨P0_11_ k_∨P0_12_ k_)∨w.heap.size≤k_)) (Kd.R_keptB ((Kd.R_apart' HO0_5.out (Kd.R_typed HO0_12.out) (by decide))) hkp (fun k_ hk_ hs_=>(hk_.2) hs_)) (fun k_ hk_=>hk_.1.1));have n1_:=Aside0.mk (Kd.R_mono (ok':=fun k_=>((P0_5_ k_∨P0_6_ k_∨P0_11_ k_∨P0_12_ k_)∨w.heap.size≤k_)∧some k_≠(.slice Ao9 l0_11.length co9:Value).ownBlock) (Kd.R_keptB ((Kd.R_apart' HO0_6.out (Kd.R_typed HO0_12.out) (by decide))) hkp (fun k_ hk_ hs_=>(hk_.2) hs_)) (fun k_ hk_=>⟨hk_.1.1.1,hk_.1.1.2⟩));have n2_:=Aside0.mk (Kd.R_mono (ok':=fun k_=>((P0_5_ k_∨P0_6_ k_∨P0_11_ k_∨P0_12_ k_)∨w.heap.size≤k_)∧some k_≠(.slice Ao8 l0_6.length co8:Value).ownBlock) (Kd.R_keptB ((Kd.R_apart' HO0_11.out (Kd.R_typed HO0_12.out) (by decide))) hkp (fun k_ hk_ hs_=>(hk_.2) hs_)) (fun k_ hk_=>⟨hk_.1.1.1,hk_.1.1.2⟩));have n3_:=Aside0.mk (Kd.R_reok rfl hy0 (fun k_ e_=>HO0_12.out.1 k_ e_));have n4_:=Aside0.mk (blk_kept (bk BK516) hkp (fun hs_=>(fun e_=>(Kd.R_ne HO0_12.out BK516.out (by decide)) e_) hs_));have n5_:=Aside0.mk (Kept.then_ (S:=(fun k_=>P0_5_ k_∨P0_6_ k_∨P0_11_ k_∨P0_12_ k_)) (by repeat (first|(with_reducible first|exact HK.out|apply Kept.alloc|apply Kept.drewN|apply Kept.drew|refine Kept.setCell ?_ (.inr GW516.out) _)|exact HK.out)) hkp (fun k_ hs_=>(fun e_=>(HO0_12.out.1 k_ e_.symm)) hs_));have n6_:=Aside0.mk hb;clear HO0_5;clear HO0_6;clear HO0_11;clear HO0_12;clear BK516;clear HK;clear HB;have HO0_5:=n0_;have HO0_6:=n1_;have HO0_11:=n2_;have HO0_12:=n3_;have BK516:=n4_;have HK:=n5_;have HB:=n6_;clear n0_ n1_ n2_ n3_ n4_ n5_ n6_;(try clear hb);(try clear hkp);(try clear hy0)))
 go_ret
 exact ⟨fE,rS HO0_5,by (with_reducible repeat (first|apply Kd.R_alloc|apply Kd.R_drewN|apply Kd.R_drew));exact Kd.R_mono HO0_6.out (fun _ hk=>hk.1),by (with_reducible repeat (first|apply Kd.R_alloc|apply Kd.R_drewN|apply Kd.R_drew));exact Kd.R_mono HO0_11.out (fun _ hk=>hk.1),rS HO0_12,bG,by repeat (first|(with_reducible first|exact HK.out|apply Kept.alloc|apply Kept.drewN|apply Kept.drew|refine Kept.setCell ?_ (.inr GW516.out) _)|exact HK.out)⟩
def laws_heldRgbS.l0:Nat→List (S95)→Int→Int→Option (Int)
 | 0,_,_,_=>none
 | k+1,x0,x1,x5=>if x5 < (x0.length:Int) then (if 0≤x5 then (if ((rd_T95 x0 x5).f0)=x1 then (if ((rd_T95 x0 x5).f1)=(wrap64 (x1+1)) then (if ((rd_T95 x0 x5).f2)=(wrap64 ((wrap64 (x1+1))+1)) then (laws_heldRgbS.l0 k x0 (wrap64 ((wrap64 ((wrap64 (x1+1))+1))+1)) (wrap64 (x5+1))) else (some (-1))) else (some (-1))) else (some (-1))) else (none)) else (some x1)
def laws_heldRgbS.f (k:Nat) (l0:List (S95)) (a1:Int):Option (Int):=laws_heldRgbS.l0 k l0 a1 0
theorem laws_heldRgbS.mono_l:∀ k,(∀ y0 y1 y2,LeO (laws_heldRgbS.l0 k y0 y1 y2) (laws_heldRgbS.l0 (k+1) y0 y1 y2))
 | 0=>fun _ _ _ r h=>by simp [laws_heldRgbS.l0] at h
 | k+1=>by
  have ih0:=laws_heldRgbS.mono_l k
  ·intro y0 y1 y2
   unfold laws_heldRgbS.l0
   repeat' first
   | (with_reducible exact ih0 _ _ _)
   | (with_reducible exact LeO.refl _)
   | (with_reducible exact LeO.none _)
   | (with_reducible refine LeO.ite ?_ ?_)
   | (with_reducible refine LeO.bind ?_ (fun _=>?_))
   | exact ih0 _ _ _
   | exact LeO.none _
   | refine LeO.ite ?_ ?_
   | refine LeO.bind ?_ (fun _=>?_)
theorem laws_heldRgbS.mono:∀ a0 a1 k,LeO (laws_heldRgbS.f k a0 a1) (laws_heldRgbS.f (k+1) a0 a1):=by
 intro a0 a1 k
 have ih0:=laws_heldRgbS.mono_l k
 unfold laws_heldRgbS.f
 repeat' first
   | (with_reducible exact ih0 _ _ _)
   | (with_reducible exact LeO.refl _)
   | (with_reducible exact LeO.none _)
   | (with_reducible refine LeO.ite ?_ ?_)
   | (with_reducible refine LeO.bind ?_ (fun _=>?_))
   | exact ih0 _ _ _
   | exact LeO.none _
   | refine LeO.ite ?_ ?_
   | refine LeO.bind ?_ (fun _=>?_)
theorem laws_heldRgbS.calls (k:Nat) (A0:Option Addr) (c0:Nat) (l0:List (S95)) (a1:Int) (r:Int) (w:World) (hr0:Kd.C k95 w A0 l0.length l0) (hc0:l0.length≤c0) (h:laws_heldRgbS.f k l0 a1=some r):
  Calls Try.prog 56 #[.slice A0 l0.length c0,.int .i64 a1] w fun e w'=>e=.returned (.int .i64 r)∧Drawn0 w w':=by
 have HR0:=Aside0.mk hr0
 have HC0:=Aside0.mk hc0
 clear hr0 hc0
 have H:=h
 clear h
 unfold laws_heldRgbS.f at H
 have H':=Aside0.mk H
 clear H
 go_enter Try.func56,Try.ntmps56
 go_wp2
 go_loopg [1,5] k (fun kq v1 v5 w'=>∃ (x1_1:Int) (x5_1:Int),v1=.int .i64 x1_1∧v5=.int .i64 x5_1∧Aside0 (laws_heldRgbS.l0 kq l0 x1_1 x5_1=some r)∧Aside0 (kq≤k)∧Drawn0 w w')
 case atStart=>exact ⟨(a1),(0),fS,fS,H',⟨Nat.le_refl _⟩,by repeat (first|exact Drawn0.refl _|apply Drawn0.step)⟩
 case round =>
  clear H'
  try clear p2
  obtain ⟨x1_1,x5_1,rfl,rfl,HA,HK1,⟨m1,rfl⟩⟩:=hrel
  cases gk with
  | zero=>exact absurd HA.out (by simp [laws_heldRgbS.l0])
  | succ k1 =>
   have H:=HA.out
   clear HA
   simp only [laws_heldRgbS.l0] at H
   by_cases c3:x5_1 < (l0.length:Int)
   ·rw [if_pos c3] at H
    have c3b0:decide (x5_1 < (l0.length:Int))=true:=decide_eq_true c3
    clear c3
    by_cases c4:0≤x5_1
    ·rw [if_pos c4] at H
     have c4b0:decide (0≤x5_1)=true:=decide_eq_true c4
     clear c4
     by_cases c5:((rd_T95 l0 x5_1).f0)=x1_1
     ·rw [if_pos c5] at H
      have c5b0:(((rd_T95 l0 x5_1).f0) == x1_1)=true:=beq_iff_eq.mpr c5
      have c5b1:(((rd_T95 l0 x5_1).f0) != x1_1)=false:=bne_eq_false_iff_eq.mpr c5
      clear c5
      by_cases c6:((rd_T95 l0 x5_1).f1)=(wrap64 (x1_1+1))
      ·rw [if_pos c6] at H
       have c6b0:(((rd_T95 l0 x5_1).f1) == (wrap64 (x1_1+1)))=true:=beq_iff_eq.mpr c6
       have c6b1:(((rd_T95 l0 x5_1).f1) != (wrap64 (x1_1+1)))=false:=bne_eq_false_iff_eq.mpr c6
       clear c6
       by_cases c7:((rd_T95 l0 x5_1).f2)=(wrap64 ((wrap64 (x1_1+1))+1))
       ·rw [if_pos c7] at H
        have c7b0:(((rd_T95 l0 x5_1).f2) == (wrap64 ((wrap64 (x1_1+1))+1)))=true:=beq_iff_eq.mpr c7
        have c7b1:(((rd_T95 l0 x5_1).f2) != (wrap64 ((wrap64 (x1_1+1))+1)))=false:=bne_eq_false_iff_eq.mpr c7
        clear c7
        have H':=Aside0.mk H
        clear H
        have p525:0≤(x5_1:Int):=oD
        have q525:x5_1 < (l0.length:Int):=oD
        obtain ⟨ad525,e525,hx525_0,hx525_1,hx525_2⟩:=at_T95 HR0.out x5_1 p525 q525
        cases e525
        replace p525:=eq_true p525
        replace q525:=eq_true q525
        have p526:0≤(x5_1:Int):=oD
        have q526:x5_1 < (l0.length:Int):=oD
        obtain ⟨ad526,e526,hx526_0,hx526_1,hx526_2⟩:=at_T95 HR0.out x5_1 p526 q526
        obtain rfl:ad525=ad526:=(by injection e526)
        replace p526:=eq_true p526
        replace q526:=eq_true q526
        have p527:0≤(x5_1:Int):=oD
        have q527:x5_1 < (l0.length:Int):=oD
        obtain ⟨ad527,e527,hx527_0,hx527_1,hx527_2⟩:=at_T95 HR0.out x5_1 p527 q527
        obtain rfl:ad525=ad527:=(by injection e527)
        replace p527:=eq_true p527
        replace q527:=eq_true q527
        go_wp2
        go_roundg k1
        case measure=>have:=HK1.out;omega
        case rel=>exact ⟨(wrap64 ((wrap64 ((wrap64 (x1_1+1))+1))+1)),(wrap64 (x5_1+1)),fS,fS,H',⟨by have:=HK1.out;omega⟩,by repeat (first|exact Drawn0.refl _|apply Drawn0.step)⟩
       ·rw [if_neg c7] at H
        have c7b0:(((rd_T95 l0 x5_1).f2) == (wrap64 ((wrap64 (x1_1+1))+1)))=false:=beq_eq_false_iff_ne.mpr c7
        have c7b1:(((rd_T95 l0 x5_1).f2) != (wrap64 ((wrap64 (x1_1+1))+1)))=true:=bne_iff_ne.mpr c7
        obtain rfl:=sI H
        have p525:0≤(x5_1:Int):=oD
        have q525:x5_1 < (l0.length:Int):=oD
        obtain ⟨ad525,e525,hx525_0,hx525_1,hx525_2⟩:=at_T95 HR0.out x5_1 p525 q525
        cases e525
        replace p525:=eq_true p525
        replace q525:=eq_true q525
        have p526:0≤(x5_1:Int):=oD
        have q526:x5_1 < (l0.length:Int):=oD
        obtain ⟨ad526,e526,hx526_0,hx526_1,hx526_2⟩:=at_T95 HR0.out x5_1 p526 q526
        obtain rfl:ad525=ad526:=(by injection e526)
        replace p526:=eq_true p526
        replace q526:=eq_true q526
        have p527:0≤(x5_1:Int):=oD
        have q527:x5_1 < (l0.length:Int):=oD
        obtain ⟨ad527,e527,hx527_0,hx527_1,hx527_2⟩:=at_T95 HR0.out x5_1 p527 q527
        obtain rfl:ad525=ad527:=(by injection e527)
        replace p527:=eq_true p527
        replace q527:=eq_true q527
        go_wp2
        go_ret
        exact ⟨fS,by repeat (first|exact Drawn0.refl _|apply Drawn0.step)⟩
      ·rw [if_neg c6] at H
       have c6b0:(((rd_T95 l0 x5_1).f1) == (wrap64 (x1_1+1)))=false:=beq_eq_false_iff_ne.mpr c6
       have c6b1:(((rd_T95 l0 x5_1).f1) != (wrap64 (x1_1+1)))=true:=bne_iff_ne.mpr c6
       obtain rfl:=sI H
       have p525:0≤(x5_1:Int):=oD
       have q525:x5_1 < (l0.length:Int):=oD
       obtain ⟨ad525,e525,hx525_0,hx525_1,hx525_2⟩:=at_T95 HR0.out x5_1 p525 q525
       cases e525
       replace p525:=eq_true p525
       replace q525:=eq_true q525
       have p526:0≤(x5_1:Int):=oD
       have q526:x5_1 < (l0.length:Int):=oD
       obtain ⟨ad526,e526,hx526_0,hx526_1,hx526_2⟩:=at_T95 HR0.out x5_1 p526 q526
       obtain rfl:ad525=ad526:=(by injection e526)
       replace p526:=eq_true p526
       replace q526:=eq_true q526
       go_wp2
       go_ret
       exact ⟨fS,by repeat (first|exact Drawn0.refl _|apply Drawn0.step)⟩
     ·rw [if_neg c5] at H
      have c5b0:(((rd_T95 l0 x5_1).f0) == x1_1)=false:=beq_eq_false_iff_ne.mpr c5
      have c5b1:(((rd_T95 l0 x5_1).f0) != x1_1)=true:=bne_iff_ne.mpr c5
      obtain rfl:=sI H
      have p525:0≤(x5_1:Int):=oD
      have q525:x5_1 < (l0.length:Int):=oD
      obtain ⟨ad525,e525,hx525_0,hx525_1,hx525_2⟩:=at_T95 HR0.out x5_1 p525 q525
      cases e525
      replace p525:=eq_true p525
      replace q525:=eq_true q525
      go_wp2
      go_ret
      exact ⟨fS,by repeat (first|exact Drawn0.refl _|apply Drawn0.step)⟩
    ·rw [if_neg c4] at H
     exact absurd H (by simp)
   ·rw [if_neg c3] at H
    have c3b0:decide (x5_1 < (l0.length:Int))=false:=decide_eq_false c3
    clear c3
    obtain rfl:=sI H
    go_wp2
    go_ret
    exact ⟨fS,by repeat (first|exact Drawn0.refl _|apply Drawn0.step)⟩
def laws_heldIntS.l0:Nat→List Int→Int→Int→Option (Int)
 | 0,_,_,_=>none
 | k+1,x0,x1,x5=>if x5 < (x0.length:Int) then (if 0≤x5 then (if (rd x0 x5)=x1 then (laws_heldIntS.l0 k x0 (wrap64 (x1+1)) (wrap64 (x5+1))) else (some (-1))) else (none)) else (some x1)
def laws_heldIntS.f (k:Nat) (l0:List Int) (a1:Int):Option (Int):=laws_heldIntS.l0 k l0 a1 0
theorem laws_heldIntS.mono_l:∀ k,(∀ y0 y1 y2,LeO (laws_heldIntS.l0 k y0 y1 y2) (laws_heldIntS.l0 (k+1) y0 y1 y2))
 | 0=>fun _ _ _ r h=>by simp [laws_heldIntS.l0] at h
 | k+1=>by
  have ih0:=laws_heldIntS.mono_l k
  ·intro y0 y1 y2
   unfold laws_heldIntS.l0
   repeat' first
   | (with_reducible exact ih0 _ _ _)
   | (with_reducible exact LeO.refl _)
   | (with_reducible exact LeO.none _)
   | (with_reducible refine LeO.ite ?_ ?_)
   | (with_reducible refine LeO.bind ?_ (fun _=>?_))
   | exact ih0 _ _ _
   | exact LeO.none _
   | refine LeO.ite ?_ ?_
   | refine LeO.bind ?_ (fun _=>?_)
theorem laws_heldIntS.mono:∀ a0 a1 k,LeO (laws_heldIntS.f k a0 a1) (laws_heldIntS.f (k+1) a0 a1):=by
 intro a0 a1 k
 have ih0:=laws_heldIntS.mono_l k
 unfold laws_heldIntS.f
 repeat' first
   | (with_reducible exact ih0 _ _ _)
   | (with_reducible exact LeO.refl _)
   | (with_reducible exact LeO.none _)
   | (with_reducible refine LeO.ite ?_ ?_)
   | (with_reducible refine LeO.bind ?_ (fun _=>?_))
   | exact ih0 _ _ _
   | exact LeO.none _
   | refine LeO.ite ?_ ?_
   | refine LeO.bind ?_ (fun _=>?_)
theorem laws_heldIntS.calls (k:Nat) (A0:Option Addr) (c0:Nat) (l0:List Int) (a1:Int) (r:Int) (w:World) (hr0:Kd.C (Kd.int .i64) w A0 l0.length l0) (hc0:l0.length≤c0) (h:laws_heldIntS.f k l0 a1=some r):
  Calls Try.prog 57 #[.slice A0 l0.length c0,.int .i64 a1] w fun e w'=>e=.returned (.int .i64 r)∧Drawn0 w w':=by
 have HR0:=Aside0.mk hr0
 have HC0:=Aside0.mk hc0
 clear hr0 hc0
 have H:=h
 clear h
 unfold laws_heldIntS.f at H
 have H':=Aside0.mk H
 clear H
 go_enter Try.func57,Try.ntmps57
 go_wp2
 go_loopg [1,5] k (fun kq v1 v5 w'=>∃ (x1_1:Int) (x5_1:Int),v1=.int .i64 x1_1∧v5=.int .i64 x5_1∧Aside0 (laws_heldIntS.l0 kq l0 x1_1 x5_1=some r)∧Aside0 (kq≤k)∧Drawn0 w w')
 case atStart=>exact ⟨(a1),(0),fS,fS,H',⟨Nat.le_refl _⟩,by repeat (first|exact Drawn0.refl _|apply Drawn0.step)⟩
 case round =>
  clear H'
  try clear p2
  obtain ⟨x1_1,x5_1,rfl,rfl,HA,HK1,⟨m1,rfl⟩⟩:=hrel
  cases gk with
  | zero=>exact absurd HA.out (by simp [laws_heldIntS.l0])
  | succ k1 =>
   have H:=HA.out
   clear HA
   simp only [laws_heldIntS.l0] at H
   by_cases c3:x5_1 < (l0.length:Int)
   ·rw [if_pos c3] at H
    have c3b0:decide (x5_1 < (l0.length:Int))=true:=decide_eq_true c3
    clear c3
    by_cases c4:0≤x5_1
    ·rw [if_pos c4] at H
     have c4b0:decide (0≤x5_1)=true:=decide_eq_true c4
     clear c4
     by_cases c5:(rd l0 x5_1)=x1_1
     ·rw [if_pos c5] at H
      have c5b0:((rd l0 x5_1) == x1_1)=true:=beq_iff_eq.mpr c5
      have c5b1:((rd l0 x5_1) != x1_1)=false:=bne_eq_false_iff_eq.mpr c5
      clear c5
      have H':=Aside0.mk H
      clear H
      have p528:0≤(x5_1:Int):=oD
      have q528:x5_1 < (l0.length:Int):=oD
      obtain ⟨ad528,e528,hx528_0⟩:=Kd.at_int HR0.out x5_1 p528 q528
      cases e528
      replace p528:=eq_true p528
      replace q528:=eq_true q528
      go_wp2
      go_roundg k1
      case measure=>have:=HK1.out;omega
      case rel=>exact ⟨(wrap64 (x1_1+1)),(wrap64 (x5_1+1)),fS,fS,H',⟨by have:=HK1.out;omega⟩,by repeat (first|exact Drawn0.refl _|apply Drawn0.step)⟩
     ·rw [if_neg c5] at H
      have c5b0:((rd l0 x5_1) == x1_1)=false:=beq_eq_false_iff_ne.mpr c5
      have c5b1:((rd l0 x5_1) != x1_1)=true:=bne_iff_ne.mpr c5
      obtain rfl:=sI H
      have p528:0≤(x5_1:Int):=oD
      have q528:x5_1 < (l0.length:Int):=oD
      obtain ⟨ad528,e528,hx528_0⟩:=Kd.at_int HR0.out x5_1 p528 q528
      cases e528
      replace p528:=eq_true p528
      replace q528:=eq_true q528
      go_wp2
      go_ret
      exact ⟨fS,by repeat (first|exact Drawn0.refl _|apply Drawn0.step)⟩
    ·rw [if_neg c4] at H
     exact absurd H (by simp)
   ·rw [if_neg c3] at H
    have c3b0:decide (x5_1 < (l0.length:Int))=false:=decide_eq_false c3
    clear c3
    obtain rfl:=sI H
    go_wp2
    go_ret
    exact ⟨fS,by repeat (first|exact Drawn0.refl _|apply Drawn0.step)⟩
def laws_heldRaster.f (k:Nat) (a0_0:Int) (a0_1:Int) (a0_2:Int) (a0_3:Int) (l0_4:List Int) (a1:Int):Option (Int):=(laws_heldIntS.f k l0_4 a1).bind fun t530=>(if t530 < 0 then (some (-1)) else (some t530))
theorem laws_heldRaster.mono:∀ a0 a1 a2 a3 a4 a5 k,LeO (laws_heldRaster.f k a0 a1 a2 a3 a4 a5) (laws_heldRaster.f (k+1) a0 a1 a2 a3 a4 a5):=by
 intro a0 a1 a2 a3 a4 a5 k
 unfold laws_heldRaster.f
 repeat' first
   | (with_reducible exact laws_heldIntS.mono _ _ _)
   | (with_reducible exact LeO.refl _)
   | (with_reducible exact LeO.none _)
   | (with_reducible refine LeO.ite ?_ ?_)
   | (with_reducible refine LeO.bind ?_ (fun _=>?_))
   | exact laws_heldIntS.mono _ _ _
   | exact LeO.none _
   | refine LeO.ite ?_ ?_
   | refine LeO.bind ?_ (fun _=>?_)
theorem laws_heldRaster.calls (k:Nat) (a0_0:Int) (a0_1:Int) (a0_2:Int) (a0_3:Int) (A0_4:Option Addr) (c0_4:Nat) (l0_4:List Int) (a1:Int) (r:Int) (w:World) (hr0_4:Kd.C (Kd.int .i64) w A0_4 l0_4.length l0_4) (hc0_4:l0_4.length≤c0_4) (h:laws_heldRaster.f k a0_0 a0_1 a0_2 a0_3 l0_4 a1=some r):
  Calls Try.prog 58 #[.agg #[.int .i64 a0_0,.int .i64 a0_1,.int .i64 a0_2,.int .i64 a0_3,.slice A0_4 l0_4.length c0_4],.int .i64 a1] w fun e w'=>e=.returned (.int .i64 r)∧Below w.heap.size w w':=by
 have hu34:=Try.underlying34
 have HR0_4:=Aside0.mk hr0_4
 have HC0_4:=Aside0.mk hc0_4
 clear hr0_4 hc0_4
 have HB:=Aside0.mk (Below.refl w.heap.size w)
 have H:=h
 clear h
 unfold laws_heldRaster.f at H
 obtain ⟨t530,A3,H⟩:=bS H
 try dsimp only at H
 by_cases c4:t530 < 0
 ·rw [if_pos c4] at H
  have c4b0:decide (t530 < 0)=true:=decide_eq_true c4
  clear c4
  obtain rfl:=sI H
  go_enter Try.func58,Try.ntmps58
  go_wp2_with (first|((with_reducible refine gate_dst (N:=2) rfl ?_);refine boxE 2 (#[.int .i64 a0_0,.int .i64 a0_1,.int .i64 a0_2,.int .i64 a0_3,.slice A0_4 l0_4.length c0_4]) 34 ?_;intro gb529 hg w5 hbox hb;have BK529:=Aside0.mk hbox;have GW529:=(gwH (w:=w) hg);have GE529:=(gwH (w:=w) hg);replace HB:=Aside0.mk (below_step bH hb);clear hb hbox hg;obtain ⟨z6_0,z6_1,z6_2,z6_3,z6_4,y6_0,y6_1,y6_2,y6_3,y6_4⟩:=blk5f BK529)|((with_reducible refine gate_callee (f:=57) rfl ?_);refine gL (some 8) Try.func57 #[.slice A0_4 l0_4.length c0_4,.int .i64 a1] ?_;(with_reducible refine (laws_heldIntS.calls k _ _ l0_4 a1 t530 _ (cB HR0_4) HC0_4.out A3.out).mono ?_);rintro e w' ⟨rfl,⟨nd,rfl⟩⟩;refine ⟨_,rfl,?_⟩))
  go_ret
  exact ⟨fE,bG⟩
 ·rw [if_neg c4] at H
  have c4b0:decide (t530 < 0)=false:=decide_eq_false c4
  clear c4
  obtain rfl:=sI H
  go_enter Try.func58,Try.ntmps58
  go_wp2_with (first|((with_reducible refine gate_dst (N:=2) rfl ?_);refine boxE 2 (#[.int .i64 a0_0,.int .i64 a0_1,.int .i64 a0_2,.int .i64 a0_3,.slice A0_4 l0_4.length c0_4]) 34 ?_;intro gb529 hg w7 hbox hb;have BK529:=Aside0.mk hbox;have GW529:=(gwH (w:=w) hg);have GE529:=(gwH (w:=w) hg);replace HB:=Aside0.mk (below_step bH hb);clear hb hbox hg;obtain ⟨z8_0,z8_1,z8_2,z8_3,z8_4,y8_0,y8_1,y8_2,y8_3,y8_4⟩:=blk5f BK529)|((with_reducible refine gate_callee (f:=57) rfl ?_);refine gL (some 8) Try.func57 #[.slice A0_4 l0_4.length c0_4,.int .i64 a1] ?_;(with_reducible refine (laws_heldIntS.calls k _ _ l0_4 a1 t530 _ (cB HR0_4) HC0_4.out A3.out).mono ?_);rintro e w' ⟨rfl,⟨nd,rfl⟩⟩;refine ⟨_,rfl,?_⟩))
  go_ret
  exact ⟨fE,bG⟩
end Go.Proofs.Ytjpfhldklbgdcaa.Ld
