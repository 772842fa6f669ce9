/- Plain laws on the printed functions of pictures, second half. Conditions stand at each. -/
import Derived.Test.YtjpfhldklbgdcaaPlA
namespace Go.Proofs.Ytjpfhldklbgdcaa.Pl
open Go.RowKit Go.Proofs.Ytjpfhldklbgdcaa.Ld Go.Proofs.YtjpfhldklbgdcaaW.PrintWords Go.Proofs.YtjpfhldklbgdcaaW.PrintLast Go.Proofs.YtjpfhldklbgdcaaW.PrintMore

theorem small_impl (s:ByteArray) (i:Int):impl_isSmall.f (bt s i)=some (small (bt s i)):=by
  have:=bt_lo s i
  have:=bt_hi s i
  unfold impl_isSmall.f small
  rw [w64 (by omega) (by omega),in_impl];rfl
theorem great_impl (s:ByteArray) (i:Int):impl_isGreat.f (bt s i)=some (great (bt s i)):=by
  have:=bt_lo s i
  have:=bt_hi s i
  unfold impl_isGreat.f great
  rw [w64 (by omega) (by omega),in_impl];rfl
theorem great_le {x:Int} (h:great x=true):x≤90:=by unfold great at h;simp at h;omega
theorem small_gt {x:Int} (h:small x=true):¬ x≤90∧97≤x:=by unfold small at h;simp at h;omega
theorem name_impl (s:ByteArray) (hs:s.size≤4611686018427387904) {k:Nat} (hk:s.size+2≤k):impl_NameOk.f k s=some (name s):=by
  unfold impl_NameOk.f
  have:=loop_all (F:=fun k i=>impl_NameOk.l0 k s (s.size:Int) i) (n:=s.size) (K:=0) (p:=fun i=>great (bt s i) || (small (bt s i) && !(decide (i=2)))) (c:=false) (e:=((s.size:Int) == 4)) ?_ ?_ s.size 0 k (by omega) (by omega)
  · refine Eq.trans this ?_
    congr 1
    unfold name
    have e4:((s.size:Int) == 4)=decide (s.size=4):=by rw [Bool.eq_iff_iff];simp;omega
    rw [e4]
    by_cases h4:s.size=4
    · rw [h4]
      have g2:(great (bt s 2) || (small (bt s 2) && false))=((great (bt s 2) || small (bt s 2)) && decide (bt s 2≤90)):=by
        cases hg:great (bt s 2) with
        | true=>simp [great_le hg]
        | false =>
          cases hsm:small (bt s 2) with
          | true=>simp [(small_gt hsm).1]
          | false=>rfl
      have r4:(List.range' 0 4).all (fun i=>great (bt s i) || (small (bt s i) && !(decide (i=2))))=((great (bt s 0) || (small (bt s 0) && true)) && ((great (bt s 1) || (small (bt s 1) && true)) && ((great (bt s 2) || (small (bt s 2) && false)) && ((great (bt s 3) || (small (bt s 3) && true)) && true)))):=rfl
      rw [r4,g2,Bool.and_true,Bool.and_true,Bool.and_true,Bool.and_true]
      rw [show decide ((4:Nat)=4)=true from rfl,Bool.true_and]
      show (if ((great (bt s 0) || small (bt s 0)) && ((great (bt s 1) || small (bt s 1)) && (((great (bt s 2) || small (bt s 2)) && decide (bt s 2≤90)) && (great (bt s 3) || small (bt s 3)))))=true then true else false)=_
      cases great (bt s 0) || small (bt s 0) <;> cases great (bt s 1) || small (bt s 1) <;> cases great (bt s 2) || small (bt s 2) <;> cases great (bt s 3) || small (bt s 3) <;> cases decide (bt s 2≤90) <;> rfl
    · rw [decide_eq_false h4,Bool.false_and]
      split <;> rfl
  · intro k i hk hi
    simp only [impl_NameOk.l0]
    rw [if_pos (by omega),if_pos (by omega),if_pos (by omega),great_impl,some_bind,w64 (x:=(i:Int)+1) (by omega) (by omega)]
    cases great (bt s i) with
    | true=>rfl
    | false =>
      rw [if_neg (by decide),small_impl,some_bind]
      cases small (bt s i) with
      | false=>rfl
      | true =>
        by_cases h2:i=2
        · subst h2;rfl
        · rw [if_pos rfl,if_neg (by omega)];simp [h2]
  · intro k hk
    simp only [impl_NameOk.l0]
    rw [if_neg (by omega)]
theorem name_parts {s:ByteArray} (h:name s=true):s.size=4∧(great (bt s 0) || small (bt s 0))=true∧(great (bt s 3) || small (bt s 3))=true:=by
  unfold name at h
  simp only [Bool.and_eq_true,decide_eq_true_eq] at h
  exact ⟨h.1,h.2.1,h.2.2.2.2.1⟩
theorem small_of_letter {x:Int} (h:(great x || small x)=true):small x=decide (97≤x):=by
  cases hs:small x with
  | true=>simp [(small_gt hs).2]
  | false =>
    rw [hs,Bool.or_false] at h
    have:=great_le h
    rw [decide_eq_false (by omega)]
theorem safe_impl (s:ByteArray) (hs:s.size≤4611686018427387904) {k:Nat} (hk:s.size+2≤k):impl_SafeToCopy.f k s=some (safe s):=by
  unfold impl_SafeToCopy.f safe
  rw [name_impl s hs hk,some_bind]
  cases hn:name s with
  | false=>rfl
  | true =>
    obtain ⟨h4,_,h3⟩:=name_parts hn
    rw [if_pos rfl,if_pos (by omega),small_impl,some_bind,small_of_letter h3];rfl
theorem needless_impl (s:ByteArray) (hs:s.size≤4611686018427387904) {k:Nat} (hk:s.size+2≤k):impl_Needless.f k s=some (needless s):=by
  unfold impl_Needless.f needless
  rw [name_impl s hs hk,some_bind]
  cases hn:name s with
  | false=>rfl
  | true =>
    obtain ⟨h4,h0,_⟩:=name_parts hn
    rw [if_pos rfl,if_pos (by omega),small_impl,some_bind,small_of_letter h0];rfl
theorem side_impl (x:Int):impl_isSide.f x=some (side x):=by unfold impl_isSide.f side;rw [in_impl];rfl
theorem chan_impl {k:Nat} (hk:1≤k) (c:Int):impl_ChannelsOf.f k c=some (chan c):=by
  obtain ⟨k,rfl⟩:∃ m,k=m+1:=⟨k - 1,by omega⟩
  unfold impl_ChannelsOf.f chan
  simp only [impl_ChannelsOf.j0]
  by_cases c0:c=0 <;> by_cases c3:c=3 <;> by_cases c2:c=2 <;> by_cases c4:c=4 <;> by_cases c6:c=6 <;> simp_all
theorem isDepth (d:Int):impl_isDepth.f d=some (decide (d=1∨d=2∨d=4∨d=8∨d=16)):=by
  unfold impl_isDepth.f
  by_cases d1:d=1 <;> by_cases d2:d=2 <;> by_cases d4:d=4 <;> by_cases d8:d=8 <;> by_cases d16:d=16 <;> simp_all
theorem depth_impl {k:Nat} (hk:1≤k) (c d:Int):impl_DepthOk.f k c d=some (depthOk c d):=by
  unfold impl_DepthOk.f depthOk
  by_cases c0:c=0
  · rw [if_pos c0,if_pos c0,isDepth];rfl
  · rw [if_neg c0,if_neg c0]
    by_cases c3:c=3
    · rw [if_pos c3,if_pos c3,isDepth,some_bind]
      congr 1
      by_cases d1:d=1 <;> by_cases d2:d=2 <;> by_cases d4:d=4 <;> by_cases d8:d=8 <;> by_cases d16:d=16 <;> simp_all
    · rw [if_neg c3,if_neg c3,chan_impl hk,some_bind]
      unfold chan
      by_cases c2:c=2 <;> by_cases c4:c=4 <;> by_cases c6:c=6 <;> by_cases d8:d=8 <;> by_cases d16:d=16 <;> simp_all
theorem head_impl {k:Nat} (hk:1≤k) (w h d c:Int) (l:Bool):impl_HeadOk.f k w h d c l=some (headOk w h d c):=by
  unfold impl_HeadOk.f headOk
  rw [side_impl,some_bind]
  cases side w with
  | false=>rfl
  | true =>
    rw [if_pos rfl,side_impl,some_bind]
    cases side h with
    | false=>rfl
    | true=>rw [if_pos rfl,depth_impl hk];rfl
theorem power_impl {d:Int} (h0:0≤d) (h1:d≤16):impl_powerOf.f d=some (2 ^ d.toNat):=by
  unfold impl_powerOf.f
  have hp:=pow_hi (n:=d.toNat) (by omega)
  rw [in_impl,some_bind,decide_eq_true h0,decide_eq_true (show d≤62 by omega),if_pos (show (true && true)=true from rfl),if_pos h0]
  unfold shl
  have hm:min d.toNat (IntKind.bits .i64)=d.toNat:=Nat.min_eq_left (by show d.toNat≤64;omega)
  rw [hm,Int.one_mul]
  congr 1
  exact IntWalk.i64_in _ (by omega)
theorem samples_impl {l:List Int} {d:Int} (h0:0≤d) (h1:d≤16) {k:Nat} (hk:l.length+2≤k) (hl:l.length≤4611686018427387904):impl_samplesOk.f k l d=some (within l (2 ^ d.toNat - 1)):=by
  have hp:=pow_hi (n:=d.toNat) (by omega)
  unfold impl_samplesOk.f
  have:=loop_all (F:=fun k i=>impl_samplesOk.l0 k d l (l.length:Int) i) (n:=l.length) (K:=0) (p:=fun i=>decide (0≤rd l i) && decide (rd l i≤2 ^ d.toNat - 1)) (c:=false) (e:=true) ?_ ?_ l.length 0 k (by omega) (by omega)
  · refine Eq.trans this ?_
    rw [rd_all (q:=fun x=>decide (0≤x) && decide (x≤2 ^ d.toNat - 1))]
    unfold within
    cases l.all _ <;> rfl
  · intro k i hk hi
    simp only [impl_samplesOk.l0]
    rw [if_pos (by omega),if_pos (by omega),if_pos (by omega),power_impl h0 h1,some_bind,in_impl,some_bind,w64 (by omega) (by omega),w64 (by omega) (by omega)]
  · intro k hk
    simp only [impl_samplesOk.l0]
    rw [if_neg (by omega)]
theorem raster_impl (w h c d:Int) (l:List Int) {k:Nat} (hk:l.length+30≤k) (hl:l.length≤4611686018427387904):impl_RasterOk.f k w h c d l=some (rasterOk w h c d l):=by
  have nope:impl_RasterOk.j0 k true w h c d l=some false:=by
    obtain ⟨k,rfl⟩:∃ m,k=m+1:=⟨k - 1,by omega⟩
    simp only [impl_RasterOk.j0,if_true]
  unfold impl_RasterOk.f rasterOk
  rw [side_impl,some_bind]
  cases hw:side w with
  | false=>exact nope
  | true =>
    rw [if_pos rfl,side_impl,some_bind]
    cases hh:side h with
    | false=>exact nope
    | true =>
      rw [if_pos rfl,depth_impl (by omega),some_bind]
      cases hd:depthOk c d with
      | false=>exact nope
      | true =>
        have hr:=depth_range hd
        have hc:=chan_hi c
        have hwr:1≤w∧w≤24:=by unfold side at hw;simpa using hw
        have hhr:1≤h∧h≤24:=by unfold side at hh;simpa using hh
        have hm:0≤w * h∧w * h≤576:=⟨Int.mul_nonneg (by omega) (by omega),Int.le_trans (Int.mul_le_mul hwr.2 hhr.2 (by omega) (by omega)) (by decide)⟩
        have hm2:0≤w * h * chan c∧w * h * chan c≤2304:=⟨Int.mul_nonneg hm.1 hc.1,Int.le_trans (Int.mul_le_mul hm.2 hc.2 hc.1 (by omega)) (by decide)⟩
        obtain ⟨k,rfl⟩:∃ m,k=m+1:=⟨k - 1,by omega⟩
        simp only [impl_RasterOk.j0]
        rw [if_neg (by decide),chan_impl (by omega),some_bind,w64 (x:=w * h) (by omega) (by omega),w64 (by omega) (by omega)]
        by_cases e:(l.length:Int)=w * h * chan c
        · rw [if_pos e,samples_impl (by omega) (by omega) (by omega) hl];simp [e]
        · rw [if_neg e];simp [e]
theorem colour_impl (x:S95):impl_colorOk.f x.f0 x.f1 x.f2=some (colour x):=by
  unfold impl_colorOk.f colour byte
  rw [in_impl,some_bind]
  cases decide (0≤x.f0) && decide (x.f0≤255) with
  | false=>rfl
  | true =>
    rw [if_pos rfl,in_impl,some_bind]
    cases decide (0≤x.f1) && decide (x.f1≤255) with
    | false=>rfl
    | true=>rw [if_pos rfl,in_impl];rfl
theorem table_impl (w h:Int) {d c:Int} (la:Bool) (l:List S95) (hd:depthOk c d=true) {k:Nat} (hk:l.length+2≤k) (hl:l.length≤4611686018427387904):
    impl_tableOk.f k w h d c la l=some (if c=3 then tableOk l && decide ((l.length:Int)≤2 ^ d.toNat) else decide (l.length=0)):=by
  have hr:=depth_range hd
  unfold impl_tableOk.f
  by_cases c3:c=3
  · rw [if_pos c3,if_pos c3]
    have:=loop_all (F:=fun k i=>impl_tableOk.l0 k l l (l.length:Int) i w h d c la) (n:=l.length) (K:=0) (p:=fun i=>colour (l.getD i z95)) (c:=false) (e:=(decide (1≤(l.length:Int)) && decide ((l.length:Int)≤2 ^ d.toNat))) ?_ ?_ l.length 0 k (by omega) (by omega)
    · refine Eq.trans this ?_
      rw [getD_all z95]
      congr 1
      unfold tableOk
      have h256:(2:Int) ^ d.toNat≤256:=by
        have h8:d=1∨d=2∨d=4∨d=8:=by
          unfold depthOk at hd
          rw [c3] at hd
          simpa using hd
        rcases h8 with rfl|rfl|rfl|rfl <;> decide
      by_cases hle:(l.length:Int)≤2 ^ d.toNat
      · rw [decide_eq_true hle,decide_eq_true (show (l.length:Int)≤256 by omega)]
        cases l.all colour <;> simp
      · rw [decide_eq_false hle,Bool.and_false,Bool.and_false]
        cases l.all colour <;> rfl
    · intro k i hk hi
      simp only [impl_tableOk.l0]
      have e:rd_T95 l (i:Int)=l.getD i z95:=by unfold rd_T95;rw [Int.toNat_natCast]
      rw [if_pos (by omega),if_pos (by omega),if_pos (by omega),e,colour_impl,some_bind,w64 (by omega) (by omega)]
    · intro k hk
      simp only [impl_tableOk.l0]
      rw [if_neg (by omega),power_impl (by omega) (by omega),some_bind,in_impl];rfl
  · rw [if_neg c3,if_neg c3]
    congr 1
    rw [Bool.eq_iff_iff];simp
theorem clear_impl (w h d c:Int) (la:Bool) (n:Int) (l:List Int) {k:Nat} (hk:l.length+30≤k) (hl:l.length≤4611686018427387904):impl_ClearOk.f k w h d c la n l=some (clearOk d c n l):=by
  have hr:=depth16_range d
  unfold impl_ClearOk.f clearOk
  by_cases h0:l.length=0
  · rw [if_pos (by omega),if_pos h0]
    by_cases c3:c=3
    · rw [if_pos c3,if_pos c3]
    · rw [if_neg c3,if_neg c3]
  · rw [if_neg (by omega),if_neg h0,in_impl,some_bind]
    have go:impl_ClearOk.j0 k n l (depth16 d) w h d c la=some (if c=0 then decide (l.length=1) && within l (2 ^ (depth16 d).toNat - 1) else if c=2 then decide (l.length=3) && within l (2 ^ (depth16 d).toNat - 1) else if c=3 then decide ((l.length:Int)≤n) && within l 255 else false):=by
      obtain ⟨k,rfl⟩:∃ m,k=m+1:=⟨k - 1,by omega⟩
      simp only [impl_ClearOk.j0]
      by_cases c0:c=0
      · rw [if_pos c0,if_pos c0]
        by_cases h1:l.length=1
        · rw [if_pos (by omega),samples_impl hr.1 hr.2 (by omega) hl,decide_eq_true h1];rfl
        · rw [if_neg (by omega),decide_eq_false h1];rfl
      · rw [if_neg c0,if_neg c0]
        by_cases c2:c=2
        · rw [if_pos c2,if_pos c2]
          by_cases h1:l.length=3
          · rw [if_pos (by omega),samples_impl hr.1 hr.2 (by omega) hl,decide_eq_true h1];rfl
          · rw [if_neg (by omega),decide_eq_false h1];rfl
        · rw [if_neg c2,if_neg c2]
          by_cases c3:c=3
          · rw [if_pos c3,if_pos c3]
            by_cases h1:(l.length:Int)≤n
            · rw [if_pos h1,samples_impl (by decide) (by decide) (by omega) hl,decide_eq_true h1];rfl
            · rw [if_neg h1,decide_eq_false h1];rfl
          · rw [if_neg c3,if_neg c3]
    rw [← go]
    by_cases hd:0≤d∧d≤16
    · have e:depth16 d=d:=by unfold depth16;rw [if_pos hd]
      rw [decide_eq_true hd.1,decide_eq_true hd.2,e];rfl
    · have e:depth16 d=0:=by unfold depth16;rw [if_neg hd]
      have:(decide (0≤d) && decide (d≤16))=false:=by
        cases hb:decide (0≤d) && decide (d≤16) with
        | false=>rfl
        | true=>exact absurd (by simpa using hb) hd
      rw [this,e];rfl

def named (l:List S83) (M:Nat):Prop:=M≤1099511627776∧∀ x ∈ l,x.f0.size≤M
theorem named_get {l:List S83} {M i:Nat} (h:named l M) (hi:i < l.length):(l.getD i z83).f0.size≤M:=by
  rw [List.getD_eq_getElem?_getD,List.getElem?_eq_getElem hi]
  exact h.2 _ (List.getElem_mem hi)
theorem kept_impl (l:List S83) {M k:Nat} (hm:named l M) (hk:l.length+M+10≤k) (hl:l.length≤1099511627776):impl_keptOk.f k l=some (keptOk l):=by
  unfold impl_keptOk.f keptOk
  have hM:=hm.1
  have:=loop_all (F:=fun k i=>impl_keptOk.l0 k l l (l.length:Int) i) (n:=l.length) (K:=M+2) (p:=fun i=>keptOne (l.getD i z83)) (c:=false) (e:=decide ((l.length:Int)≤32)) ?_ ?_ l.length 0 k (by omega) (by omega)
  · refine Eq.trans this ?_
    rw [getD_all z83]
    congr 1
    by_cases h:l.length≤32
    · rw [decide_eq_true h,decide_eq_true (show (l.length:Int)≤32 by omega)]
      cases l.all keptOne <;> rfl
    · rw [decide_eq_false h,decide_eq_false (show ¬ (l.length:Int)≤32 by omega)]
      cases l.all keptOne <;> rfl
  · intro k i hk hi
    simp only [impl_keptOk.l0]
    have e:rd_T83 l (i:Int)=l.getD i z83:=by unfold rd_T83;rw [Int.toNat_natCast]
    have hn:=named_get hm hi
    rw [if_pos (by omega),if_pos (by omega),if_pos (by omega),e,needless_impl _ (by omega) (by omega),some_bind,w64 (by omega) (by omega)]
    unfold keptOne
    cases needless (l.getD i z83).f0 with
    | false=>rfl
    | true =>
      rw [if_pos rfl,Bool.true_and]
      by_cases ht:(l.getD i z83).f0.toList=[116,82,78,83]
      · rw [if_pos ht,decide_eq_true ht];rfl
      · rw [if_neg ht,decide_eq_false ht,Bool.not_false,Bool.true_and]
        by_cases hs:((l.getD i z83).f1.size:Int) > 2600
        · rw [if_pos hs,decide_eq_false (by omega)];rfl
        · rw [if_neg hs,decide_eq_true (by omega)];rfl
  · intro k hk
    simp only [impl_keptOk.l0]
    rw [if_neg (by omega)]
theorem index_impl (p:Pic) {k:Nat} (hk:p.sm.length+2≤k) (hl:p.sm.length≤1099511627776):impl_inTable.f k p.w p.h p.d p.c p.lace p.tb p.cl p.rw p.rh p.rc p.rd p.sm p.kp=some (indexOk p.sm p.tb.length):=by
  unfold impl_inTable.f
  have:=loop_all (F:=fun k i=>impl_inTable.l0 k p.sm (p.sm.length:Int) i p.w p.h p.d p.c p.lace p.tb p.cl p.rw p.rh p.rc p.rd p.sm p.kp) (n:=p.sm.length) (K:=0) (p:=fun i=>decide (rd p.sm i < p.tb.length)) (c:=false) (e:=true) ?_ ?_ p.sm.length 0 k (by omega) (by omega)
  · refine Eq.trans this ?_
    rw [rd_all (q:=fun x=>decide (x < p.tb.length))]
    unfold indexOk
    cases p.sm.all _ <;> rfl
  · intro k i hk hi
    simp only [impl_inTable.l0]
    rw [if_pos (by omega),if_pos (by omega),if_pos (by omega),w64 (by omega) (by omega)]
    by_cases h:rd p.sm i < p.tb.length
    · rw [if_neg (by omega),decide_eq_true h,if_pos rfl]
    · rw [if_pos (by omega),decide_eq_false h];rfl
  · intro k hk
    simp only [impl_inTable.l0]
    rw [if_neg (by omega)]
theorem png_impl (p:Pic) {M k:Nat} (hm:named p.kp M) (hk:rounds p+M+10≤k) (hs:small40 p):impl_PngOk.f k p.w p.h p.d p.c p.lace p.tb p.cl p.rw p.rh p.rc p.rd p.sm p.kp=some (pngOk p):=by
  have hk':=hk
  unfold rounds at hk'
  obtain ⟨s1,s2,s3,s4⟩:=hs
  unfold impl_PngOk.f pngOk
  rw [head_impl (by omega),some_bind]
  have dead:∀ b:Bool,b=true→impl_PngOk.j0 k b p.w p.h p.d p.c p.lace p.tb p.cl p.rw p.rh p.rc p.rd p.sm p.kp p.w p.h p.d p.c p.lace=some false:=by
    intro b hb
    obtain ⟨k,rfl⟩:∃ m,k=m+1:=⟨k - 1,by omega⟩
    simp only [impl_PngOk.j0]
    rw [if_pos hb]
  cases hh:headOk p.w p.h p.d p.c with
  | false=>exact dead true rfl
  | true =>
    have hd:depthOk p.c p.d=true:=by
      unfold headOk at hh
      simp only [Bool.and_eq_true] at hh
      exact hh.2.2
    rw [if_pos rfl,raster_impl _ _ _ _ _ (by omega) (by omega),some_bind]
    cases rasterOk p.rw p.rh p.rc p.rd p.sm with
    | false=>exact dead true rfl
    | true =>
      rw [if_pos rfl]
      by_cases h1:p.rw=p.w
      · rw [if_pos h1,decide_eq_true h1]
        by_cases h2:p.rh=p.h
        · rw [if_pos h2,decide_eq_true h2]
          by_cases h3:p.rc=p.c
          · rw [if_pos h3,decide_eq_true h3]
            by_cases h4:p.rd=p.d
            · have hne:(p.rd != p.d)=false:=by simp [h4]
              rw [hne,decide_eq_true h4]
              obtain ⟨k,rfl⟩:∃ m,k=m+1:=⟨k - 1,by omega⟩
              simp only [impl_PngOk.j0]
              rw [if_neg (by decide),table_impl _ _ _ _ hd (by omega) (by omega),some_bind,clear_impl _ _ _ _ _ _ _ (by omega) (by omega),kept_impl _ hm (by omega) s4,index_impl p (by omega) s3]
              simp only [some_bind,Bool.true_and]
              unfold tablePart
              by_cases c3:p.c=3
              · simp only [if_pos c3]
                cases tableOk p.tb <;> cases decide ((p.tb.length:Int)≤2 ^ p.d.toNat) <;> cases clearOk p.d p.c p.tb.length p.cl <;> cases keptOk p.kp <;> cases indexOk p.sm p.tb.length <;> rfl
              · simp only [if_neg c3]
                cases decide (p.tb.length=0) <;> cases clearOk p.d p.c p.tb.length p.cl <;> cases keptOk p.kp <;> rfl
            · rw [decide_eq_false h4];exact dead _ (by simpa using h4)
          · rw [if_neg h3,decide_eq_false h3];exact dead true rfl
        · rw [if_neg h2,decide_eq_false h2];exact dead true rfl
      · rw [if_neg h1,decide_eq_false h1];exact dead true rfl
theorem touchy_impl (p:Pic) {M k:Nat} (hm:named p.kp M) (hk:p.kp.length+M+10≤k) (hl:p.kp.length≤1099511627776):impl_Touchy.f k p.w p.h p.d p.c p.lace p.tb p.cl p.rw p.rh p.rc p.rd p.sm p.kp=some (touchy p.kp):=by
  have hM:=hm.1
  unfold impl_Touchy.f touchy
  have:=loop_all (F:=fun k i=>impl_Touchy.l0 k p.kp (p.kp.length:Int) i) (n:=p.kp.length) (K:=M+2) (p:=fun i=>plainOne (p.kp.getD i z83)) (c:=true) (e:=false) ?_ ?_ p.kp.length 0 k (by omega) (by omega)
  · refine Eq.trans this ?_
    rw [getD_all z83]
    cases p.kp.all _ <;> rfl
  · intro k i hk hi
    simp only [impl_Touchy.l0]
    have e:rd_T83 p.kp (i:Int)=p.kp.getD i z83:=by unfold rd_T83;rw [Int.toNat_natCast]
    have hn:=named_get hm hi
    rw [if_pos (by omega),if_pos (by omega),if_pos (by omega),e,w64 (by omega) (by omega)]
    unfold plainOne
    by_cases h1:(p.kp.getD i z83).f0.toList=[115,66,73,84]
    · rw [if_pos h1,decide_eq_true h1];rfl
    · rw [if_neg h1,decide_eq_false h1]
      by_cases h2:(p.kp.getD i z83).f0.toList=[98,75,71,68]
      · rw [if_pos h2,decide_eq_true h2];rfl
      · rw [if_neg h2,decide_eq_false h2]
        by_cases h3:(p.kp.getD i z83).f0.toList=[104,73,83,84]
        · rw [if_pos h3,decide_eq_true h3];rfl
        · rw [if_neg h3,decide_eq_false h3,safe_impl _ (by omega) (by omega),some_bind]
          cases safe (p.kp.getD i z83).f0 <;> rfl
  · intro k hk
    simp only [impl_Touchy.l0]
    rw [if_neg (by omega)]
def mayTurn (p:Pic):Bool:=pngOk p && !touchy p.kp
theorem mayTurn_impl (p:Pic) {M k:Nat} (hm:named p.kp M) (hk:rounds p+M+10≤k) (hs:small40 p):impl_mayTurn.f k p.w p.h p.d p.c p.lace p.tb p.cl p.rw p.rh p.rc p.rd p.sm p.kp=some (mayTurn p):=by
  unfold impl_mayTurn.f mayTurn
  rw [png_impl p hm hk hs,some_bind]
  cases pngOk p with
  | false=>rfl
  | true =>
    have hk':=hk
    unfold rounds at hk'
    rw [if_pos rfl,touchy_impl p hm (by omega) hs.2.2.2];rfl
theorem div_impl (l:List Int) {q:Int} (hq:q≠0) {k:Nat} (hk:l.length+1≤k) (hl:l.length≤1099511627776):impl_divided.f k l q=some (divided l q):=by
  unfold impl_divided.f
  have:=div_loop (F:=fun k acc i=>impl_divided.l0 k q acc l (l.length:Int) i) (l:=l) (q:=q) hl ?_ ?_ l.length 0 k [] (by omega) hk (by simp)
  · refine Eq.trans this ?_
    unfold divided
    simp
  · intro k i acc hi ha
    simp only [impl_divided.l0]
    have e:rd l (i:Int)=l[i]:=by unfold rd;rw [Int.toNat_natCast,List.getD_eq_getElem?_getD,List.getElem?_eq_getElem hi];rfl
    rw [if_pos (by omega),if_pos (by omega),if_pos (by omega),if_neg hq,e,if_pos (show acc.length < 17592186044416 by omega),w64 (x:=(i:Int)+1) (by omega) (by omega)]
  · intro k acc
    simp only [impl_divided.l0]
    rw [if_neg (by omega)]
/-- A copy of a picture, with another colour, depth and samples. -/
theorem turned_impl (p:Pic) (c d:Int) (sm:List Int) (hs:small40 p):impl_turned.f p.w p.h p.d p.c p.lace p.tb p.cl p.rw p.rh p.rc p.rd p.sm p.kp c d sm=some (p.w,p.h,d,c,p.lace,p.tb,p.cl,p.rw,p.rh,c,d,sm,p.kp):=by
  obtain ⟨s1,s2,s3,s4⟩:=hs
  unfold impl_turned.f impl_copyPng.f impl_copyInts.f impl_copyRaster.f impl_copyChunks.f impl_copyInts.f
  simp only [some_bind,List.length_nil,Nat.zero_add,List.nil_append]
  rw [if_pos (by omega),if_pos (by omega),if_pos (by omega),if_pos (by omega)]
  rfl
theorem table_empty {p:Pic} (h:pngOk p=true) (hc:p.c≠3):p.tb=[]:=by
  unfold pngOk tablePart at h
  simp only [Bool.and_eq_true,if_neg hc,decide_eq_true_eq] at h
  exact List.eq_nil_of_length_eq_zero h.2.2.2.2.2.2.2.2
theorem same_size {p:Pic} (h:pngOk p=true):p.rw=p.w∧p.rh=p.h∧p.rc=p.c∧p.rd=p.d:=by
  unfold pngOk at h
  simp only [Bool.and_eq_true,decide_eq_true_eq] at h
  exact ⟨h.2.2.1,h.2.2.2.1,h.2.2.2.2.1,h.2.2.2.2.2.1⟩
theorem deep_colour {p:Pic} (h:pngOk p=true):depthOk p.c p.d=true:=by
  unfold pngOk headOk at h
  simp only [Bool.and_eq_true] at h
  exact h.1.2.2
/-- A loop that writes each element. -/
theorem fill_loop {β γ:Type} {F:Nat→List β→Int→Option γ} {n K:Nat} {wr:Nat→β} {out:List β→Option γ}
    (hstep:∀ (k i:Nat) (acc:List β),K≤k→i < n→acc.length=n→F (k+1) acc i=F k (acc.set i (wr i)) ((i:Int)+1))
    (hstop:∀ (k:Nat) (acc:List β),acc.length=n→F (k+1) acc n=out acc):∀ (d i k:Nat) (acc:List β),acc.length=n→i+d=n→K+d+1≤k→F k acc i=out (acc.take i++(List.range' i d).map wr):=by
  intro d
  induction d with
  | zero =>
    intro i k acc ha hi hk
    obtain ⟨k,rfl⟩:∃ m,k=m+1:=⟨k - 1,by omega⟩
    obtain rfl:i=n:=by omega
    rw [hstop _ _ ha]
    simp [List.take_of_length_le (Nat.le_of_eq ha)]
  | succ d ih =>
    intro i k acc ha hi hk
    obtain ⟨k,rfl⟩:∃ m,k=m+1:=⟨k - 1,by omega⟩
    rw [hstep k i acc (by omega) (by omega) ha]
    have:=ih (i+1) k (acc.set i (wr i)) (by rw [List.length_set,ha]) (by omega) (by omega)
    rw [Int.natCast_add,Int.natCast_one] at this
    rw [this,List.range'_succ,List.map_cons]
    congr 1
    rw [List.take_add_one,List.take_set_of_le (Nat.le_refl i),List.getElem?_set_self (by omega),List.append_assoc]
    rfl
theorem map_getD {α β:Type} (l:List α) (z:α) (g:α→β):(List.range' 0 l.length).map (fun i=>g (l.getD i z))=l.map g:=by
  apply List.ext_getElem?
  intro j
  rw [List.getElem?_map,List.getElem?_map]
  rcases Nat.lt_or_ge j l.length with h|h
  · rw [List.getElem?_range' h,List.getElem?_eq_getElem h]
    simp only [Option.map_some,Nat.zero_add,Nat.one_mul,List.getD_eq_getElem?_getD,List.getElem?_eq_getElem h,Option.getD_some]
  · rw [List.getElem?_eq_none (by rw [List.length_range'];exact h),List.getElem?_eq_none h]
    rfl
/-! ### copies -/
def rgb (x:S106):S95:=⟨x.f0,x.f1,x.f2⟩
def chunk (x:S98):S83:=⟨x.f0,x.f1⟩
theorem toInts (l:List Int) {k:Nat} (hk:l.length+1≤k) (hl:l.length≤35184372088832):laws_toIntS.f k l=some l:=by
  unfold laws_toIntS.f
  rw [if_pos (by omega),if_pos (by rw [Int.toNat_natCast];exact hl)]
  have:=fill_loop (F:=fun k acc i=>laws_toIntS.l0 k l acc i) (n:=l.length) (K:=0) (wr:=fun i=>l.getD i 0) (out:=some) ?_ ?_ l.length 0 k (List.replicate ((l.length:Int)).toNat 0) (by rw [List.length_replicate,Int.toNat_natCast]) (by omega) (by omega)
  · refine Eq.trans this ?_
    rw [List.take_zero,List.nil_append,map_getD l 0 (fun x=>x),List.map_id']
  · intro k i acc hk hi ha
    simp only [laws_toIntS.l0]
    rw [if_pos (by omega),if_pos (by omega),if_pos (by omega),w64 (by omega) (by omega),Int.toNat_natCast]
    unfold rd
    rw [Int.toNat_natCast]
  · intro k acc _
    simp only [laws_toIntS.l0]
    rw [if_neg (by omega)]
theorem toRgbs (l:List S106) {k:Nat} (hk:l.length+1≤k) (hl:l.length≤11728124029610):laws_toRgbS.f k l=some (l.map rgb):=by
  unfold laws_toRgbS.f
  rw [if_pos (by omega),if_pos (by rw [Int.toNat_natCast];exact hl)]
  have:=fill_loop (F:=fun k acc i=>laws_toRgbS.l0 k l acc i) (n:=l.length) (K:=0) (wr:=fun i=>rgb (l.getD i z106)) (out:=some) ?_ ?_ l.length 0 k (List.replicate ((l.length:Int)).toNat z95) (by rw [List.length_replicate,Int.toNat_natCast]) (by omega) (by omega)
  · refine Eq.trans this ?_
    rw [List.take_zero,List.nil_append,map_getD l z106 rgb]
  · intro k i acc hk hi ha
    simp only [laws_toRgbS.l0,laws_toRgb.f]
    have e:rd_T106 l (i:Int)=l.getD i z106:=by unfold rd_T106;rw [Int.toNat_natCast]
    rw [if_pos (by omega),if_pos (by omega),some_bind,if_pos (by omega),w64 (by omega) (by omega),Int.toNat_natCast,e]
    rfl
  · intro k acc _
    simp only [laws_toRgbS.l0]
    rw [if_neg (by omega)]
theorem toChunks (l:List S98) {k:Nat} (hk:l.length+1≤k) (hl:l.length≤8796093022208):laws_toChunkS.f k l=some (l.map chunk):=by
  unfold laws_toChunkS.f
  rw [if_pos (by omega),if_pos (by rw [Int.toNat_natCast];exact hl)]
  have:=fill_loop (F:=fun k acc i=>laws_toChunkS.l0 k l acc i) (n:=l.length) (K:=0) (wr:=fun i=>chunk (l.getD i z98)) (out:=some) ?_ ?_ l.length 0 k (List.replicate ((l.length:Int)).toNat z83) (by rw [List.length_replicate,Int.toNat_natCast]) (by omega) (by omega)
  · refine Eq.trans this ?_
    rw [List.take_zero,List.nil_append,map_getD l z98 chunk]
  · intro k i acc hk hi ha
    simp only [laws_toChunkS.l0,laws_toChunk.f]
    have e:rd_T98 l (i:Int)=l.getD i z98:=by unfold rd_T98;rw [Int.toNat_natCast]
    rw [if_pos (by omega),if_pos (by omega),some_bind,if_pos (by omega),w64 (by omega) (by omega),Int.toNat_natCast,e]
    rfl
  · intro k acc _
    simp only [laws_toChunkS.l0]
    rw [if_neg (by omega)]
/-! ### equal to itself -/
theorem eqInts (l:List Int) {k:Nat} (hk:l.length+1≤k) (hl:l.length≤1099511627776):laws_eqIntS.f k l l=some true:=by
  unfold laws_eqIntS.f
  rw [if_pos rfl]
  have:=loop_all (F:=fun k i=>laws_eqIntS.l0 k l l i) (n:=l.length) (K:=0) (p:=fun _=>true) (c:=false) (e:=true) ?_ ?_ l.length 0 k (by omega) (by omega)
  · refine Eq.trans this ?_
    split <;> first|rfl|(rename_i h;exact absurd (List.all_eq_true.2 (fun _ _=>rfl)) h)
  · intro k i hk hi
    simp only [laws_eqIntS.l0]
    rw [if_pos (by omega),if_pos (by omega),if_pos (by omega),w64 (by omega) (by omega)]
  · intro k hk
    simp only [laws_eqIntS.l0]
    rw [if_neg (by omega)]
theorem eqRgbs (l:List S95) {k:Nat} (hk:l.length+1≤k) (hl:l.length≤1099511627776):laws_eqRgbS.f k l l=some true:=by
  unfold laws_eqRgbS.f
  rw [if_pos rfl]
  have:=loop_all (F:=fun k i=>laws_eqRgbS.l0 k l l i) (n:=l.length) (K:=0) (p:=fun _=>true) (c:=false) (e:=true) ?_ ?_ l.length 0 k (by omega) (by omega)
  · refine Eq.trans this ?_
    split <;> first|rfl|(rename_i h;exact absurd (List.all_eq_true.2 (fun _ _=>rfl)) h)
  · intro k i hk hi
    simp only [laws_eqRgbS.l0,laws_eqRgb.f]
    rw [if_pos (by omega),if_pos (by omega),if_pos (by omega),if_pos trivial,if_pos trivial,if_pos trivial,some_bind,if_pos rfl,w64 (by omega) (by omega)];rfl
  · intro k hk
    simp only [laws_eqRgbS.l0]
    rw [if_neg (by omega)]
theorem eqChunks (l:List S83) {k:Nat} (hk:l.length+1≤k) (hl:l.length≤1099511627776):laws_eqChunkS.f k l l=some true:=by
  unfold laws_eqChunkS.f
  rw [if_pos rfl]
  have:=loop_all (F:=fun k i=>laws_eqChunkS.l0 k l l i) (n:=l.length) (K:=0) (p:=fun _=>true) (c:=false) (e:=true) ?_ ?_ l.length 0 k (by omega) (by omega)
  · refine Eq.trans this ?_
    split <;> first|rfl|(rename_i h;exact absurd (List.all_eq_true.2 (fun _ _=>rfl)) h)
  · intro k i hk hi
    simp only [laws_eqChunkS.l0,laws_eqChunk.f]
    rw [if_pos (by omega),if_pos (by omega),if_pos (by omega),if_pos trivial,if_pos trivial,some_bind,if_pos rfl,w64 (by omega) (by omega)];rfl
  · intro k hk
    simp only [laws_eqChunkS.l0]
    rw [if_neg (by omega)]
theorem eqPic (p:Pic) {k:Nat} (hk:rounds p≤k) (hs:small40 p):laws_eqPng.f k p.w p.h p.d p.c p.lace p.tb p.cl p.rw p.rh p.rc p.rd p.sm p.kp p.w p.h p.d p.c p.lace p.tb p.cl p.rw p.rh p.rc p.rd p.sm p.kp=some true:=by
  unfold rounds at hk
  obtain ⟨s1,s2,s3,s4⟩:=hs
  unfold laws_eqPng.f laws_eqHead.f laws_eqRaster.f
  simp only [if_true,bne_self_eq_false,Bool.false_eq_true,if_false,some_bind,eqRgbs p.tb (show p.tb.length+1≤k by omega) s1,eqInts p.cl (show p.cl.length+1≤k by omega) s2,eqInts p.sm (show p.sm.length+1≤k by omega) s3,eqChunks p.kp (show p.kp.length+1≤k by omega) s4]

/-! ### sizes -/
theorem szRgbs (l:List S106) {a:Int} (h0:0≤a) (h1:a≤1048576) (hl:l.length≤9223372036854775807):∃ t,laws_szRgbS.f l a=some t∧t≤a∧(0≤t→(l.length:Int)≤a):=by
  unfold laws_szRgbS.f
  rw [w64 (by omega) (by omega)]
  by_cases h:a - (l.length:Int) < 0
  · rw [if_pos h];exact ⟨_,rfl,by omega,by omega⟩
  · rw [if_neg h];exact ⟨_,rfl,by omega,by omega⟩
theorem szInts (l:List Int) {a:Int} (h0:0≤a) (h1:a≤1048576) (hl:l.length≤9223372036854775807):∃ t,laws_szIntS.f l a=some t∧t≤a∧(0≤t→(l.length:Int)≤a):=by
  unfold laws_szIntS.f
  rw [w64 (by omega) (by omega)]
  by_cases h:a - (l.length:Int) < 0
  · rw [if_pos h];exact ⟨_,rfl,by omega,by omega⟩
  · rw [if_neg h];exact ⟨_,rfl,by omega,by omega⟩
theorem szChunk (x:S98) {a:Int} (h0:0≤a) (h1:a≤1048576) (hx:x.f0.size≤9223372036854775807∧x.f1.size≤9223372036854775807):∃ t,laws_szChunk.f x.f0 x.f1 a=some t∧t≤a∧(0≤t→(x.f0.size:Int)≤a):=by
  unfold laws_szChunk.f
  rw [w64 (x:=a - (x.f0.size:Int)) (by omega) (by omega)]
  by_cases h:a - (x.f0.size:Int) < 0
  · rw [if_pos h];exact ⟨_,rfl,by omega,by omega⟩
  · rw [if_neg h,w64 (by omega) (by omega)]
    by_cases h2:a - (x.f0.size:Int) - (x.f1.size:Int) < 0
    · rw [if_pos h2];exact ⟨_,rfl,by omega,by omega⟩
    · rw [if_neg h2];exact ⟨_,rfl,by omega,by omega⟩
theorem szChunks_loop (l:List S98) (hl:l.length≤1048576) (hx:∀ x ∈ l,x.f0.size≤9223372036854775807∧x.f1.size≤9223372036854775807):∀ (d i k:Nat) (a:Int),0≤a→a≤1048576→i+d=l.length→d+1≤k→∃ t,laws_szChunkS.l0 k l a i=some t∧t≤a∧(0≤t→∀ j,i≤j→(h:j < l.length)→l[j].f0.size≤1048576):=by
  intro d
  induction d with
  | zero =>
    intro i k a h0 h1 hi hk
    obtain ⟨k,rfl⟩:∃ m,k=m+1:=⟨k - 1,by omega⟩
    simp only [laws_szChunkS.l0]
    rw [if_neg (by omega)]
    exact ⟨_,rfl,Int.le_refl _,fun _ j hj h=>by omega⟩
  | succ d ih =>
    intro i k a h0 h1 hi hk
    obtain ⟨k,rfl⟩:∃ m,k=m+1:=⟨k - 1,by omega⟩
    simp only [laws_szChunkS.l0]
    have e:rd_T98 l (i:Int)=l[i]:=by unfold rd_T98;rw [Int.toNat_natCast,List.getD_eq_getElem?_getD,List.getElem?_eq_getElem (by omega)];rfl
    obtain ⟨t,ht,hle,hsz⟩:=szChunk l[i] h0 h1 (hx _ (List.getElem_mem (by omega)))
    rw [if_pos (by omega),if_pos (by omega),e,ht,some_bind,w64 (by omega) (by omega)]
    by_cases hn:t < 0
    · rw [if_pos hn];exact ⟨_,rfl,by omega,by omega⟩
    · obtain ⟨u,hu,hul,hus⟩:=ih (i+1) k t (by omega) (by omega) (by omega) (by omega)
      rw [Int.natCast_add,Int.natCast_one] at hu
      rw [if_neg hn]
      refine ⟨u,hu,by omega,fun h j hj hjl=>?_⟩
      rcases Nat.eq_or_lt_of_le hj with rfl|hlt
      · have:=hsz (by omega);omega
      · exact hus h j (by omega) hjl
/-- The law's own picture. -/
structure Inp where
  w:Int
  h:Int
  d:Int
  c:Int
  lace:Bool
  tb:List S106
  cl:List Int
  rw:Int
  rh:Int
  rc:Int
  rd:Int
  sm:List Int
  kp:List S98
/-- As a machine may hold it. -/
def held (p:Inp):Prop:=p.tb.length≤9223372036854775807∧p.cl.length≤9223372036854775807∧p.sm.length≤9223372036854775807∧p.kp.length≤9223372036854775807∧∀ x ∈ p.kp,x.f0.size≤9223372036854775807∧x.f1.size≤9223372036854775807
def Inp.pic (p:Inp):Pic:=⟨p.w,p.h,p.d,p.c,p.lace,p.tb.map rgb,p.cl,p.rw,p.rh,p.rc,p.rd,p.sm,p.kp.map chunk⟩
theorem szPic (p:Inp) (hp:held p) {k:Nat} (hk:1048580≤k):∃ t,laws_szPng.f k p.w p.h p.d p.c p.lace p.tb p.cl p.rw p.rh p.rc p.rd p.sm p.kp 1048576=some t ∧
    (0≤t→p.tb.length≤1048576∧p.cl.length≤1048576∧p.sm.length≤1048576∧p.kp.length≤1048576∧named p.pic.kp 1048576):=by
  obtain ⟨b1,b2,b3,b4,b5⟩:=hp
  unfold laws_szPng.f
  obtain ⟨t1,e1,l1,z1⟩:=szRgbs p.tb (a:=1048576) (by decide) (by decide) b1
  rw [e1,some_bind]
  by_cases n1:t1 < 0
  · rw [if_pos n1];exact ⟨_,rfl,fun h=>by omega⟩
  · obtain ⟨t2,e2,l2,z2⟩:=szInts p.cl (a:=t1) (by omega) l1 b2
    rw [if_neg n1,e2,some_bind]
    by_cases n2:t2 < 0
    · rw [if_pos n2];exact ⟨_,rfl,fun h=>by omega⟩
    · obtain ⟨t3,e3,l3,z3⟩:=szInts p.sm (a:=t2) (by omega) (by omega) b3
      rw [if_neg n2]
      unfold laws_szRaster.f
      rw [e3,some_bind]
      by_cases n3:t3 < 0
      · rw [if_pos n3];exact ⟨_,rfl,fun h=>by omega⟩
      · rw [if_neg n3,some_bind,if_neg n3]
        unfold laws_szChunkS.f
        rw [w64 (x:=t3 - (p.kp.length:Int)) (by omega) (by omega)]
        by_cases n4:t3 - (p.kp.length:Int) < 0
        · rw [if_pos n4];exact ⟨_,rfl,fun h=>by omega⟩
        · obtain ⟨t4,e4,l4,z4⟩:=szChunks_loop p.kp (by omega) b5 p.kp.length 0 k (t3 - p.kp.length) (by omega) (by omega) (by omega) (by omega)
          rw [if_neg n4,show laws_szChunkS.l0 k p.kp (t3 - p.kp.length) 0=some t4 from e4,some_bind]
          by_cases n5:t4 < 0
          · rw [if_pos n5];exact ⟨_,rfl,fun h=>by omega⟩
          · rw [if_neg n5]
            refine ⟨t4,rfl,fun _=>⟨by have:=z1 (by omega);omega,by have:=z2 (by omega);omega,by have:=z3 (by omega);omega,by omega,by decide,?_⟩⟩
            intro x hx
            obtain ⟨y,hy,rfl⟩:=List.mem_map.1 hx
            obtain ⟨j,hj,rfl⟩:=List.getElem_of_mem hy
            exact z4 (by omega) j (by omega) hj
/-! ### the text of a mark -/
theorem markText_loop:∀ (m:Nat) (x:Int) (acc:ByteArray) (k:Nat),0≤x→x≤4611686018427387904→x < 10 ^ m→m+1≤k→acc.size+m≤1000→∃ r,laws_markText.l0 k x acc=some r:=by
  intro m
  induction m with
  | zero =>
    intro x acc k h0 hb h1 hk ha
    obtain ⟨k,rfl⟩:∃ m,k=m+1:=⟨k - 1,by omega⟩
    simp only [laws_markText.l0]
    rw [if_neg (by simp at h1;omega),if_pos (by omega)]
    exact ⟨_,rfl⟩
  | succ m ih =>
    intro x acc k h0 hb h1 hk ha
    obtain ⟨k,rfl⟩:∃ m,k=m+1:=⟨k - 1,by omega⟩
    simp only [laws_markText.l0]
    by_cases hx:x > 0
    · have hs:∀ y:Int,(strOfNums [y]).size=1:=fun y=>rfl
      rw [if_pos hx,some_bind,if_pos (by rw [hs];omega)]
      rw [Int.pow_succ] at h1
      have hd:Int.tdiv x 10=x / 10:=Int.tdiv_eq_ediv_of_nonneg h0
      have hw:wrap64 (x / 10)=x / 10:=w64 (by omega) (by omega)
      rw [hd,hw]
      exact ih (x / 10) _ k (by omega) (by omega) (by omega) (by omega) (by rw [ByteArray.size_append,hs];omega)
    · rw [if_neg hx,if_pos (by omega)]
      exact ⟨_,rfl⟩

def mtext (x:Int):ByteArray:=(laws_markText.f 30 x).getD (⟨#[]⟩:ByteArray)
theorem mtext_30 {x:Int} (h0:0≤x) (h1:x≤4611686018427387904):laws_markText.f 30 x=some (mtext x):=by
  have:∃ r,laws_markText.f 30 x=some r:=by
    unfold laws_markText.f
    by_cases h:x≤0
    · rw [if_pos h];exact ⟨_,rfl⟩
    · rw [if_neg h]
      exact markText_loop 20 x _ 30 h0 h1 (Int.lt_of_le_of_lt h1 (by decide)) (by decide) (by decide)
  obtain ⟨r,hr⟩:=this
  unfold mtext
  rw [hr];rfl
theorem mtext_eq {x:Int} (h0:0≤x) (h1:x≤4611686018427387904) {k:Nat} (hk:30≤k):laws_markText.f k x=some (mtext x):=by
  obtain ⟨d,rfl⟩:∃ d,k=30+d:=⟨k - 30,by omega⟩
  clear hk
  induction d with
  | zero=>exact mtext_30 h0 h1
  | succ d ih=>exact laws_markText.mono x (30+d) _ ih
theorem getD_set {α:Type} (l:List α) (z v:α) {i:Nat} (h:i < l.length):(l.set i v).getD i z=v:=by
  rw [List.getD_eq_getElem?_getD,List.getElem?_set_self h];rfl
theorem getD_made {α:Type} (z:α) (wr:Nat→α) {n i:Nat} (h:i < n):((List.range' 0 n).map wr).getD i z=wr i:=by
  rw [List.getD_eq_getElem?_getD,List.getElem?_map,List.getElem?_range' h]
  simp
theorem made_length {α:Type} (wr:Nat→α) (n:Nat):((List.range' 0 n).map wr).length=n:=by rw [List.length_map,List.length_range']
/-! ### colours -/
def mRgb (a:Int) (i:Nat):S95:=⟨a+3 * i,a+3 * i+1,a+3 * i+2⟩
theorem markRgbs (l:List S95) {a:Int} (h0:0≤a) (h1:a≤1125899906842624) {k:Nat} (hk:l.length+1≤k) (hl:l.length≤1099511627776):
    laws_markRgbS.f k l a=some (a+3 * l.length,(List.range' 0 l.length).map (mRgb a)):=by
  unfold laws_markRgbS.f
  have:=fill_loop (F:=fun k acc i=>laws_markRgbS.l0 k acc (a+3 * i) i) (n:=l.length) (K:=0) (wr:=mRgb a) (out:=fun acc=>some (a+3 * l.length,acc)) ?_ ?_ l.length 0 k l rfl (by omega) (by omega)
  · refine Eq.trans ?_ this
    simp
  · intro k i acc hk hi ha
    simp only [laws_markRgbS.l0]
    have e:rd_T95 acc (i:Int)=acc.getD i z95:=by unfold rd_T95;rw [Int.toNat_natCast]
    have e1:∀ v:S95,rd_T95 (acc.set i v) (i:Int)=v:=fun v=>by unfold rd_T95;rw [Int.toNat_natCast,getD_set _ _ _ (by omega)]
    have w1:wrap64 (a+3 * (i:Int)+1)=a+3 * (i:Int)+1:=w64 (by omega) (by omega)
    have w2:wrap64 (a+3 * (i:Int)+1+1)=a+3 * (i:Int)+2:=by rw [w64 (by omega) (by omega)];omega
    have w3:wrap64 (a+3 * (i:Int)+2+1)=a+3 * ((i:Int)+1):=by rw [w64 (by omega) (by omega)];omega
    rw [if_pos (by omega),if_pos (by omega),some_bind,some_bind,Int.toNat_natCast,w1,w2,w3,w64 (x:=(i:Int)+1) (by omega) (by omega)]
    simp only [e1,List.set_set]
    rfl
  · intro k acc ha
    simp only [laws_markRgbS.l0]
    rw [if_neg (by omega)]
theorem heldRgbs {n:Nat} {a:Int} (h0:0≤a) (h1:a≤1125899906842624) {k:Nat} (hk:n+1≤k) (hl:n≤1099511627776):laws_heldRgbS.f k ((List.range' 0 n).map (mRgb a)) a=some (a+3 * n):=by
  unfold laws_heldRgbS.f
  have hlen:=made_length (mRgb a) n
  have:=loop_all (F:=fun k i=>laws_heldRgbS.l0 k ((List.range' 0 n).map (mRgb a)) (a+3 * i) i) (n:=n) (K:=0) (p:=fun _=>true) (c:=a+3 * n) (e:=a+3 * n) ?_ ?_ n 0 k (by omega) (by omega)
  · refine Eq.trans ?_ (this.trans (by split <;> rfl))
    simp
  · intro k i hk hi
    simp only [laws_heldRgbS.l0]
    have e:rd_T95 ((List.range' 0 n).map (mRgb a)) (i:Int)=mRgb a i:=by unfold rd_T95;rw [Int.toNat_natCast,getD_made _ _ hi]
    have w1:wrap64 (a+3 * (i:Int)+1)=a+3 * (i:Int)+1:=w64 (by omega) (by omega)
    have w2:wrap64 (a+3 * (i:Int)+1+1)=a+3 * (i:Int)+2:=by rw [w64 (by omega) (by omega)];omega
    have w3:wrap64 (a+3 * (i:Int)+2+1)=a+3 * ((i:Int)+1):=by rw [w64 (by omega) (by omega)];omega
    rw [e,hlen,if_pos (by omega),if_pos (by omega),w1,w2,w3,w64 (x:=(i:Int)+1) (by omega) (by omega)]
    unfold mRgb
    rw [if_pos rfl,if_pos rfl,if_pos rfl]
    rfl
  · intro k hk
    simp only [laws_heldRgbS.l0]
    rw [hlen,if_neg (by omega)]
/-! ### numbers -/
def mInt (a:Int) (i:Nat):Int:=a+i
theorem markInts (l:List Int) {a:Int} (h0:0≤a) (h1:a≤1125899906842624) {k:Nat} (hk:l.length+1≤k) (hl:l.length≤1099511627776):
    laws_markIntS.f k l a=some (a+l.length,(List.range' 0 l.length).map (mInt a)):=by
  unfold laws_markIntS.f
  have:=fill_loop (F:=fun k acc i=>laws_markIntS.l0 k acc (a+i) i) (n:=l.length) (K:=0) (wr:=mInt a) (out:=fun acc=>some (a+l.length,acc)) ?_ ?_ l.length 0 k l rfl (by omega) (by omega)
  · refine Eq.trans ?_ this
    simp
  · intro k i acc hk hi ha
    simp only [laws_markIntS.l0]
    have w1:wrap64 (a+(i:Int)+1)=a+((i:Int)+1):=by rw [w64 (by omega) (by omega)];omega
    rw [if_pos (by omega),if_pos (by omega),Int.toNat_natCast,w1,w64 (x:=(i:Int)+1) (by omega) (by omega)]
    rfl
  · intro k acc ha
    simp only [laws_markIntS.l0]
    rw [if_neg (by omega)]
theorem heldInts {n:Nat} {a:Int} (h0:0≤a) (h1:a≤1125899906842624) {k:Nat} (hk:n+1≤k) (hl:n≤1099511627776):laws_heldIntS.f k ((List.range' 0 n).map (mInt a)) a=some (a+n):=by
  unfold laws_heldIntS.f
  have hlen:=made_length (mInt a) n
  have:=loop_all (F:=fun k i=>laws_heldIntS.l0 k ((List.range' 0 n).map (mInt a)) (a+i) i) (n:=n) (K:=0) (p:=fun _=>true) (c:=a+n) (e:=a+n) ?_ ?_ n 0 k (by omega) (by omega)
  · refine Eq.trans ?_ (this.trans (by split <;> rfl))
    simp
  · intro k i hk hi
    simp only [laws_heldIntS.l0]
    have e:rd ((List.range' 0 n).map (mInt a)) (i:Int)=mInt a i:=by unfold rd;rw [Int.toNat_natCast,getD_made _ _ hi]
    have w1:wrap64 (a+(i:Int)+1)=a+((i:Int)+1):=by rw [w64 (by omega) (by omega)];omega
    rw [e,hlen,if_pos (by omega),if_pos (by omega),if_pos (show mInt a i=a+(i:Int) from rfl),w1,w64 (x:=(i:Int)+1) (by omega) (by omega)]
    rfl
  · intro k hk
    simp only [laws_heldIntS.l0]
    rw [hlen,if_neg (by omega)]
/-! ### chunks -/
def mChunk (a:Int) (i:Nat):S83:=⟨mtext (a+2 * i),mtext (a+2 * i+1)⟩
theorem markChunks (l:List S83) {a:Int} (h0:0≤a) (h1:a≤1125899906842624) {k:Nat} (hk:l.length+40≤k) (hl:l.length≤1099511627776):
    laws_markChunkS.f k l a=some (a+2 * l.length,(List.range' 0 l.length).map (mChunk a)):=by
  unfold laws_markChunkS.f
  have:=fill_loop (F:=fun k acc i=>laws_markChunkS.l0 k acc (a+2 * i) i) (n:=l.length) (K:=32) (wr:=mChunk a) (out:=fun acc=>some (a+2 * l.length,acc)) ?_ ?_ l.length 0 k l rfl (by omega) (by omega)
  · refine Eq.trans ?_ this
    simp
  · intro k i acc hk hi ha
    simp only [laws_markChunkS.l0]
    have e1:∀ v:S83,rd_T83 (acc.set i v) (i:Int)=v:=fun v=>by unfold rd_T83;rw [Int.toNat_natCast,getD_set _ _ _ (by omega)]
    have w1:wrap64 (a+2 * (i:Int)+1)=a+2 * (i:Int)+1:=w64 (by omega) (by omega)
    have w2:wrap64 (a+2 * (i:Int)+1+1)=a+2 * ((i:Int)+1):=by rw [w64 (by omega) (by omega)];omega
    rw [if_pos (by omega),mtext_eq (by omega) (by omega) (by omega),some_bind,if_pos (by omega),some_bind,w1,w2,mtext_eq (by omega) (by omega) (by omega),some_bind,Int.toNat_natCast,w64 (x:=(i:Int)+1) (by omega) (by omega)]
    simp only [e1,List.set_set]
    rfl
  · intro k acc ha
    simp only [laws_markChunkS.l0]
    rw [if_neg (by omega)]
theorem heldChunks {n:Nat} {a:Int} (h0:0≤a) (h1:a≤1125899906842624) {k:Nat} (hk:n+40≤k) (hl:n≤1099511627776):laws_heldChunkS.f k ((List.range' 0 n).map (mChunk a)) a=some (a+2 * n):=by
  unfold laws_heldChunkS.f
  have hlen:=made_length (mChunk a) n
  have:=loop_all (F:=fun k i=>laws_heldChunkS.l0 k ((List.range' 0 n).map (mChunk a)) (a+2 * i) i) (n:=n) (K:=32) (p:=fun _=>true) (c:=a+2 * n) (e:=a+2 * n) ?_ ?_ n 0 k (by omega) (by omega)
  · refine Eq.trans ?_ (this.trans (by split <;> rfl))
    simp
  · intro k i hk hi
    simp only [laws_heldChunkS.l0]
    have e:rd_T83 ((List.range' 0 n).map (mChunk a)) (i:Int)=mChunk a i:=by unfold rd_T83;rw [Int.toNat_natCast,getD_made _ _ hi]
    have w1:wrap64 (a+2 * (i:Int)+1)=a+2 * (i:Int)+1:=w64 (by omega) (by omega)
    have w2:wrap64 (a+2 * (i:Int)+1+1)=a+2 * ((i:Int)+1):=by rw [w64 (by omega) (by omega)];omega
    rw [e,hlen,if_pos (by omega),if_pos (by omega),mtext_eq (by omega) (by omega) (by omega),some_bind,w1,w2,w64 (x:=(i:Int)+1) (by omega) (by omega)]
    unfold mChunk
    rw [if_pos rfl,mtext_eq (by omega) (by omega) (by omega),some_bind,if_pos rfl]
    rfl
  · intro k hk
    simp only [laws_heldChunkS.l0]
    rw [hlen,if_neg (by omega)]
/-! ### a picture -/
theorem markPic (p:Pic) {k:Nat} (hk:rounds p≤k) (hs:small40 p):∃ (m:Int) (tb:List S95) (cl sm:List Int) (kp:List S83),laws_markPng.f k p.w p.h p.d p.c p.lace p.tb p.cl p.rw p.rh p.rc p.rd p.sm p.kp 1=some (m,tb,cl,sm,kp)∧0≤m ∧
    laws_heldPng.f k p.w p.h p.d p.c p.lace tb cl p.rw p.rh p.rc p.rd sm kp 1=some m:=by
  unfold rounds at hk
  obtain ⟨s1,s2,s3,s4⟩:=hs
  have a1:=markRgbs p.tb (a:=1) (k:=k) (by decide) (by decide) (by omega) s1
  have a2:=markInts p.cl (a:=1+3 * p.tb.length) (k:=k) (by omega) (by omega) (by omega) s2
  have a3:=markInts p.sm (a:=1+3 * p.tb.length+p.cl.length) (k:=k) (by omega) (by omega) (by omega) s3
  have a4:=markChunks p.kp (a:=1+3 * p.tb.length+p.cl.length+p.sm.length) (k:=k) (by omega) (by omega) (by omega) s4
  have b1:=heldRgbs (n:=p.tb.length) (a:=1) (k:=k) (by decide) (by decide) (by omega) s1
  have b2:=heldInts (n:=p.cl.length) (a:=1+3 * p.tb.length) (k:=k) (by omega) (by omega) (by omega) s2
  have b3:=heldInts (n:=p.sm.length) (a:=1+3 * p.tb.length+p.cl.length) (k:=k) (by omega) (by omega) (by omega) s3
  have b4:=heldChunks (n:=p.kp.length) (a:=1+3 * p.tb.length+p.cl.length+p.sm.length) (k:=k) (by omega) (by omega) (by omega) s4
  refine ⟨1+3 * p.tb.length+p.cl.length+p.sm.length+2 * p.kp.length,(List.range' 0 p.tb.length).map (mRgb 1),(List.range' 0 p.cl.length).map (mInt (1+3 * p.tb.length)),(List.range' 0 p.sm.length).map (mInt (1+3 * p.tb.length+p.cl.length)),(List.range' 0 p.kp.length).map (mChunk (1+3 * p.tb.length+p.cl.length+p.sm.length)),?_,by omega,?_⟩
  · unfold laws_markPng.f laws_markRaster.f
    simp only [a1,a2,a3,a4,some_bind]
  · unfold laws_heldPng.f laws_heldRaster.f
    rw [b1,some_bind,if_neg (by omega),b2,some_bind,if_neg (by omega),b3,some_bind,if_neg (by omega),some_bind,if_neg (by omega),b4,some_bind,if_neg (by omega)]
end Go.Proofs.Ytjpfhldklbgdcaa.Pl
