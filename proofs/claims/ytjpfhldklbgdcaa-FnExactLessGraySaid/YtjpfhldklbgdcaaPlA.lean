/- Plain laws on the printed functions of pictures, first part: loops that look at each element, names, depths, channels, powers. Conditions stand at each. -/
import Derived.Test.YtjpfhldklbgdcaaLdx1
import Derived.Test.YtjpfhldklbgdcaaLdx2
import Derived.Test.YtjpfhldklbgdcaaLdx3
import Derived.Test.YtjpfhldklbgdcaaLdx4
import Derived.Test.YtjpfhldklbgdcaaLdx5
import Derived.Test.YtjpfhldklbgdcaaLdx6
import Derived.Test.YtjpfhldklbgdcaaLdx7
import Derived.Test.YtjpfhldklbgdcaaLdx8
import Derived.Test.YtjpfhldklbgdcaaLdx9
import Derived.Test.YtjpfhldklbgdcaaLdx10
import Derived.Test.YtjpfhldklbgdcaaLdx11
import Derived.Test.YtjpfhldklbgdcaaLdx12
import Derived.Test.YtjpfhldklbgdcaaLdx13
import Derived.Test.YtjpfhldklbgdcaaLdx14
import Derived.Test.YtjpfhldklbgdcaaLdx15
import Derived.Test.YtjpfhldklbgdcaaLdx16
import Derived.Test.YtjpfhldklbgdcaaLdx17
import Derived.Test.YtjpfhldklbgdcaaLdx18
import Derived.Test.YtjpfhldklbgdcaaLdx19
namespace Go.Proofs.Ytjpfhldklbgdcaa.Pl
open Go.RowKit Go.Proofs.Ytjpfhldklbgdcaa.Ld Go.Proofs.YtjpfhldklbgdcaaW.PrintWords Go.Proofs.YtjpfhldklbgdcaaW.PrintLast Go.Proofs.YtjpfhldklbgdcaaW.PrintMore

theorem w64 {x:Int} (h0:-9223372036854775808≤x) (h1:x≤9223372036854775807):wrap64 x=x:=by unfold wrap64;omega

/-- A loop that goes on while each element is as it should be, and else tells c; at its end it tells e. -/
theorem loop_all {α:Type} {F:Nat→Int→Option α} {n K:Nat} {p:Nat→Bool} {c e:α}
    (hstep:∀ k i:Nat,K≤k→i < n→F (k+1) i=if p i=true then F k ((i:Int)+1) else some c)
    (hstop:∀ k:Nat,K≤k→F (k+1) n=some e):∀ d i k:Nat,i+d=n→K+d+1≤k→F k i=some (if (List.range' i d).all p=true then e else c):=by
  intro d
  induction d with
  | zero =>
    intro i k hi hk
    obtain ⟨k,rfl⟩:∃ m,k=m+1:=⟨k - 1,by omega⟩
    obtain rfl:i=n:=by omega
    rw [hstop k (by omega)]
    rfl
  | succ d ih =>
    intro i k hi hk
    obtain ⟨k,rfl⟩:∃ m,k=m+1:=⟨k - 1,by omega⟩
    rw [hstep k i (by omega) (by omega),List.range'_succ,List.all_cons]
    cases hp:p i with
    | false=>simp
    | true =>
      have:=ih (i+1) k (by omega) (by omega)
      rw [Int.natCast_add,Int.natCast_one] at this
      simp only [if_true,Bool.true_and]
      exact this

theorem all_eq {n:Nat} {p q:Nat→Bool} (h:∀ i,i < n→p i=q i):(List.range' 0 n).all p=(List.range' 0 n).all q:=by
  rw [Bool.eq_iff_iff,List.all_eq_true,List.all_eq_true]
  constructor
  · intro hp i hi
    have h1:i < n:=by have:=List.mem_range'_1.1 hi;omega
    rw [← h i h1];exact hp i hi
  · intro hp i hi
    have h1:i < n:=by have:=List.mem_range'_1.1 hi;omega
    rw [h i h1];exact hp i hi

/-! ### ranges, letters, names -/
theorem in_spec (a b c:Int):spec_l01In.f a b c=some (decide (b≤a) && decide (a≤c)):=by
  unfold spec_l01In.f
  by_cases h:a≥b
  · rw [if_pos h];simp [show b≤a from h]
  · rw [if_neg h];simp [show ¬ b≤a from h]
theorem in_impl (a b c:Int):impl_within.f a b c=some (decide (b≤a) && decide (a≤c)):=by
  unfold impl_within.f
  by_cases h:a≥b
  · rw [if_pos h];simp [show b≤a from h]
  · rw [if_neg h];simp [show ¬ b≤a from h]
theorem bt_lo (s:ByteArray) (i:Int):0≤bt s i:=by unfold bt;split <;> omega
theorem bt_hi (s:ByteArray) (i:Int):bt s i≤255:=by
  unfold bt
  split
  · have:=(s[i.toNat]).toNat_lt;omega
  · omega
def great (x:Int):Bool:=decide (65≤x) && decide (x≤90)
def small (x:Int):Bool:=decide (97≤x) && decide (x≤122)
theorem letter (x:Int):spec_l16Letter.f x=some (great x || small x):=by
  unfold spec_l16Letter.f great small
  by_cases h1:x≥65
  · rw [if_pos h1]
    by_cases h2:x≤90
    · rw [if_pos h2];simp [show (65:Int)≤x from h1,h2]
    · rw [if_neg h2]
      by_cases h3:x≥97
      · rw [if_pos h3];simp [h2,show (97:Int)≤x from h3]
      · rw [if_neg h3];simp [h2,show ¬ (97:Int)≤x from h3]
  · rw [if_neg h1,if_neg (by omega)]
    simp [show ¬ (65:Int)≤x from h1,show ¬ (97:Int)≤x by omega]
def name (s:ByteArray):Bool:=decide (s.size=4) && ((great (bt s 0) || small (bt s 0)) && ((great (bt s 1) || small (bt s 1)) && ((great (bt s 2) || small (bt s 2)) && ((great (bt s 3) || small (bt s 3)) && decide (bt s 2≤90)))))
theorem name_spec (s:ByteArray):spec_NameOk.f s=some (name s):=by
  unfold spec_NameOk.f name
  by_cases h:s.size=4
  · rw [if_pos (by omega),if_pos (by omega),letter,letter,letter,letter]
    simp only [Option.bind_some]
    cases great (bt s 0) || small (bt s 0)
    · simp
    · rw [if_pos rfl,if_pos (by omega)]
      cases great (bt s 1) || small (bt s 1)
      · simp
      · rw [if_pos rfl,if_pos (by omega)]
        cases great (bt s 2) || small (bt s 2)
        · simp
        · rw [if_pos rfl,if_pos (by omega)]
          cases great (bt s 3) || small (bt s 3) <;> simp [h]
  · rw [if_neg (by omega)];simp [h]
def safe (s:ByteArray):Bool:=name s && decide (97≤bt s 3)
def needless (s:ByteArray):Bool:=name s && decide (97≤bt s 0)
theorem safe_spec (s:ByteArray):spec_SafeToCopy.f s=some (safe s):=by
  unfold spec_SafeToCopy.f safe
  rw [name_spec]
  cases hn:name s with
  | false=>simp
  | true =>
    have h4:s.size=4:=by unfold name at hn;simp at hn;exact hn.1
    simp only [Option.bind_some,if_true]
    rw [if_pos (by omega)];simp
theorem needless_spec (s:ByteArray):spec_Needless.f s=some (needless s):=by
  unfold spec_Needless.f needless
  rw [name_spec]
  cases hn:name s with
  | false=>simp
  | true =>
    have h4:s.size=4:=by unfold name at hn;simp at hn;exact hn.1
    simp only [Option.bind_some,if_true]
    rw [if_pos (by omega)];simp

theorem some_bind {α β:Type} (a:α) (f:α→Option β):(some a).bind f=f a:=rfl
def depthOk (c d:Int):Bool:=if c=0 then decide (d=1∨d=2∨d=4∨d=8∨d=16) else if c=3 then decide (d=1∨d=2∨d=4∨d=8) else if c=2∨c=4∨c=6 then decide (d=8∨d=16) else false
theorem depth_spec {k:Nat} (hk:1≤k) (c d:Int):spec_DepthOk.f k c d=some (depthOk c d):=by
  obtain ⟨k,rfl⟩:∃ m,k=m+1:=⟨k - 1,by omega⟩
  unfold spec_DepthOk.f depthOk
  simp only [spec_DepthOk.j0]
  by_cases d1:d=1
  · subst d1
    by_cases c0:c=0 <;> by_cases c3:c=3 <;> by_cases c2:c=2 <;> by_cases c4:c=4 <;> by_cases c6:c=6 <;> simp_all
  · by_cases d2:d=2
    · subst d2
      by_cases c0:c=0 <;> by_cases c3:c=3 <;> by_cases c2:c=2 <;> by_cases c4:c=4 <;> by_cases c6:c=6 <;> simp_all
    · rw [if_neg d1,if_neg d2]
      by_cases d4:d=4
      · subst d4
        by_cases c0:c=0 <;> by_cases c3:c=3 <;> by_cases c2:c=2 <;> by_cases c4:c=4 <;> by_cases c6:c=6 <;> simp_all
      · have e4:(d == 4)=false:=beq_eq_false_iff_ne.2 d4
        rw [e4]
        by_cases d8:d=8
        · subst d8
          by_cases c0:c=0 <;> by_cases c3:c=3 <;> by_cases c2:c=2 <;> by_cases c4:c=4 <;> by_cases c6:c=6 <;> simp_all
        · have e16:(d == 16)=decide (d=16):=by rw [Bool.eq_iff_iff];simp
          by_cases c0:c=0 <;> by_cases c3:c=3 <;> by_cases c2:c=2 <;> by_cases c4:c=4 <;> by_cases c6:c=6 <;> simp_all
def chan (c:Int):Int:=if c=0∨c=3 then 1 else if c=2 then 3 else if c=4 then 2 else if c=6 then 4 else 0
theorem chan_spec {k:Nat} (hk:1≤k) (c:Int):spec_ChannelsOf.f k c=some (chan c):=by
  obtain ⟨k,rfl⟩:∃ m,k=m+1:=⟨k - 1,by omega⟩
  unfold spec_ChannelsOf.f chan
  simp only [spec_ChannelsOf.j0]
  by_cases c0:c=0 <;> by_cases c3:c=3 <;> by_cases c2:c=2 <;> by_cases c4:c=4 <;> by_cases c6:c=6 <;> simp_all
theorem chan_hi (c:Int):0≤chan c∧chan c≤4:=by
  unfold chan
  repeat' split
  all_goals omega
def side (x:Int):Bool:=decide (1≤x) && decide (x≤24)
theorem side_spec (x:Int):spec_l12Side.f x=some (side x):=by unfold spec_l12Side.f side;rw [in_spec];rfl
def headOk (w h d c:Int):Bool:=side w && (side h && depthOk c d)
theorem head_spec {k:Nat} (hk:1≤k) (w h d c:Int) (l:Bool):spec_HeadOk.f k w h d c l=some (headOk w h d c):=by
  unfold spec_HeadOk.f headOk
  rw [side_spec,some_bind]
  cases side w with
  | false=>rfl
  | true =>
    rw [if_pos rfl,side_spec,some_bind]
    cases side h with
    | false=>rfl
    | true=>rw [if_pos rfl,depth_spec hk];rfl
theorem pow_mono {m n:Nat} (h:m≤n):(2:Int) ^ m≤2 ^ n:=by
  have:=Nat.pow_le_pow_right (n:=2) (by decide) h
  have e:∀ j:Nat,((2 ^ j:Nat):Int)=(2:Int) ^ j:=fun j=>by simp
  rw [← e,← e]
  exact Int.ofNat_le.2 this
/-- The powers of two that the reference reckons. -/
theorem pow_loop (n:Nat) (hn:n≤62):∀ d i k:Nat,i+d=n→d+1≤k→spec_l01Pow.l0 k n (2 ^ i) i=some (2 ^ n):=by
  intro d
  induction d with
  | zero =>
    intro i k hi hk
    obtain ⟨k,rfl⟩:∃ m,k=m+1:=⟨k - 1,by omega⟩
    obtain rfl:i=n:=by omega
    simp only [spec_l01Pow.l0]
    rw [if_neg (by omega)]
  | succ d ih =>
    intro i k hi hk
    obtain ⟨k,rfl⟩:∃ m,k=m+1:=⟨k - 1,by omega⟩
    simp only [spec_l01Pow.l0]
    rw [if_pos (by omega)]
    have hp:(2:Int) ^ (i+1)=2 * 2 ^ i:=by rw [Int.pow_succ,Int.mul_comm]
    have hle:(2:Int) ^ (i+1)≤2 ^ 62:=pow_mono (by omega)
    have hpos:(0:Int) < 2 ^ i:=Int.pow_pos (by decide)
    rw [w64 (by omega) (by rw [← hp];exact Int.le_trans hle (by decide)),w64 (by omega) (by omega),← hp]
    have:=ih (i+1) k (by omega) (by omega)
    rw [Int.natCast_add,Int.natCast_one] at this
    exact this
theorem pow_spec {k n:Nat} (hn:n≤62) (hk:n+1≤k):spec_l01Pow.f k n=some (2 ^ n):=by
  unfold spec_l01Pow.f
  exact pow_loop n hn n 0 k (by omega) hk
/-- A list's numbers, each in 0 .. b. -/
def within (l:List Int) (b:Int):Bool:=l.all fun x=>decide (0≤x) && decide (x≤b)
theorem rd_all {l:List Int} {q:Int→Bool}:(List.range' 0 l.length).all (fun i=>q (rd l i))=l.all q:=by
  rw [Bool.eq_iff_iff,List.all_eq_true,List.all_eq_true]
  constructor
  · intro h x hx
    obtain ⟨i,hi,rfl⟩:=List.getElem_of_mem hx
    have:=h i (List.mem_range'_1.2 (by omega))
    unfold rd at this
    rw [Int.toNat_natCast,List.getD_eq_getElem?_getD,List.getElem?_eq_getElem hi] at this
    exact this
  · intro h i hi
    have hl:i < l.length:=by have:=List.mem_range'_1.1 hi;omega
    unfold rd
    rw [Int.toNat_natCast,List.getD_eq_getElem?_getD,List.getElem?_eq_getElem hl]
    exact h _ (List.getElem_mem hl)
def rasterOk (w h c d:Int) (l:List Int):Bool:=side w && (side h && (depthOk c d && (decide ((l.length:Int)=w * h * chan c) && within l (2 ^ d.toNat - 1))))
theorem depth_range {c d:Int} (h:depthOk c d=true):1≤d∧d≤16:=by
  unfold depthOk at h
  by_cases c0:c=0
  · rw [if_pos c0] at h;have:=of_decide_eq_true h;omega
  · rw [if_neg c0] at h
    by_cases c3:c=3
    · rw [if_pos c3] at h;have:=of_decide_eq_true h;omega
    · rw [if_neg c3] at h
      by_cases c2:c=2∨c=4∨c=6
      · rw [if_pos c2] at h;have:=of_decide_eq_true h;omega
      · rw [if_neg c2] at h;exact absurd h (by decide)
theorem pow_hi {n:Nat} (hn:n≤16):(1:Int)≤2 ^ n∧(2:Int) ^ n≤65536:=by
  have h1:(0:Int) < 2 ^ n:=Int.pow_pos (by decide)
  have h2:(2:Int) ^ n≤2 ^ 16:=pow_mono hn
  exact ⟨by omega,by simpa using h2⟩
theorem raster_loop {w h c d:Int} {l:List Int} (hd:1≤d∧d≤16) {k:Nat} (hk:l.length+20≤k) (hl:l.length≤4611686018427387904):spec_RasterOk.l0 k 0 w h c d l=some (within l (2 ^ d.toNat - 1)):=by
  have hp:=pow_hi (n:=d.toNat) (by omega)
  have:=loop_all (F:=fun k i=>spec_RasterOk.l0 k i w h c d l) (n:=l.length) (K:=18) (p:=fun i=>decide (0≤rd l i) && decide (rd l i≤2 ^ d.toNat - 1)) (c:=false) (e:=true) ?_ ?_ l.length 0 k (by omega) (by omega)
  · refine Eq.trans this ?_
    rw [rd_all (q:=fun x=>decide (0≤x) && decide (x≤2 ^ d.toNat - 1))]
    unfold within
    cases l.all _ <;> rfl
  · intro k i hk hi
    simp only [spec_RasterOk.l0]
    have e:spec_l01Pow.f k d=some (2 ^ d.toNat):=by
      have:=pow_spec (k:=k) (n:=d.toNat) (by omega) (by omega)
      rwa [Int.toNat_of_nonneg (by omega)] at this
    rw [if_pos (by omega),if_pos (by omega),e,some_bind,in_spec,some_bind,w64 (by omega) (by omega),w64 (by omega) (by omega)]
  · intro k hk
    simp only [spec_RasterOk.l0]
    rw [if_neg (by omega)]
theorem raster_spec (w h c d:Int) (l:List Int) {k:Nat} (hk:l.length+30≤k) (hl:l.length≤4611686018427387904):spec_RasterOk.f k w h c d l=some (rasterOk w h c d l):=by
  have nope:spec_RasterOk.j0 k true w h c d l=some false:=by
    obtain ⟨k,rfl⟩:∃ m,k=m+1:=⟨k - 1,by omega⟩
    simp only [spec_RasterOk.j0,if_true]
  unfold spec_RasterOk.f rasterOk
  rw [side_spec,some_bind]
  cases hw:side w with
  | false=>exact nope
  | true =>
    rw [if_pos rfl,side_spec,some_bind]
    cases hh:side h with
    | false=>exact nope
    | true =>
      rw [if_pos rfl,depth_spec (by omega),some_bind]
      cases hd:depthOk c d with
      | false=>exact nope
      | true =>
        have hr:=depth_range hd
        have hc:=chan_hi c
        have hwr:1≤w∧w≤24:=by unfold side at hw;simpa using hw
        have hhr:1≤h∧h≤24:=by unfold side at hh;simpa using hh
        have hm:0≤w * h∧w * h≤576:=⟨Int.mul_nonneg (by omega) (by omega),Int.le_trans (Int.mul_le_mul hwr.2 hhr.2 (by omega) (by omega)) (by decide)⟩
        have hm2:0≤w * h * chan c∧w * h * chan c≤2304:=⟨Int.mul_nonneg hm.1 hc.1,Int.le_trans (Int.mul_le_mul hm.2 hc.2 hc.1 (by omega)) (by decide)⟩
        rw [if_pos rfl,chan_spec (by omega),some_bind,w64 (x:=w * h) (by omega) (by omega),w64 (by omega) (by omega)]
        obtain ⟨k,rfl⟩:∃ m,k=m+1:=⟨k - 1,by omega⟩
        simp only [spec_RasterOk.j0,bne_iff_ne,ne_eq,ite_not]
        by_cases e:(l.length:Int)=w * h * chan c
        · rw [if_pos e,raster_loop hr (by omega) hl];simp [e]
        · rw [if_neg e];simp [e]

/-- A picture. -/
structure Pic where
  w:Int
  h:Int
  d:Int
  c:Int
  lace:Bool
  tb:List S95
  cl:List Int
  rw:Int
  rh:Int
  rc:Int
  rd:Int
  sm:List Int
  kp:List S83
theorem getD_all {α:Type} (z:α) {l:List α} {q:α→Bool}:(List.range' 0 l.length).all (fun i=>q (l.getD i z))=l.all q:=by
  rw [Bool.eq_iff_iff,List.all_eq_true,List.all_eq_true]
  constructor
  · intro h x hx
    obtain ⟨i,hi,rfl⟩:=List.getElem_of_mem hx
    have:=h i (List.mem_range'_1.2 (by omega))
    rwa [List.getD_eq_getElem?_getD,List.getElem?_eq_getElem hi] at this
  · intro h i hi
    have hl:i < l.length:=by have:=List.mem_range'_1.1 hi;omega
    rw [List.getD_eq_getElem?_getD,List.getElem?_eq_getElem hl]
    exact h _ (List.getElem_mem hl)
def depth16 (d:Int):Int:=if 0≤d∧d≤16 then d else 0
theorem depth16_range (d:Int):0≤depth16 d∧depth16 d≤16:=by unfold depth16;split <;> omega
theorem depth16_spec (w h d c:Int) (l:Bool):spec_l17Depth.f w h d c l=some (depth16 d):=by
  unfold spec_l17Depth.f depth16
  rw [in_spec,some_bind]
  by_cases h1:0≤d <;> by_cases h2:d≤16 <;> simp [h1,h2]
theorem pow_int {k:Nat} {d:Int} (h0:0≤d) (h1:d≤16) (hk:18≤k):spec_l01Pow.f k d=some (2 ^ d.toNat):=by
  have:=pow_spec (k:=k) (n:=d.toNat) (by omega) (by omega)
  rwa [Int.toNat_of_nonneg h0] at this
theorem clear_loop {l:List Int} {b e:Int} {k:Nat} (hk:l.length+2≤k) (hl:l.length≤4611686018427387904):spec_ClearOk.l0 k l b e 0=some (within l b && ((l.length:Int) == e)):=by
  have:=loop_all (F:=fun k i=>spec_ClearOk.l0 k l b e i) (n:=l.length) (K:=0) (p:=fun i=>decide (0≤rd l i) && decide (rd l i≤b)) (c:=false) (e:=((l.length:Int) == e)) ?_ ?_ l.length 0 k (by omega) (by omega)
  · refine Eq.trans this ?_
    rw [rd_all (q:=fun x=>decide (0≤x) && decide (x≤b))]
    unfold within
    cases l.all _ <;> simp
  · intro k i hk hi
    simp only [spec_ClearOk.l0]
    rw [if_pos (by omega),if_pos (by omega),in_spec,some_bind,w64 (by omega) (by omega)]
  · intro k hk
    simp only [spec_ClearOk.l0]
    rw [if_neg (by omega)]
def clearOk (d c n:Int) (l:List Int):Bool:=if l.length=0 then (if c=3 then decide (0≤n) else true) else if c=0 then decide (l.length=1) && within l (2 ^ (depth16 d).toNat - 1) else if c=2 then decide (l.length=3) && within l (2 ^ (depth16 d).toNat - 1)
  else if c=3 then decide ((l.length:Int)≤n) && within l 255 else false
theorem clear_j {l:List Int} {b e:Int} {k:Nat} (hk:l.length+3≤k) (hl:l.length≤4611686018427387904):spec_ClearOk.j0 k l b e=some (if l.length=0 then true else within l b && ((l.length:Int) == e)):=by
  obtain ⟨k,rfl⟩:∃ m,k=m+1:=⟨k - 1,by omega⟩
  simp only [spec_ClearOk.j0]
  by_cases h0:l.length=0
  · rw [if_pos (by omega),if_pos h0]
  · rw [if_neg (by omega),if_neg h0,clear_loop (by omega) hl]
theorem clear_spec (w h d c:Int) (la:Bool) (n:Int) (l:List Int) {k:Nat} (hk:l.length+30≤k) (hl:l.length≤4611686018427387904):spec_ClearOk.f k w h d c la n l=some (clearOk d c n l):=by
  have hr:=depth16_range d
  have hp:=pow_hi (n:=(depth16 d).toNat) (by omega)
  have hb:wrap64 ((2:Int) ^ (depth16 d).toNat - 1)=(2:Int) ^ (depth16 d).toNat - 1:=w64 (by omega) (by omega)
  unfold spec_ClearOk.f clearOk
  by_cases c0:c=0
  · rw [if_pos c0,depth16_spec,some_bind,pow_int hr.1 hr.2 (by omega),some_bind,hb,clear_j (by omega) hl]
    by_cases h0:l.length=0
    · simp [h0,c0]
    · have e1:((l.length:Int) == 1)=decide (l.length=1):=by rw [Bool.eq_iff_iff];simp;omega
      rw [if_neg h0,if_neg h0,if_pos c0,e1,Bool.and_comm]
  · rw [if_neg c0]
    by_cases c2:c=2
    · rw [if_pos c2,depth16_spec,some_bind,pow_int hr.1 hr.2 (by omega),some_bind,hb,clear_j (by omega) hl]
      by_cases h0:l.length=0
      · simp [h0,c2]
      · have e1:((l.length:Int) == 3)=decide (l.length=3):=by rw [Bool.eq_iff_iff];simp;omega
        rw [if_neg h0,if_neg h0,if_neg c0,if_pos c2,e1,Bool.and_comm]
    · rw [if_neg c2]
      by_cases c3:c=3
      · rw [if_pos c3]
        by_cases hn:(l.length:Int) > n
        · rw [if_pos hn]
          by_cases h0:l.length=0
          · rw [if_pos h0,if_pos c3,decide_eq_false (by omega)]
          · rw [if_neg h0,if_neg c0,if_neg c2,if_pos c3,decide_eq_false (by omega)];rfl
        · rw [if_neg hn,clear_j (by omega) hl]
          by_cases h0:l.length=0
          · rw [if_pos h0,if_pos h0,if_pos c3,decide_eq_true (by omega)]
          · rw [if_neg h0,if_neg h0,if_neg c0,if_neg c2,if_pos c3,decide_eq_true (by omega)];simp
      · rw [if_neg c3,clear_j (by omega) hl]
        by_cases h0:l.length=0
        · rw [if_pos h0,if_pos h0,if_neg c3]
        · have e1:((l.length:Int) == 0)=false:=by rw [beq_eq_false_iff_ne];omega
          rw [if_neg h0,if_neg h0,if_neg c0,if_neg c2,if_neg c3,e1,Bool.and_false]
def keptOne (x:S83):Bool:=needless x.f0 && (!(decide (x.f0.toList=[116,82,78,83])) && decide (x.f1.size≤2600))
def keptOk (l:List S83):Bool:=decide (l.length≤32) && l.all keptOne
theorem kept_spec (l:List S83) {k:Nat} (hk:l.length+2≤k):spec_l18Kept.f k l=some (keptOk l):=by
  unfold spec_l18Kept.f keptOk
  by_cases h32:(l.length:Int) > 32
  · rw [if_pos h32,decide_eq_false (by omega)];rfl
  · rw [if_neg h32,decide_eq_true (by omega),Bool.true_and]
    have:=loop_all (F:=fun k i=>spec_l18Kept.l0 k l i) (n:=l.length) (K:=0) (p:=fun i=>keptOne (l.getD i z83)) (c:=false) (e:=true) ?_ ?_ l.length 0 k (by omega) (by omega)
    · refine Eq.trans this ?_
      rw [getD_all z83]
      cases l.all _ <;> simp
    · intro k i hk hi
      simp only [spec_l18Kept.l0]
      have e:rd_T83 l (i:Int)=l.getD i z83:=by unfold rd_T83;rw [Int.toNat_natCast]
      rw [if_pos (by omega),if_pos (by omega),e,needless_spec,some_bind,w64 (by omega) (by omega)]
      unfold keptOne
      cases needless (l.getD i z83).f0 with
      | false=>rfl
      | true =>
        rw [if_pos rfl,Bool.true_and]
        by_cases ht:(l.getD i z83).f0.toList=[116,82,78,83]
        · rw [if_pos ht,decide_eq_true ht];rfl
        · rw [if_neg ht,decide_eq_false ht,Bool.not_false,Bool.true_and]
          by_cases hs:((l.getD i z83).f1.size:Int) > 2600
          · rw [if_pos hs,decide_eq_false (by omega)];rfl
          · rw [if_neg hs,decide_eq_true (by omega)];rfl
    · intro k hk
      simp only [spec_l18Kept.l0]
      rw [if_neg (by omega)]
def byte (x:Int):Bool:=decide (0≤x) && decide (x≤255)
theorem byte_spec (x:Int):spec_l17Byte.f x=some (byte x):=by unfold spec_l17Byte.f byte;rw [in_spec];rfl
def colour (x:S95):Bool:=byte x.f0 && (byte x.f1 && byte x.f2)
theorem table_loop {l:List S95} (hl:l.length≤256):∀ (d i k:Nat) (acc:List Int),i+d=l.length→d+1≤k→acc.length≤3 * i→∃ s,spec_TableText.l0 k l acc i=some (s,(l.drop i).all colour):=by
  intro d
  induction d with
  | zero =>
    intro i k acc hi hk ha
    obtain ⟨k,rfl⟩:∃ m,k=m+1:=⟨k - 1,by omega⟩
    simp only [spec_TableText.l0]
    rw [if_neg (by omega),List.drop_eq_nil_of_le (by omega)]
    exact ⟨_,rfl⟩
  | succ d ih =>
    intro i k acc hi hk ha
    obtain ⟨k,rfl⟩:∃ m,k=m+1:=⟨k - 1,by omega⟩
    simp only [spec_TableText.l0]
    have e:rd_T95 l (i:Int)=l[i]:=by unfold rd_T95;rw [Int.toNat_natCast,List.getD_eq_getElem?_getD,List.getElem?_eq_getElem (by omega)];rfl
    rw [if_pos (by omega),if_pos (by omega),e,List.drop_eq_getElem_cons (by omega),List.all_cons,byte_spec,some_bind,show colour l[i]=(byte l[i].f0 && (byte l[i].f1 && byte l[i].f2)) from rfl]
    cases byte l[i].f0 with
    | false=>exact ⟨_,rfl⟩
    | true =>
      rw [if_pos rfl,byte_spec,some_bind]
      cases byte l[i].f1 with
      | false=>exact ⟨_,rfl⟩
      | true =>
        rw [if_pos rfl,byte_spec,some_bind]
        cases byte l[i].f2 with
        | false=>exact ⟨_,rfl⟩
        | true =>
          rw [if_pos rfl,some_bind,if_pos (show acc.length+[l[i].f0 % 256,l[i].f1 % 256,l[i].f2 % 256].length < 140737488355328 from (show acc.length+3 < 140737488355328 by omega)),w64 (by omega) (by omega)]
          obtain ⟨s,hs⟩:=ih (i+1) k (acc++[l[i].f0 % 256,l[i].f1 % 256,l[i].f2 % 256]) (by omega) (by omega) (by rw [List.length_append];show acc.length+3≤3 * (i+1);omega)
          rw [Int.natCast_add,Int.natCast_one] at hs
          exact ⟨s,hs⟩
def tableOk (l:List S95):Bool:=decide (1≤(l.length:Int)) && decide ((l.length:Int)≤256) && l.all colour
theorem table_spec (l:List S95) {k:Nat} (hk:l.length+1≤k):∃ s,spec_TableText.f k l=some (s,tableOk l):=by
  unfold spec_TableText.f tableOk
  rw [in_spec,some_bind]
  cases h:decide (1≤(l.length:Int)) && decide ((l.length:Int)≤256) with
  | false=>exact ⟨_,rfl⟩
  | true =>
    rw [if_pos rfl]
    have hl:l.length≤256:=by simp at h;omega
    obtain ⟨s,hs⟩:=table_loop hl l.length 0 k [] (by omega) (by omega) (by simp)
    exact ⟨s,hs⟩

def indexOk (l:List Int) (n:Int):Bool:=l.all fun x=>decide (x < n)
def tablePart (p:Pic):Bool:=if p.c=3 then tableOk p.tb && (decide ((p.tb.length:Int)≤2 ^ p.d.toNat) && indexOk p.sm p.tb.length) else decide (p.tb.length=0)
def pngOk (p:Pic):Bool:=headOk p.w p.h p.d p.c && (rasterOk p.rw p.rh p.rc p.rd p.sm && (decide (p.rw=p.w) && (decide (p.rh=p.h) && (decide (p.rc=p.c) && (decide (p.rd=p.d) && (clearOk p.d p.c p.tb.length p.cl && (keptOk p.kp && tablePart p)))))))
/-- How many rounds a picture needs. -/
def rounds (p:Pic):Nat:=p.tb.length+p.cl.length+p.sm.length+p.kp.length+100
def small40 (p:Pic):Prop:=p.tb.length≤1099511627776∧p.cl.length≤1099511627776∧p.sm.length≤1099511627776∧p.kp.length≤1099511627776
theorem index_spec (p:Pic) {k:Nat} (hk:p.sm.length+2≤k) (hl:p.sm.length≤1099511627776):spec_PngOk.l0 k 0 p.w p.h p.d p.c p.lace p.tb p.cl p.rw p.rh p.rc p.rd p.sm p.kp=some (indexOk p.sm p.tb.length):=by
  have:=loop_all (F:=fun k i=>spec_PngOk.l0 k i p.w p.h p.d p.c p.lace p.tb p.cl p.rw p.rh p.rc p.rd p.sm p.kp) (n:=p.sm.length) (K:=0) (p:=fun i=>decide (rd p.sm i < p.tb.length)) (c:=false) (e:=true) ?_ ?_ p.sm.length 0 k (by omega) (by omega)
  · refine Eq.trans this ?_
    rw [rd_all (q:=fun x=>decide (x < p.tb.length))]
    unfold indexOk
    cases p.sm.all _ <;> rfl
  · intro k i hk hi
    simp only [spec_PngOk.l0]
    rw [if_pos (by omega),if_pos (by omega),w64 (by omega) (by omega)]
    by_cases h:rd p.sm i < p.tb.length
    · rw [if_neg (by omega),decide_eq_true h,if_pos rfl]
    · rw [if_pos (by omega),decide_eq_false h];rfl
  · intro k hk
    simp only [spec_PngOk.l0]
    rw [if_neg (by omega)]
theorem png_j2 (p:Pic) (b:Bool) {k:Nat} (hk:p.sm.length+3≤k) (hl:p.sm.length≤1099511627776):spec_PngOk.j2 k b p.w p.h p.d p.c p.lace p.tb p.cl p.rw p.rh p.rc p.rd p.sm p.kp=some (!b && indexOk p.sm p.tb.length):=by
  obtain ⟨k,rfl⟩:∃ m,k=m+1:=⟨k - 1,by omega⟩
  simp only [spec_PngOk.j2]
  cases b with
  | true=>rfl
  | false=>rw [if_neg (by decide),index_spec p (by omega) hl];rfl
theorem png_j1 (p:Pic) (b:Bool) {k:Nat} (hk:rounds p≤k+2) (hs:small40 p) (hd:1≤p.d∧p.d≤16):spec_PngOk.j1 k b p.w p.h p.d p.c p.lace p.tb p.cl p.rw p.rh p.rc p.rd p.sm p.kp=some (!b && tablePart p):=by
  unfold rounds at hk
  obtain ⟨k,rfl⟩:∃ m,k=m+1:=⟨k - 1,by omega⟩
  simp only [spec_PngOk.j1]
  cases b with
  | true=>rfl
  | false =>
    rw [if_neg (by decide),Bool.not_false,Bool.true_and]
    unfold tablePart
    by_cases c3:p.c=3
    · obtain ⟨s,hts⟩:=table_spec p.tb (k:=k) (by omega)
      rw [if_pos c3,if_pos c3,hts,some_bind]
      cases ht:tableOk p.tb with
      | false=>rw [if_neg (show ¬ (s,false).2=true from Bool.false_ne_true),png_j2 p _ (by omega) hs.2.2.1];rfl
      | true =>
        rw [if_pos rfl,pow_int (by omega) (by omega) (by omega),some_bind,png_j2 p _ (by omega) hs.2.2.1,Bool.true_and]
        congr 2
        rw [Bool.eq_iff_iff];simp
    · rw [if_neg c3,if_neg c3]
      congr 1
      rw [Bool.eq_iff_iff];simp
theorem png_j0 (p:Pic) (b:Bool) {k:Nat} (hk:rounds p≤k+1) (hs:small40 p) (hd:1≤p.d∧p.d≤16):spec_PngOk.j0 k b p.w p.h p.d p.c p.lace p.tb p.cl p.rw p.rh p.rc p.rd p.sm p.kp=some (!b && (clearOk p.d p.c p.tb.length p.cl && (keptOk p.kp && tablePart p))):=by
  have hk':=hk
  unfold rounds at hk
  obtain ⟨k,rfl⟩:∃ m,k=m+1:=⟨k - 1,by omega⟩
  simp only [spec_PngOk.j0]
  cases b with
  | true=>rfl
  | false =>
    rw [if_neg (by decide),Bool.not_false,Bool.true_and,clear_spec _ _ _ _ _ _ _ (by omega) (by have:=hs.2.1;omega),some_bind]
    cases clearOk p.d p.c p.tb.length p.cl with
    | false=>rw [if_neg (by decide),png_j1 p _ (by omega) hs hd];rfl
    | true=>rw [if_pos rfl,kept_spec _ (by omega),some_bind,png_j1 p _ (by omega) hs hd,Bool.not_not];rfl
theorem png_spec (p:Pic) {k:Nat} (hk:rounds p≤k) (hs:small40 p):spec_PngOk.f k p.w p.h p.d p.c p.lace p.tb p.cl p.rw p.rh p.rc p.rd p.sm p.kp=some (pngOk p):=by
  have hk':=hk
  unfold rounds at hk'
  unfold spec_PngOk.f pngOk
  rw [head_spec (by omega),some_bind]
  have dead:∀ b:Bool,b=true→spec_PngOk.j0 k b p.w p.h p.d p.c p.lace p.tb p.cl p.rw p.rh p.rc p.rd p.sm p.kp=some false:=by
    intro b hb
    obtain ⟨k,rfl⟩:∃ m,k=m+1:=⟨k - 1,by omega⟩
    simp only [spec_PngOk.j0]
    rw [if_pos hb]
  cases hh:headOk p.w p.h p.d p.c with
  | false=>exact dead true rfl
  | true =>
    have hd:1≤p.d∧p.d≤16:=by
      unfold headOk at hh
      simp only [Bool.and_eq_true] at hh
      exact depth_range hh.2.2
    rw [if_pos rfl,raster_spec _ _ _ _ _ (by omega) (by have:=hs.2.2.1;omega),some_bind]
    cases rasterOk p.rw p.rh p.rc p.rd p.sm with
    | false=>exact dead true rfl
    | true =>
      rw [if_pos rfl]
      by_cases h1:p.rw=p.w
      · rw [if_pos h1,decide_eq_true h1]
        by_cases h2:p.rh=p.h
        · rw [if_pos h2,decide_eq_true h2]
          by_cases h3:p.rc=p.c
          · rw [if_pos h3,decide_eq_true h3,png_j0 p _ (by omega) hs hd]
            congr 1
            by_cases h4:p.rd=p.d
            · simp [h4]
            · simp [h4]
          · rw [if_neg h3,decide_eq_false h3];exact dead true rfl
        · rw [if_neg h2,decide_eq_false h2];exact dead true rfl
      · rw [if_neg h1,decide_eq_false h1];exact dead true rfl
/-! ### Touchy -/
def plainOne (x:S83):Bool:=!(decide (x.f0.toList=[115,66,73,84])) && (!(decide (x.f0.toList=[98,75,71,68])) && (!(decide (x.f0.toList=[104,73,83,84])) && safe x.f0))
def touchy (l:List S83):Bool:=!(l.all plainOne)
theorem touchy_spec (p:Pic) {k:Nat} (hk:p.kp.length+2≤k) (hl:p.kp.length≤1099511627776):spec_Touchy.f k p.w p.h p.d p.c p.lace p.tb p.cl p.rw p.rh p.rc p.rd p.sm p.kp=some (touchy p.kp):=by
  unfold spec_Touchy.f touchy
  have:=loop_all (F:=fun k i=>spec_Touchy.l0 k i p.w p.h p.d p.c p.lace p.tb p.cl p.rw p.rh p.rc p.rd p.sm p.kp) (n:=p.kp.length) (K:=0) (p:=fun i=>plainOne (p.kp.getD i z83)) (c:=true) (e:=false) ?_ ?_ p.kp.length 0 k (by omega) (by omega)
  · refine Eq.trans this ?_
    rw [getD_all z83]
    cases p.kp.all _ <;> rfl
  · intro k i hk hi
    simp only [spec_Touchy.l0]
    have e:rd_T83 p.kp (i:Int)=p.kp.getD i z83:=by unfold rd_T83;rw [Int.toNat_natCast]
    rw [if_pos (by omega),if_pos (by omega),e,w64 (by omega) (by omega)]
    unfold plainOne
    by_cases h1:(p.kp.getD i z83).f0.toList=[115,66,73,84]
    · rw [if_pos h1,decide_eq_true h1];rfl
    · rw [if_neg h1,decide_eq_false h1]
      by_cases h2:(p.kp.getD i z83).f0.toList=[98,75,71,68]
      · rw [if_pos h2,decide_eq_true h2];rfl
      · rw [if_neg h2,decide_eq_false h2]
        by_cases h3:(p.kp.getD i z83).f0.toList=[104,73,83,84]
        · rw [if_pos h3,decide_eq_true h3];rfl
        · rw [if_neg h3,decide_eq_false h3,safe_spec,some_bind]
          cases safe (p.kp.getD i z83).f0 <;> rfl
  · intro k hk
    simp only [spec_Touchy.l0]
    rw [if_neg (by omega)]
/-! ### numbers divided -/
def divided (l:List Int) (q:Int):List Int×Bool:=if l.all (fun x=>decide (Int.tmod x q=0))=true then (l.map fun x=>wrap64 (Int.tdiv x q),true) else ([],false)
theorem div_loop {F:Nat→List Int→Int→Option (List Int×Bool)} {l:List Int} {q:Int} (hl:l.length≤1099511627776)
    (hstep:∀ (k i:Nat) (acc:List Int) (hi:i < l.length),acc.length≤i→F (k+1) acc i=if Int.tmod l[i] q=0 then F k (acc++[wrap64 (Int.tdiv l[i] q)]) ((i:Int)+1) else some ([],false))
    (hstop:∀ (k:Nat) (acc:List Int),F (k+1) acc l.length=some (acc,true)):
    ∀ (d i k:Nat) (acc:List Int),i+d=l.length→d+1≤k→acc.length≤i→F k acc i=some (if (l.drop i).all (fun x=>decide (Int.tmod x q=0))=true then (acc++(l.drop i).map fun x=>wrap64 (Int.tdiv x q),true) else ([],false)):=by
  intro d
  induction d with
  | zero =>
    intro i k acc hi hk ha
    obtain ⟨k,rfl⟩:∃ m,k=m+1:=⟨k - 1,by omega⟩
    obtain rfl:i=l.length:=by omega
    rw [hstop,List.drop_eq_nil_of_le (Nat.le_refl _)]
    simp
  | succ d ih =>
    intro i k acc hi hk ha
    obtain ⟨k,rfl⟩:∃ m,k=m+1:=⟨k - 1,by omega⟩
    rw [hstep k i acc (by omega) ha,List.drop_eq_getElem_cons (by omega),List.all_cons]
    by_cases h:Int.tmod l[i] q=0
    · have:=ih (i+1) k (acc++[wrap64 (Int.tdiv l[i] q)]) (by omega) (by omega) (by rw [List.length_append];simp;omega)
      rw [Int.natCast_add,Int.natCast_one] at this
      rw [if_pos h,this,decide_eq_true h,Bool.true_and,List.map_cons,List.append_assoc]
      rfl
    · rw [if_neg h,decide_eq_false h]
      rfl
theorem div_spec (l:List Int) {q:Int} (hq:q≠0) {k:Nat} (hk:l.length+1≤k) (hl:l.length≤1099511627776):spec_l19Divided.f k l q=some (divided l q):=by
  unfold spec_l19Divided.f
  have:=div_loop (F:=fun k acc i=>spec_l19Divided.l0 k l q acc i) (l:=l) (q:=q) hl ?_ ?_ l.length 0 k [] (by omega) hk (by simp)
  · refine Eq.trans this ?_
    unfold divided
    simp
  · intro k i acc hi ha
    simp only [spec_l19Divided.l0]
    have e:rd l (i:Int)=l[i]:=by unfold rd;rw [Int.toNat_natCast,List.getD_eq_getElem?_getD,List.getElem?_eq_getElem hi];rfl
    rw [if_pos (by omega),if_pos (by omega),if_neg hq,e,if_pos (show acc.length < 17592186044416 by omega),w64 (x:=(i:Int)+1) (by omega) (by omega)]
  · intro k acc
    simp only [spec_l19Divided.l0]
    rw [if_neg (by omega)]
/-! ### the reference's LessDepth -/
def nothing:Pic:=⟨0,0,0,0,false,[],[],0,0,0,0,[],[]⟩
def tup (p:Pic) (b:Bool):Int×Int×Int×Int×Bool×(List S95)×List Int×Int×Int×Int×Int×List Int×(List S83)×Bool:=(p.w,p.h,p.d,p.c,p.lace,p.tb,p.cl,p.rw,p.rh,p.rc,p.rd,p.sm,p.kp,b)
end Go.Proofs.Ytjpfhldklbgdcaa.Pl
