/- Contracts for ZlibRead: the sum of Adler and its four bytes, by both sides. No condition. -/
import Derived.Test.YtikegeligblekaaGreatKExactSameDoc6
/- Contracts for ZlibRead: the sum of Adler and its four bytes, by both sides. No condition. -/
namespace Go.Proofs.YtikegeligblekaaGreat.M
open Go Go.Proofs
set_option maxRecDepth 100000
set_option maxHeartbeats 2000000
set_option linter.unusedSimpArgs false
set_option linter.unusedVariables false
theorem wrapV {n : Int} (h0 : 0 ≤ n) (h1 : n < 4294967296) : IntKind.wrap .u32 n = n := by
  simp only [IntKind.wrap, IntKind.bits, IntKind.signed]; simp; omega
def bn (s : ByteArray) (i : Nat) : Nat := (s.data.getD i 0).toNat
theorem bn_lt (s : ByteArray) (i : Nat) : bn s i < 256 := UInt8.toNat_lt _
/-- The two parts behind so many bytes. -/
def adS (s : ByteArray) : Nat → Nat × Nat
  | 0 => (1, 0)
  | i + 1 => (((adS s i).1 + bn s i) % 65521, ((adS s i).2 + ((adS s i).1 + bn s i) % 65521) % 65521)
theorem adS_lt (s : ByteArray) : ∀ i, (adS s i).1 < 65521 ∧ (adS s i).2 < 65521
  | 0 => by simp [adS]
  | i + 1 => ⟨Nat.mod_lt _ (by decide), Nat.mod_lt _ (by decide)⟩
def adl (s : ByteArray) : Nat := (adS s s.size).2 * 65536 + (adS s s.size).1
theorem adl_lt (s : ByteArray) : adl s < 4294967296 := by
  have := adS_lt s s.size
  unfold adl; omega
theorem or_16 (q p : Nat) (hp : p < 65536) (hq : q < 65536) : orI .i64 ((q * 65536 : Nat) : Int) (p : Int) = (q * 65536 + p : Nat) := by
  show IntKind.wrap .i64 ((BitVec.ofInt 64 ((q * 65536 : Nat) : Int) ||| BitVec.ofInt 64 (p : Int)).toNat : Int) = _
  rw [BitVec.ofInt_natCast, BitVec.ofInt_natCast, BitVec.toNat_or, BitVec.toNat_ofNat, BitVec.toNat_ofNat, Nat.mod_eq_of_lt (by omega), Nat.mod_eq_of_lt (by omega)]
  have := Nat.two_pow_add_eq_or_of_lt (i := 16) (b := p) (by omega) q
  rw [Nat.mul_comm q, show 65536 = 2 ^ 16 from rfl, ← this, wrap64 (by omega) (by omega)]
theorem c85 (s : ByteArray) (hs : s.size ≤ 1048576) : CS Tryz.prog false 61 [.v (.int .u32 1), .v (.str s)] [.int .u32 (adl s : Nat)] [] := by
  refine CS_act tab_ok md Tryz.func61 rfl rfl Tryz.ntmps61 (rl := [.tmp 4]) rfl (Nat.le_of_ble_eq_true rfl) ?_
  simp only [go_sem]
  have z1 : (Int.tmod 1 65536).tmod 65521 = 1 := by decide
  have z2 : (IntKind.wrap .u32 (Int.tdiv 1 65536)).tmod 65521 = 0 := by decide
  refine ⟨by decide, by decide, by decide, by decide, ?_⟩
  rw [z1, z2]
  refine act_loop_of (md := md) tab_ok [1,5,6,7] [] 1000 (ι := {i : Nat // i ≤ s.size}) (fun i => ⟨[(1, .a (.c (.t (.str s)))), (5, .a (.c (.t (.int .u32 (adS s i.1).1)))), (6, .a (.c (.t (.int .u32 (adS s i.1).2)))), (7, .a (.c (.t (.int .i64 i.1))))], [], 1000, 35⟩) (fun i => s.size - i.1) ⟨0, by omega⟩ (Nat.le_of_ble_eq_true rfl) (by simp only [go_sem]) (by simp only [go_sem]; rfl) fun i => ?_
  obtain ⟨i, hi⟩ := i
  have hlt := adS_lt s i
  have hb := bn_lt s i
  have e0 : ((s.data.getD i 0).toNat : Int) = bn s i := rfl
  simp only [go_sem]
  by_cases hil : i < s.size
  · have e1 : decide ((i : Int) < s.size) = true := by simp; omega
    simp only [go_sem, e1, e0]
    have f1 : ((adS s i).1 : Int) + bn s i = ((adS s i).1 + bn s i : Nat) := by omega
    have f2 : (((adS s i).1 + bn s i : Nat) : Int).tmod 65521 = (((adS s i).1 + bn s i) % 65521 : Nat) := tmodN _ 65521
    have f3 : ((adS s i).2 : Int) + (((adS s i).1 + bn s i) % 65521 : Nat) = ((adS s i).2 + ((adS s i).1 + bn s i) % 65521 : Nat) := by omega
    have f4 : (((adS s i).2 + ((adS s i).1 + bn s i) % 65521 : Nat) : Int).tmod 65521 = (((adS s i).2 + ((adS s i).1 + bn s i) % 65521) % 65521 : Nat) := tmodN _ 65521
    have f5 : ((adS s i).1 + bn s i) % 65521 < 65521 := Nat.mod_lt _ (by decide)
    rw [wrapV (n := (bn s i : Int)) (by omega) (by omega), f1, wrapV (n := (((adS s i).1 + bn s i : Nat) : Int)) (by omega) (by omega), f2, f3, wrapV (n := (((adS s i).2 + ((adS s i).1 + bn s i) % 65521 : Nat) : Int)) (by omega) (by omega), f4]
    refine ⟨by omega, by omega, by decide, by decide, ?_⟩
    refine nextK_of ⟨i + 1, by omega⟩ (by simp only [go_sem]) ?_ (by dsimp only; omega)
    simp only [go_sem, adS]
    rw [wrap64 (n := (i : Int) + 1) (by omega) (by omega)]
    rfl
  · obtain rfl : i = s.size := by omega
    have e1 : decide ((s.size : Int) < s.size) = false := by simp
    simp only [go_sem, e1]
    have f1 : ((adS s s.size).2 : Int) * 65536 = ((adS s s.size).2 * 65536 : Nat) := by omega
    have f2 : (((adS s s.size).2 * 65536 : Nat) : Int) + (adS s s.size).1 = (adl s : Nat) := by unfold adl; omega
    have f3 := adl_lt s
    rw [f1, wrapV (n := (((adS s s.size).2 * 65536 : Nat) : Int)) (by omega) (by omega), f2, wrapV (n := ((adl s : Nat) : Int)) (by omega) (by omega)]
theorem c129 : CS Tryz.prog false 103 [.v (.int .u32 1)] [.int .i64 1, .int .i64 0] [] := by
  refine CS_act tab_ok md Tryz.func103 rfl rfl Tryz.ntmps103 (rl := [.tmp 2, .tmp 3]) rfl (Nat.le_of_ble_eq_true rfl) ?_
  simp only [go_sem]
  refine ⟨by decide, by decide, by decide, ?_⟩
  have z1 : (IntKind.wrap .i64 (andI .u32 1 65535)).tmod 65521 = 1 := by decide
  have z2 : (IntKind.wrap .i64 (Int.fdiv 1 (2 ^ min (Int.toNat 16) 32))).tmod 65521 = 0 := by decide
  rw [z1, z2]
theorem c87 (s : ByteArray) (hs : s.size ≤ 1048576) : CS Tryz.prog false 84 [.v (.int .u32 1), .v (.str s)] [.int .u32 (adl s : Nat)] [] := by
  refine CS_act tab_ok md Tryz.func84 rfl rfl Tryz.ntmps84 (rl := [.tmp 4]) rfl (Nat.le_of_ble_eq_true rfl) ?_
  simp only [go_sem]
  refine act_callE c129 ?_
  simp only [go_sem]
  refine act_loop_of (md := md) tab_ok [1,5,6,14,15] [] 1000 (ι := {i : Nat // i ≤ s.size}) (fun i => ⟨[(1, .a (.c (.t (.str s)))), (5, .a (.c (.t (.int .i64 (adS s i.1).1)))), (6, .a (.c (.t (.int .i64 (adS s i.1).2)))), (14, .a (.c (.t (.int .i64 s.size)))), (15, .a (.c (.t (.int .i64 i.1))))], [], 1000, 35⟩) (fun i => s.size - i.1) ⟨0, by omega⟩ (Nat.le_of_ble_eq_true rfl) (by simp only [go_sem]) (by simp only [go_sem]; rfl) fun i => ?_
  obtain ⟨i, hi⟩ := i
  have hlt := adS_lt s i
  have hb := bn_lt s i
  have e0 : ((s.data.getD i 0).toNat : Int) = bn s i := rfl
  simp only [go_sem]
  by_cases hil : i < s.size
  · have e1 : decide ((i : Int) < s.size) = true := by simp; omega
    simp only [go_sem, e1, e0]
    have f1 : ((adS s i).1 : Int) + bn s i = ((adS s i).1 + bn s i : Nat) := by omega
    have f2 : (((adS s i).1 + bn s i : Nat) : Int).tmod 65521 = (((adS s i).1 + bn s i) % 65521 : Nat) := tmodN _ 65521
    have f3 : ((adS s i).2 : Int) + (((adS s i).1 + bn s i) % 65521 : Nat) = ((adS s i).2 + ((adS s i).1 + bn s i) % 65521 : Nat) := by omega
    have f4 : (((adS s i).2 + ((adS s i).1 + bn s i) % 65521 : Nat) : Int).tmod 65521 = (((adS s i).2 + ((adS s i).1 + bn s i) % 65521) % 65521 : Nat) := tmodN _ 65521
    have f5 : ((adS s i).1 + bn s i) % 65521 < 65521 := Nat.mod_lt _ (by decide)
    rw [wrap64 (n := (bn s i : Int)) (by omega) (by omega), f1, wrap64 (n := (((adS s i).1 + bn s i : Nat) : Int)) (by omega) (by omega), f2, f3, wrap64 (n := (((adS s i).2 + ((adS s i).1 + bn s i) % 65521 : Nat) : Int)) (by omega) (by omega), f4]
    refine ⟨by omega, by omega, by decide, by decide, ?_⟩
    refine nextK_of ⟨i + 1, by omega⟩ (by simp only [go_sem]) ?_ (by dsimp only; omega)
    simp only [go_sem, adS]
    rw [wrap64 (n := (i : Int) + 1) (by omega) (by omega)]
    rfl
  · obtain rfl : i = s.size := by omega
    have e1 : decide ((s.size : Int) < s.size) = false := by simp
    simp only [go_sem, e1]
    refine ⟨by decide, ?_⟩
    have f1 : ((adS s s.size).2 : Int) * 2 ^ min (Int.toNat 16) 64 = ((adS s s.size).2 * 65536 : Nat) := by
      have : (2 : Int) ^ min (Int.toNat 16) 64 = 65536 := by decide
      rw [this]; omega
    have f3 := adl_lt s
    rw [f1, wrap64 (n := (((adS s s.size).2 * 65536 : Nat) : Int)) (by omega) (by omega), or_16 _ _ (by omega) (by omega)]
    have f2 : (((adS s s.size).2 * 65536 + (adS s s.size).1 : Nat) : Int) = (adl s : Nat) := rfl
    rw [f2, wrapV (n := ((adl s : Nat) : Int)) (by omega) (by omega)]
theorem c41 (s : ByteArray) (hs : s.size ≤ 1048576) : CS Tryz.prog false 44 [.v (.str s)] [.int .u32 (adl s : Nat)] [] := by
  refine CS_act tab_ok md Tryz.func44 rfl rfl Tryz.ntmps44 (rl := [.tmp 2]) rfl (Nat.le_of_ble_eq_true rfl) ?_
  simp only [go_sem]
  refine act_callE (c85 s hs) ?_
  simp only [go_sem]
theorem c43 (s : ByteArray) (hs : s.size ≤ 1048576) : CS Tryz.prog false 71 [.v (.str s)] [.int .u32 (adl s : Nat)] [] := by
  refine CS_act tab_ok md Tryz.func71 rfl rfl Tryz.ntmps71 (rl := [.tmp 2]) rfl (Nat.le_of_ble_eq_true rfl) ?_
  simp only [go_sem]
  refine act_callE (c87 s hs) ?_
  simp only [go_sem]
/-- The last so many bytes of a number, the greatest first. -/
def bigN (x : Nat) : Nat → List Nat
  | 0 => []
  | k + 1 => (x / 256 ^ k % 256) :: bigN x k
theorem bytes_cons (n : Nat) (l : List Nat) : bytes [.int .u8 n] ++ bytes (ob l) = bytes (ob (n :: l)) := by
  apply ByteArray.ext
  rw [ByteArray.data_append]
  simp [bytes, ob, T.num]
theorem bytes_size (l : List Nat) : (bytes (ob l)).size = l.length := by
  show (Array.size _) = _
  simp [bytes, ob]
theorem fdivP (x j : Nat) : (x : Int).fdiv (2 ^ j) = (x / 2 ^ j : Nat) := by
  rw [Int.fdiv_eq_ediv_of_nonneg _ (by exact Int.pow_nonneg (by decide))]; simp
theorem bigN_len (x : Nat) : ∀ k, (bigN x k).length = k
  | 0 => rfl
  | k + 1 => by rw [bigN, List.length_cons, bigN_len x k]
theorem bigN_take (x k : Nat) (h : k < 4) : (bigN x 4).take (k + 1) = (bigN x 4).take k ++ [x / 256 ^ (3 - k) % 256] := by
  match k, h with
  | 0, _ => rfl
  | 1, _ => rfl
  | 2, _ => rfl
  | 3, _ => rfl
theorem c84 (x : Nat) (hx : x < 4294967296) : CS Tryz.prog false 60 [.v (.int .i64 x), .v (.int .i64 4)] [.str (bytes (ob (bigN x 4)))] [] := by
  refine CS_act tab_ok md Tryz.func60 rfl rfl Tryz.ntmps60 (rl := [.tmp 4]) rfl (Nat.le_of_ble_eq_true rfl) ?_
  simp only [go_sem]
  refine act_loop_of (md := md) tab_ok [0,1,5,6] [] 1000 (ι := {i : Nat // i ≤ 4}) (fun i => ⟨[(0, .a (.c (.t (.int .i64 (x / 256 ^ i.1 : Nat))))), (1, .a (.c (.t (.int .i64 4)))), (5, .a (.c (.t (.str (bytes (ob (bigN x i.1))))))), (6, .a (.c (.t (.int .i64 i.1))))], [], 1000, 22⟩) (fun i => 4 - i.1) ⟨0, by omega⟩ (Nat.le_of_ble_eq_true rfl) (by simp only [go_sem]) (by simp only [go_sem, Nat.pow_zero, Nat.div_one]; rfl) fun i => ?_
  obtain ⟨i, hi⟩ := i
  simp only [go_sem]
  by_cases hil : i < 4
  · have e1 : decide ((i : Int) < 4) = true := by simp; omega
    simp only [go_sem, e1]
    have f1 : ((x / 256 ^ i : Nat) : Int).tmod 256 = (x / 256 ^ i % 256 : Nat) := tmodN _ 256
    have f2 : ((x / 256 ^ i : Nat) : Int).tdiv 256 = (x / 256 ^ (i + 1) : Nat) := by
      have : x / 256 ^ (i + 1) = x / 256 ^ i / 256 := by rw [Nat.pow_succ, Nat.div_div_eq_div_mul]
      rw [this]; exact tdivN _ 256
    have f3 : x / 256 ^ i % 256 < 256 := Nat.mod_lt _ (by decide)
    have f4 : x / 256 ^ (i + 1) ≤ x := Nat.div_le_self _ _
    have f5 : bytes [.int .u8 (x / 256 ^ i % 256 : Nat)] ++ bytes (ob (bigN x i)) = bytes (ob (bigN x (i + 1))) := bytes_cons _ _
    have f6 : (bytes [.int .u8 (x / 256 ^ i % 256 : Nat)]).size = 1 := bytes_size [_]
    have f7 : (bytes (ob (bigN x i))).size = i := (bytes_size _).trans (bigN_len x i)
    rw [f1, wrap8 (Int.natCast_nonneg _) (Int.ofNat_lt.2 f3), f2, wrap64 (n := ((x / 256 ^ (i + 1) : Nat) : Int)) (Int.le_trans (by decide) (Int.natCast_nonneg _)) (Int.lt_of_le_of_lt (Int.ofNat_le.2 f4) (by omega)), f5, f6, f7]
    refine ⟨by decide, fun b hb => by obtain rfl := List.mem_singleton.1 hb; trivial, by omega, by decide, ?_⟩
    refine nextK_of ⟨i + 1, by omega⟩ (by simp only [go_sem]) ?_ (by dsimp only; omega)
    simp only [go_sem]
    rw [wrap64 (n := (i : Int) + 1) (by omega) (by omega)]
    rfl
  · obtain rfl : i = 4 := by omega
    have e1 : decide (((4 : Nat) : Int) < 4) = false := rfl
    simp only [go_sem, e1]
theorem c86 (x : Nat) (hx : x < 4294967296) : CS Tryz.prog false 83 [.v (.int .i64 x), .v (.int .i64 4)] [.str (bytes (ob (bigN x 4))), .bool true] [] := by
  refine CS_act tab_ok md Tryz.func83 rfl rfl Tryz.ntmps83 (rl := [.tmp 4, .tmp 5]) rfl (Nat.le_of_ble_eq_true rfl) ?_
  simp only [go_sem]
  refine act_callE (c34 _ _ _) ?_
  have i1 : inB 4 1 4 = true := by decide
  have i2 : inB (x : Int) 0 (IntKind.wrap .i64 ((2 ^ (8 * 4) : Nat) - 1)) = true := by
    have : IntKind.wrap .i64 (((2 ^ (8 * 4) : Nat) : Int) - 1) = 4294967295 := by decide
    rw [this]; exact inB_true (by omega) (by omega)
  have h128 := c128 32 (by decide)
  simp only [go_sem, i1]
  refine act_callE h128 ?_
  simp only [go_sem]
  refine act_callE (c34 _ _ _) ?_
  have i3 : IntKind.wrap .i64 (((2 ^ 32 : Nat) : Int) - 1) = 4294967295 := by decide
  have i4 : inB (x : Int) 0 4294967295 = true := inB_true (by omega) (by omega)
  have i5 : IntKind.wrap .i64 (4 - 1) = 3 := by decide
  simp only [go_sem, i3, i4, i5]
  refine act_loop_of (md := md) tab_ok [0,6,7] [224] 1000 (ι := {k : Nat // k ≤ 4}) (fun k => ⟨[(0, .a (.c (.t (.int .i64 x)))), (6, .a (.c (.own 224 k.1 0 ((bigN x 4).take k.1).length))), (7, .a (.c (.t (.int .i64 (3 - (k.1 : Int))))))], [(224, .arr 1 (ob ((bigN x 4).take k.1)) k.1)], 1000, 37⟩) (fun k => 4 - k.1) ⟨0, by omega⟩ (Nat.le_of_ble_eq_true rfl) (by simp only [go_sem]) (by simp only [go_sem]; rfl) fun k => ?_
  obtain ⟨k, hk⟩ := k
  have hl : ((bigN x 4).take k).length = k := by rw [List.length_take, bigN_len]; omega
  simp only [go_sem]
  by_cases hkl : k < 4
  · have e1 : decide (3 - (k : Int) ≥ 0) = true := by simp; omega
    have j1 : 3 - (k : Int) = (3 - k : Nat) := by omega
    have j2 : 8 * ((3 - k : Nat) : Int) = (8 * (3 - k) : Nat) := by omega
    have j3 : min (8 * (3 - k)) 64 = 8 * (3 - k) := by omega
    have j4 : (x : Int).fdiv (2 ^ (8 * (3 - k))) = (x / 256 ^ (3 - k) : Nat) := by
      rw [fdivP, Nat.pow_mul]
    have j5 : IntKind.wrap .u8 ((x / 256 ^ (3 - k) : Nat) : Int) = (x / 256 ^ (3 - k) % 256 : Nat) := by
      generalize x / 256 ^ (3 - k) = y
      simp only [IntKind.wrap, IntKind.bits, IntKind.signed]; simp
    have j6 : IntKind.wrap .i64 (8 * (3 - (k : Int))) = (8 * (3 - k) : Nat) := by rw [j1, j2, wrap64 (by omega) (by omega)]
    have j7 : IntKind.wrap .i64 (3 - (k : Int) - 1) = 3 - ((k + 1 : Nat) : Int) := by rw [wrap64 (by omega) (by omega)]; omega
    have j8 : ob ((bigN x 4).take k) ++ [.int .u8 (x / 256 ^ (3 - k) % 256 : Nat)] = ob ((bigN x 4).take (k + 1)) := by rw [ob_one, bigN_take x k hkl]
    have j9 : ((bigN x 4).take (k + 1)).length = k + 1 := by rw [List.length_take, bigN_len]; omega
    simp only [go_sem, e1, j6, j7]
    rw [j3, j4, j5]
    refine ⟨by omega, by omega, ?_⟩
    refine nextK_of ⟨k + 1, by omega⟩ (by simp only [go_sem]) ?_ (by dsimp only; omega)
    simp only [go_sem, j8, j9, hl]
  · obtain rfl : k = 4 := by omega
    have e1 : decide (3 - ((4 : Nat) : Int) ≥ 0) = false := by decide
    have ht : (bigN x 4).take 4 = bigN x 4 := List.take_of_length_le (by rw [bigN_len]; exact Nat.le_refl _)
    simp only [go_sem, e1, ht]
    exact ob_byte _
/-- A sum's four bytes. -/
def four (x : Nat) : ByteArray := bytes (ob (bigN x 4))
theorem c40 (x : Nat) (hx : x < 4294967296) : CS Tryz.prog false 43 [.v (.int .u32 x)] [.str (four x)] [] := by
  refine CS_act tab_ok md Tryz.func43 rfl rfl Tryz.ntmps43 (rl := [.tmp 2]) rfl (Nat.le_of_ble_eq_true rfl) ?_
  simp only [go_sem]
  rw [wrap64 (n := (x : Int)) (by omega) (by omega)]
  refine act_callE (c84 x hx) ?_
  simp only [go_sem, four]
theorem c42 (x : Nat) (hx : x < 4294967296) : CS Tryz.prog false 70 [.v (.int .u32 x)] [.str (four x)] [] := by
  refine CS_act tab_ok md Tryz.func70 rfl rfl Tryz.ntmps70 (rl := [.tmp 2]) rfl (Nat.le_of_ble_eq_true rfl) ?_
  simp only [go_sem]
  rw [wrap64 (n := (x : Int)) (by omega) (by omega)]
  refine act_callE (c86 x hx) ?_
  simp only [go_sem, four]
end Go.Proofs.YtikegeligblekaaGreat.M

/- Contracts for ZlibRead: a container is read, by both sides. No condition. -/
namespace Go.Proofs.YtikegeligblekaaGreat.M
open Go Go.Proofs
set_option maxRecDepth 100000
set_option maxHeartbeats 2000000
set_option linter.unusedSimpArgs false
set_option linter.unusedVariables false
/-- A wrong head. -/
def headB (a b : Nat) : Bool := decide (a % 16 ≠ 8) || decide (7 < a / 16) || decide ((256 * a + b) % 31 ≠ 0) || decide (b / 32 % 2 = 1)
/-- What is read of what is left behind a reader. -/
def restT (out rest : ByteArray) : List T :=
  if rest.size < 4 ∨ (rest.extract 0 4).toList ≠ (four (adl out)).toList then [.str ⟨#[]⟩, .int .i64 3] else if 4 < rest.size then [.str ⟨#[]⟩, .int .i64 4] else [.str out, .int .i64 0]
def zT (s : ByteArray) (r : Rd) : List T :=
  if s.size < 6 ∨ 12000 < s.size then [.str ⟨#[]⟩, .int .i64 1] else if headB (bn s 0) (bn s 1) = true then [.str ⟨#[]⟩, .int .i64 2] else
  if r.code ≠ 0 then [.str ⟨#[]⟩, .int .i64 (10 + r.code : Nat)] else restT (bytes (ob r.out)) (s.extract (2 + (r.at' + 7) / 8) s.size)
/-- A failure's number is small. -/
def Lc (r : Rd) : Prop := r.code ≤ 100
section
variable {s : ByteArray} {most : Nat} {r : Rd}
theorem Lc.bits (n : Nat) (h : Lc r) : Lc (getBits s r n).2 := by
  unfold getBits; (repeat' split) <;> first | exact h | exact (show 2 ≤ 100 by decide)
theorem Lc.fail {c : Nat} (hc : c ≤ 100) (h : Lc r) : Lc (r.fail c) := by unfold Rd.fail; split <;> assumption
theorem Lc.failIf {b : Bool} {c : Nat} (hc : c ≤ 100) (h : Lc r) : Lc (r.failIf b c) := by unfold Rd.failIf; split <;> assumption
theorem Lc.badIf {b : Bool} {c : Nat} (hc : c ≤ 100) (h : Lc r) : Lc (M.badIf r b c) := by unfold M.badIf; split <;> assumption
theorem Lc.rep {d n : Nat} (h : Lc r) : Lc (r.rep d n) := by unfold Rd.rep; split <;> assumption
theorem Lc.sym (L : List Nat) : ∀ m n x r, Lc r → Lc (symGo s L m n x r).2
  | 0, n, x, r, h => h.fail (by decide)
  | m + 1, n, x, r, h => by
    rw [symGo]
    split
    · exact h
    · split
      · exact h.fail (by decide)
      · split
        · exact h.bits 1
        · exact Lc.sym L m _ _ _ (h.bits 1)
theorem Lc.symS (L : List Nat) (h : Lc r) : Lc (M.symS s L r).2 := by
  unfold M.symS
  split
  · exact h
  · split
    · exact Lc.sym L _ _ _ _ h
    · show (if _ then 2 else 6) ≤ 100
      split <;> decide
theorem Lc.repGo (L : List Nat) (k : Nat) (h : Lc r) : Lc (M.repGo s L most k r) := by
  unfold M.repGo repA repC repB
  split
  · exact h.fail (by decide)
  · split
    · exact h.bits _
    · have h1 := (Lc.sym (s := s) L 16 0 0 _ (h.bits (s := s) (lenX k))).failIf (b := decide (30 ≤ (symGo s L 16 0 0 (getBits s r (lenX k)).2).1)) (c := 6) (by decide)
      split
      · exact h1
      · exact (((h1.bits _).failIf (by decide)).failIf (by decide)).rep
theorem Lc.syms (A B : List Nat) : ∀ f r, Lc r → Lc (symsGo s A B most f r)
  | 0, r, h => h
  | f + 1, r, h => by
    have h1 := Lc.sym (s := s) A 16 0 0 r h
    rw [symsGo]
    split
    · exact h
    · split
      · exact h1
      · split
        · exact Lc.syms A B f _ (Lc.repGo B _ h1)
        · split
          · exact h1.fail (by decide)
          · exact Lc.syms A B f _ h1
theorem Lc.syA (B : List Nat) (k : Nat) (h : Lc r) : Lc (M.syA s B most k r) := by
  unfold M.syA syB syC syD
  have h1 := (h.bits (s := s) (lenX k)).symS (s := s) B
  split
  · exact h1
  · split
    · exact (show 6 ≤ 100 by decide)
    · split
      · exact h1.bits _
      · split
        · exact (show 7 ≤ 100 by decide)
        · split
          · exact (show 8 ≤ 100 by decide)
          · exact (h1.bits _).rep
theorem Lc.sysS (A B : List Nat) : ∀ f r, Lc r → Lc (M.sysS s A B most f r)
  | 0, r, h => h
  | f + 1, r, h => by
    have h1 := h.symS (s := s) A
    rw [M.sysS]
    split
    · exact h
    · split
      · exact h1
      · split
        · split
          · exact (show 8 ≤ 100 by decide)
          · exact Lc.sysS A B f _ h1
        · split
          · exact (show 6 ≤ 100 by decide)
          · exact Lc.sysS A B f _ (Lc.syA B _ h1)
theorem Lc.st (h : Lc r) : Lc (stGo s most r) := by
  have h0 : Lc (r.setAt (8 * ((r.at' + 7) / 8))) := h
  unfold stGo stA stB
  have h1 := (((((h0.bits (s := s) 16).bits (s := s) 16).failIf (b := decide ((getBits s (r.setAt (8 * ((r.at' + 7) / 8))) 16).1 + (getBits s (getBits s (r.setAt (8 * ((r.at' + 7) / 8))) 16).2 16).1 ≠ 65535)) (c := 4) (by decide))))
  split
  · exact (h1.failIf (by decide)).failIf (by decide)
  · exact (h1.failIf (by decide)).failIf (by decide)
theorem Lc.byS : ∀ n r, Lc r → Lc (M.byS s n r)
  | 0, r, h => h
  | n + 1, r, h => by
    rw [M.byS]
    split
    · exact h
    · split
      · exact h.bits 8
      · exact Lc.byS n _ (h.bits 8)
theorem Lc.stS (h : Lc r) : Lc (M.stS s most r) := by
  have h0 : Lc (r.setAt ((r.at' + 7) / 8 * 8)) := h
  unfold M.stS M.stS1
  exact Lc.byS _ _ ((((h0.bits 16).bits 16).badIf (by decide)).badIf (by decide))
theorem Lc.th (h : Lc r) : ∀ i, Lc (thG s r i).2
  | 0 => h
  | i + 1 => by rw [thG]; exact (Lc.th h i).bits 3
theorem Lc.runs (L : List Nat) (size : Nat) : ∀ f A r, Lc r → Lc (runsGo s L size f A r).2
  | 0, A, r, h => h
  | f + 1, A, r, h => by
    have h1 : Lc (runStep (symGo s L 16 0 0 r) A) := by
      have := Lc.sym (s := s) L 16 0 0 r h
      unfold runStep; split; (· exact this.fail (by decide)); (· exact this)
    rw [runsGo]
    split
    · split
      · exact h1.bits _
      · refine Lc.runs L size f _ _ ?_
        split
        · exact (h1.bits _).fail (by decide)
        · exact h1.bits _
    · exact h
theorem Lc.runsS (L : List Nat) (size : Nat) : ∀ f A r, Lc r → Lc (M.runsS s L size f A r).2
  | 0, A, r, h => h
  | f + 1, A, r, h => by
    have h1 := (h.symS (s := s) L).bits (s := s) (exB (M.symS s L r).1)
    rw [M.runsS]
    split
    · split
      · exact h1
      · split
        · exact (show 5 ≤ 100 by decide)
        · split
          · exact (show 5 ≤ 100 by decide)
          · exact Lc.runsS L size f _ _ h1
    · exact h
theorem Lc.wvB {a b : Nat} {q : List Nat × Rd} (h : Lc q.2) : Lc (M.wvB s a b q).2 := by
  have h2 : Lc (M.wv2 q) := Lc.failIf (by decide) h
  unfold M.wvB
  split
  · exact h2
  · have h3 : Lc (M.wvQ s a b q).2 := Lc.runs _ _ _ _ _ h2
    exact (show Lc (M.wv4 a (M.wvQ s a b q)) from Lc.failIf (by decide) h3)
theorem Lc.wvA {a b c : Nat} (h : Lc r) : Lc (M.wvA s r a b c).2 := by
  have h2 : Lc (M.wv1 a b r) := Lc.failIf (by decide) h
  exact Lc.wvB (Lc.th h2 c)
theorem Lc.wv (h : Lc r) : Lc (wvGo s r).2.2 := by
  have h2 : Lc (getBits s (getBits s (getBits s r 5).2 5).2 4).2 := ((h.bits 5).bits 5).bits 4
  exact Lc.wvA h2
theorem Lc.tbQ {a b : Nat} {q : List Nat × Rd} (h : Lc q.2) : Lc (M.tbQ s a b q).2 := by
  have h2 : Lc (M.tb2 q) := Lc.badIf (by decide) h
  exact Lc.runsS _ _ _ _ _ h2
theorem Lc.tbA {a b c : Nat} (h : Lc r) : Lc (M.tbA s r a b c).2 := by
  have h2 : Lc (M.tb1 a b r) := Lc.badIf (by decide) h
  have h3 : Lc (M.tbQ s a b (thG s (M.tb1 a b r) c)).2 := Lc.tbQ (Lc.th h2 c)
  exact (show Lc (M.tb4 a (M.tbQ s a b (thG s (M.tb1 a b r) c))) from Lc.badIf (by decide) h3)
theorem Lc.tb (h : Lc r) : Lc (tbGo s r).2.2 := by
  have h2 : Lc (getBits s (getBits s (getBits s r 5).2 5).2 4).2 := ((h.bits 5).bits 5).bits 4
  exact Lc.tbA h2
theorem Lc.bl (k : Nat) (h : Lc r) : Lc (blB s most k r) := by
  unfold blB
  split
  · exact h.st
  · split
    · exact Lc.syms _ _ _ _ h
    · split
      · split
        · exact Lc.syms _ _ _ _ h.wv
        · exact h.wv
      · exact h.fail (by decide)
theorem Lc.blS (k : Nat) (h : Lc r) : Lc (M.blS s most k r) := by
  unfold M.blS
  split
  · exact h.stS
  · split
    · exact Lc.sysS _ _ _ _ h
    · split
      · exact Lc.sysS _ _ _ _ h.tb
      · exact (show 3 ≤ 100 by decide)
theorem Lc.inf : ∀ f r, Lc r → Lc (infL s most f r)
  | 0, r, h => h
  | f + 1, r, h => by
    have h1 : Lc (blGo s most r).2 := by
      unfold blGo
      split
      · exact (h.bits 1).bits 2
      · exact Lc.bl _ ((h.bits 1).bits 2)
    rw [infL]
    split
    · exact h1
    · exact Lc.inf f _ h1
theorem Lc.ins : ∀ f l r, Lc r → Lc (insL s most f l r)
  | 0, l, r, h => h
  | f + 1, l, r, h => by
    rw [insL]
    split
    · split
      · exact (h.bits 1).bits 2
      · exact Lc.ins f _ _ (Lc.blS _ ((h.bits 1).bits 2))
    · exact h
end
theorem infR_code (s : ByteArray) (most : Int) : (infR s most).code ≤ 100 := by
  unfold infR; split
  · decide
  · exact Lc.inf _ _ (show 0 ≤ 100 by decide)
theorem insR_code (s : ByteArray) (most : Int) : (insR s most).code ≤ 100 := by
  unfold insR; split
  · decide
  · exact Lc.ins _ _ _ (show 0 ≤ 100 by decide)
theorem insR_out {s : ByteArray} {most : Int} (h : (insR s most).code = 0) : (insR s most).out.length ≤ 12000 := by
  unfold insR at h ⊢
  by_cases hl : longB s most = true
  · rw [if_pos hl] at h; cases h
  · rw [if_neg hl]
    simp [longB, inB] at hl
    have := (insL_at (s := s) (m := most.toNat) (8 * s.size + 2) 0 ⟨0, [], [], 0⟩ (by simp) (by simp)).2
    omega
theorem c21 (s : ByteArray) (most : Int) (hs : s.size ≤ 1048576) : CS Tryz.prog false 29 [.v (.str s), .v (.int .i64 most)] (zT s (insR (s.extract 2 s.size) most)) [] := by
  refine CS_act tab_ok md Tryz.func29 rfl rfl Tryz.ntmps29 (rl := [.tmp 4, .tmp 5]) rfl (Nat.le_of_ble_eq_true rfl) ?_
  generalize hR : insR (s.extract 2 s.size) most = R
  generalize hZ : zT s R = Z
  unfold zT at hZ
  simp only [go_sem]
  refine act_callE (c39 _ _ _) ?_
  by_cases hsz : s.size < 6 ∨ 12000 < s.size
  · have i1 : inB (s.size : Int) 6 12000 = false := inB_false (by omega)
    rw [if_pos hsz] at hZ
    subst hZ
    simp only [go_sem, i1]
  have i1 : inB (s.size : Int) 6 12000 = true := inB_true (by omega) (by omega)
  rw [if_neg hsz] at hZ
  have t1 : Int.toNat 1 = 1 := rfl
  have e0 : ((s.data.getD 0 0).toNat : Int) = bn s 0 := rfl
  have e1 : ((s.data.getD 1 0).toNat : Int) = bn s 1 := rfl
  have hb0 := bn_lt s 0
  have hb1 := bn_lt s 1
  generalize bn s 0 = a at hZ e0 hb0
  generalize bn s 1 = b at hZ e1 hb1
  have w0 : IntKind.wrap .i64 (a : Int) = a := wrap64 (by omega) (by omega)
  have w1 : IntKind.wrap .i64 (b : Int) = b := wrap64 (by omega) (by omega)
  have w2 : IntKind.wrap .i64 (256 * (a : Int)) = (256 * a : Nat) := by rw [wrap64 (by omega) (by omega)]; omega
  have w3 : IntKind.wrap .i64 (((256 * a : Nat) : Int) + b) = (256 * a + b : Nat) := by rw [wrap64 (by omega) (by omega)]; omega
  have m1 : ((a : Int).tmod 16 != 8) = decide (a % 16 ≠ 8) := by rw [show (a : Int).tmod 16 = (a % 16 : Nat) from tmodN _ 16]; by_cases h : a % 16 = 8 <;> simp [h] <;> omega
  have m2 : decide (IntKind.wrap .i64 ((a : Int).tdiv 16) > 7) = decide (7 < a / 16) := by rw [show (a : Int).tdiv 16 = (a / 16 : Nat) from tdivN _ 16, wrap64 (by omega) (by omega)]; by_cases h : 7 < a / 16 <;> simp [h] <;> omega
  have m3 : (((256 * a + b : Nat) : Int).tmod 31 != 0) = decide ((256 * a + b) % 31 ≠ 0) := by rw [show ((256 * a + b : Nat) : Int).tmod 31 = ((256 * a + b) % 31 : Nat) from tmodN _ 31]; by_cases h : (256 * a + b) % 31 = 0 <;> simp [h] <;> omega
  have m4 : ((IntKind.wrap .i64 ((b : Int).tdiv 32)).tmod 2 == 1) = decide (b / 32 % 2 = 1) := by
    rw [show (b : Int).tdiv 32 = (b / 32 : Nat) from tdivN _ 32, wrap64 (by omega) (by omega), show ((b / 32 : Nat) : Int).tmod 2 = (b / 32 % 2 : Nat) from tmodN _ 2]; by_cases h : b / 32 % 2 = 1 <;> simp [h] <;> omega
  unfold headB at hZ
  simp only [go_sem, i1, t1, e0, e1, w0, w1, m1]
  generalize decide (a % 16 ≠ 8) = c1 at hZ ⊢
  generalize decide (7 < a / 16) = c2 at hZ m2
  generalize decide ((256 * a + b) % 31 ≠ 0) = c3 at hZ m3
  generalize decide (b / 32 % 2 = 1) = c4 at hZ m4
  refine ⟨by omega, by omega, by omega, by omega, by decide, ?_⟩
  by_cases hc : (c1 || c2 || c3 || c4) = true
  · rw [if_pos hc] at hZ
    subst hZ
    cases c1
    rotate_left
    · simp only [go_sem]
    simp only [go_sem, m2]
    refine ⟨by decide, ?_⟩
    cases c2
    rotate_left
    · simp only [go_sem]
    simp only [go_sem, w2, w3, m3]
    refine ⟨by decide, ?_⟩
    cases c3
    rotate_left
    · simp only [go_sem]
    simp only [go_sem, m4]
    refine ⟨by decide, by decide, ?_⟩
    cases c4
    rotate_left
    · simp only [go_sem]
    · simp at hc
  rw [if_neg hc] at hZ
  obtain ⟨rfl, rfl, rfl, rfl⟩ : c1 = false ∧ c2 = false ∧ c3 = false ∧ c4 = false := by cases c1 <;> cases c2 <;> cases c3 <;> cases c4 <;> simp_all
  have hx : (s.extract 2 s.size).size = s.size - 2 := by rw [ByteArray.size_extract]; omega
  have h15 := c15 (s.extract 2 s.size) most (by omega)
  have hat := insR_at (s.extract 2 s.size) most
  rw [hR] at h15 hat
  simp only [go_sem, m2]
  refine ⟨by decide, ?_⟩
  simp only [go_sem, w2, w3, m3]
  refine ⟨by decide, ?_⟩
  simp only [go_sem, m4]
  refine ⟨by decide, by decide, ?_⟩
  have t2 : Int.toNat 2 = 2 := rfl
  refine ⟨by decide, by omega, by omega, ?_⟩
  rw [t2]
  refine act_callE h15 ?_
  unfold inT
  by_cases hc0 : R.code = 0
  rotate_left
  · have e2 : ((R.code : Int) != 0) = true := by simp; omega
    rw [if_pos hc0] at hZ
    subst hZ
    have hcl : R.code ≤ 100 := by rw [← hR]; exact insR_code _ _
    rw [if_neg hc0]
    simp only [go_sem, e2]
    rw [wrap64 (n := (10 : Int) + R.code) (by omega) (by omega)]
    have : (10 : Int) + R.code = (10 + R.code : Nat) := by omega
    rw [this]
  rw [if_neg (show ¬ R.code ≠ 0 by omega)] at hZ
  have hol : R.out.length ≤ 12000 := by rw [← hR]; exact insR_out (by rw [hR]; exact hc0)
  rw [if_pos hc0]
  generalize hn : (R.at' + 7) / 8 = n at hZ
  have hn2 : n ≤ s.size - 2 := by omega
  have w4 : IntKind.wrap .i64 ((2 : Int) + n) = (2 + n : Nat) := by rw [wrap64 (by omega) (by omega)]; omega
  have e2 : ((0 : Int) != 0) = false := rfl
  simp only [go_sem, e2, w4]
  refine ⟨by omega, by omega, by omega, ?_⟩
  have hrs : (s.extract (2 + n) s.size).size = s.size - 2 - n := by rw [ByteArray.size_extract]; omega
  generalize s.extract (2 + n) s.size = rest at hZ hrs
  have hos : (bytes (ob R.out)).size ≤ 1048576 := by rw [bytes_size]; omega
  generalize bytes (ob R.out) = out at hZ hos
  unfold restT at hZ
  by_cases h4 : rest.size < 4
  · have e3 : decide ((rest.size : Int) < 4) = true := by simp; omega
    rw [if_pos (Or.inl h4)] at hZ
    subst hZ
    refine act_draw_of tab_ok mix md ?_
    simp only [go_sem, e3]
    exact drawOk_of (by kernel_rfl)
  have e3 : decide ((rest.size : Int) < 4) = false := by simp; omega
  refine act_draw_of tab_ok mix md ?_
  simp only [go_sem, e3]
  refine ⟨by decide, by decide, by omega, ?_⟩
  refine act_callE (c41 out hos) ?_
  simp only [go_sem]
  refine act_callE (c40 (adl out) (adl_lt out)) ?_
  have t4 : Int.toNat 4 = 4 := rfl
  simp only [go_sem, t4]
  generalize hq : ((rest.extract 0 4).toList == (four (adl out)).toList) = q
  have hq' : ((rest.extract 0 4).toList ≠ (four (adl out)).toList) ↔ q = false := by rw [← hq]; simp
  cases q
  · rw [if_pos (Or.inr (hq'.2 rfl))] at hZ
    subst hZ
    simp only [go_sem]
    exact drawOk_of (by kernel_rfl)
  rw [if_neg (fun h => h.elim (fun h => h4 h) (fun h => by simp [hq'] at h))] at hZ
  simp only [go_sem]
  refine ⟨drawOk_of (by kernel_rfl), ?_⟩
  by_cases h5 : 4 < rest.size
  · have e5 : decide ((rest.size : Int) > 4) = true := by simp; omega
    rw [if_pos h5] at hZ
    subst hZ
    simp only [go_sem, e5]
  · have e5 : decide ((rest.size : Int) > 4) = false := by simp; omega
    rw [if_neg h5] at hZ
    subst hZ
    simp only [go_sem, e5]
theorem and_bit (n : Nat) (h : n < 256) : (andI .i64 (n : Int) 1 == 1) = decide (n % 2 = 1) := by
  have key : ∀ m : Fin 256, (andI .i64 ((m.val : Nat) : Int) 1 == 1) = decide (m.val % 2 = 1) := by decide +kernel
  exact key ⟨n, h⟩
theorem c22 (s : ByteArray) (most : Int) (hs : s.size ≤ 1048576) : CS Tryz.prog false 54 [.v (.str s), .v (.int .i64 most)] (zT s (infR (s.extract 2 s.size) most)) [] := by
  refine CS_act tab_ok md Tryz.func54 rfl rfl Tryz.ntmps54 (rl := [.tmp 4, .tmp 5]) rfl (Nat.le_of_ble_eq_true rfl) ?_
  generalize hR : infR (s.extract 2 s.size) most = R
  generalize hZ : zT s R = Z
  unfold zT at hZ
  simp only [go_sem]
  refine act_callE (c34 _ _ _) ?_
  by_cases hsz : s.size < 6 ∨ 12000 < s.size
  · have i1 : inB (s.size : Int) 6 12000 = false := inB_false (by omega)
    rw [if_pos hsz] at hZ
    subst hZ
    simp only [go_sem, i1]
  have i1 : inB (s.size : Int) 6 12000 = true := inB_true (by omega) (by omega)
  rw [if_neg hsz] at hZ
  have t1 : Int.toNat 1 = 1 := rfl
  have e0 : ((s.data.getD 0 0).toNat : Int) = bn s 0 := rfl
  have e1 : ((s.data.getD 1 0).toNat : Int) = bn s 1 := rfl
  have hb0 := bn_lt s 0
  have hb1 := bn_lt s 1
  generalize bn s 0 = a at hZ e0 hb0
  generalize bn s 1 = b at hZ e1 hb1
  have w0 : IntKind.wrap .i64 (a : Int) = a := wrap64 (by omega) (by omega)
  have w1 : IntKind.wrap .i64 (b : Int) = b := wrap64 (by omega) (by omega)
  have w2 : IntKind.wrap .i64 (256 * (a : Int)) = (256 * a : Nat) := by rw [wrap64 (by omega) (by omega)]; omega
  have w3 : IntKind.wrap .i64 (((256 * a : Nat) : Int) + b) = (256 * a + b : Nat) := by rw [wrap64 (by omega) (by omega)]; omega
  have m1 : ((a : Int).tmod 16 != 8) = decide (a % 16 ≠ 8) := by rw [show (a : Int).tmod 16 = (a % 16 : Nat) from tmodN _ 16]; by_cases h : a % 16 = 8 <;> simp [h] <;> omega
  have m2 : decide (IntKind.wrap .i64 ((a : Int).tdiv 16) > 7) = decide (7 < a / 16) := by rw [show (a : Int).tdiv 16 = (a / 16 : Nat) from tdivN _ 16, wrap64 (by omega) (by omega)]; by_cases h : 7 < a / 16 <;> simp [h] <;> omega
  have m3 : (((256 * a + b : Nat) : Int).tmod 31 != 0) = decide ((256 * a + b) % 31 ≠ 0) := by rw [show ((256 * a + b : Nat) : Int).tmod 31 = ((256 * a + b) % 31 : Nat) from tmodN _ 31]; by_cases h : (256 * a + b) % 31 = 0 <;> simp [h] <;> omega
  have t5 : min (Int.toNat 5) 64 = 5 := rfl
  have m4 : (andI .i64 ((b : Int).fdiv (2 ^ 5)) 1 == 1) = decide (b / 32 % 2 = 1) := by rw [fdivP]; exact and_bit (b / 32) (by omega)
  unfold headB at hZ
  simp only [go_sem, i1]
  refine act_draw_of tab_ok mix md ?_
  simp only [go_sem, t1, e0, e1, w0, w1, m1]
  generalize decide (a % 16 ≠ 8) = c1 at hZ ⊢
  generalize decide (7 < a / 16) = c2 at hZ m2
  generalize decide ((256 * a + b) % 31 ≠ 0) = c3 at hZ m3
  generalize decide (b / 32 % 2 = 1) = c4 at hZ m4
  refine ⟨by omega, by omega, by omega, by omega, drawOk_of (by kernel_rfl), by decide, ?_⟩
  by_cases hc : (c1 || c2 || c3 || c4) = true
  · rw [if_pos hc] at hZ
    subst hZ
    cases c1
    rotate_left
    · simp only [go_sem]
    simp only [go_sem, m2]
    refine ⟨by decide, ?_⟩
    cases c2
    rotate_left
    · simp only [go_sem]
    simp only [go_sem, w2, w3, m3]
    refine ⟨by decide, ?_⟩
    cases c3
    rotate_left
    · simp only [go_sem]
    simp only [go_sem, t5, m4]
    refine ⟨by decide, ?_⟩
    cases c4
    rotate_left
    · simp only [go_sem]
    · simp at hc
  rw [if_neg hc] at hZ
  obtain ⟨rfl, rfl, rfl, rfl⟩ : c1 = false ∧ c2 = false ∧ c3 = false ∧ c4 = false := by cases c1 <;> cases c2 <;> cases c3 <;> cases c4 <;> simp_all
  have hx : (s.extract 2 s.size).size = s.size - 2 := by rw [ByteArray.size_extract]; omega
  have h14 := c14 (s.extract 2 s.size) most (by omega)
  have hat := infR_at (s.extract 2 s.size) most
  rw [hR] at h14 hat
  simp only [go_sem, m2]
  refine ⟨by decide, ?_⟩
  simp only [go_sem, w2, w3, m3]
  refine ⟨by decide, ?_⟩
  simp only [go_sem, t5, m4]
  refine ⟨by decide, ?_⟩
  have t2 : Int.toNat 2 = 2 := rfl
  refine ⟨by decide, by omega, by omega, ?_⟩
  rw [t2]
  refine act_callE h14 ?_
  unfold inT
  by_cases hc0 : R.code = 0
  rotate_left
  · have e2 : ((R.code : Int) != 0) = true := by simp; omega
    rw [if_pos hc0] at hZ
    subst hZ
    have hcl : R.code ≤ 100 := by rw [← hR]; exact infR_code _ _
    have w5 : IntKind.wrap .i64 ((2 : Int) + 0) = 2 := rfl
    have w6 : min (s.size : Int) 2 = 2 := by omega
    rw [if_neg hc0]
    simp only [go_sem, e2, w5, w6]
    refine ⟨by decide, by omega, by omega, ?_⟩
    rw [wrap64 (n := (10 : Int) + R.code) (by omega) (by omega)]
    have : (10 : Int) + R.code = (10 + R.code : Nat) := by omega
    rw [this]
  rw [if_neg (show ¬ R.code ≠ 0 by omega)] at hZ
  have hol : R.out.length ≤ 12000 := by rw [← hR]; exact (infR_small (by rw [hR]; exact hc0)).2
  rw [if_pos hc0]
  generalize hn : (R.at' + 7) / 8 = n at hZ
  have hn2 : n ≤ s.size - 2 := by omega
  have w4 : IntKind.wrap .i64 ((2 : Int) + n) = (2 + n : Nat) := by rw [wrap64 (by omega) (by omega)]; omega
  have w5 : min (s.size : Int) (2 + n : Nat) = (2 + n : Nat) := by omega
  have e2 : ((0 : Int) != 0) = false := rfl
  simp only [go_sem, e2, w4, w5]
  refine ⟨by omega, by omega, by omega, ?_⟩
  have hrs : (s.extract (2 + n) s.size).size = s.size - 2 - n := by rw [ByteArray.size_extract]; omega
  generalize s.extract (2 + n) s.size = rest at hZ hrs
  have hos : (bytes (ob R.out)).size ≤ 1048576 := by rw [bytes_size]; omega
  generalize bytes (ob R.out) = out at hZ hos
  unfold restT at hZ
  by_cases h4 : rest.size < 4
  · have e3 : decide ((rest.size : Int) < 4) = true := by simp; omega
    rw [if_pos (Or.inl h4)] at hZ
    subst hZ
    refine act_draw_of tab_ok mix md ?_
    simp only [go_sem, e3]
    exact drawOk_of (by kernel_rfl)
  have e3 : decide ((rest.size : Int) < 4) = false := by simp; omega
  refine act_draw_of tab_ok mix md ?_
  simp only [go_sem, e3]
  refine ⟨by decide, by decide, by omega, ?_⟩
  refine act_callE (c43 out hos) ?_
  simp only [go_sem]
  refine act_callE (c42 (adl out) (adl_lt out)) ?_
  have t4 : Int.toNat 4 = 4 := rfl
  simp only [go_sem, t4]
  generalize hq : ((rest.extract 0 4).toList == (four (adl out)).toList) = q
  have hq' : ((rest.extract 0 4).toList ≠ (four (adl out)).toList) ↔ q = false := by rw [← hq]; simp
  cases q
  · rw [if_pos (Or.inr (hq'.2 rfl))] at hZ
    subst hZ
    simp only [go_sem]
    exact drawOk_of (by kernel_rfl)
  rw [if_neg (fun h => h.elim (fun h => h4 h) (fun h => by simp [hq'] at h))] at hZ
  simp only [go_sem]
  refine ⟨drawOk_of (by kernel_rfl), ?_⟩
  by_cases h5 : 4 < rest.size
  · have e5 : decide ((rest.size : Int) > 4) = true := by simp; omega
    rw [if_pos h5] at hZ
    subst hZ
    simp only [go_sem, e5]
  · have e5 : decide ((rest.size : Int) > 4) = false := by simp; omega
    rw [if_neg h5] at hZ
    subst hZ
    simp only [go_sem, e5]
end Go.Proofs.YtikegeligblekaaGreat.M
