/- The table of types of the seat. Made by tab.py. -/
import Derived.Test.YtbmdncjnnlajnaaM35
import Derived.Test.YtbmdncjnnlajnaaProg
namespace Go.Proofs.Ytbmdncjnnlajnaa.M
open Go Go.Proofs
set_option maxRecDepth 100000
def tab : Tab := [
 (2, ⟨1, 8, [.t (.int .i64 0)], .int .i64⟩),
 (3, ⟨1, 8, [.t (.int .i64 0)], .int .i64⟩),
 (4, ⟨1, 1, [.t (.bool false)], .bool⟩),
 (5, ⟨1, 1, [.t (.int .u8 0)], .int .u8⟩),
 (6, ⟨1, 1, [.t (.int .u8 0)], .int .u8⟩),
 (7, ⟨4, 24, [.t (.int .i64 0), .t (.int .i64 0), .t (.bool false), .t (.int .u8 0)], .struct [(0, 2), (1, 3), (2, 4), (3, 6)]⟩),
 (8, ⟨4, 24, [.t (.int .i64 0), .t (.int .i64 0), .t (.bool false), .t (.int .u8 0)], .struct [(0, 2), (1, 3), (2, 4), (3, 6)]⟩),
 (9, ⟨1, 16, [.t (.str ⟨#[]⟩)], .str⟩),
 (10, ⟨1, 16, [.t (.str ⟨#[]⟩)], .str⟩),
 (11, ⟨1, 16, [.t (.str ⟨#[]⟩)], .str⟩),
 (12, ⟨1, 8, [.t (.int .u64 0)], .int .u64⟩),
 (13, ⟨2, 24, [.t (.str ⟨#[]⟩), .t (.int .u64 0)], .struct [(0, 9), (1, 12)]⟩),
 (14, ⟨2, 24, [.t (.str ⟨#[]⟩), .t (.int .u64 0)], .struct [(0, 9), (1, 12)]⟩),
 (15, ⟨1, 8, [.nilp], .ptr 133⟩),
 (16, ⟨1, 8, [.nilp], .ptr 136⟩),
 (17, ⟨1, 8, [.nilp], .ptr 146⟩),
 (18, ⟨1, 8, [.nilp], .struct [(0, 17)]⟩),
 (19, ⟨1, 8, [.nilp], .struct [(0, 17)]⟩),
 (21, ⟨1, 4, [.t (.int .i32 0)], .int .i32⟩),
 (22, ⟨3, 24, [.t (.int .i64 0), .t (.int .i64 0), .t (.int .i64 0)], .struct [(0, 3), (1, 3), (2, 3)]⟩),
 (23, ⟨3, 24, [.t (.int .i64 0), .t (.int .i64 0), .t (.int .i64 0)], .struct [(0, 3), (1, 3), (2, 3)]⟩),
 (25, ⟨3, 24, [.t (.int .i64 0), .t (.int .i64 0), .t (.int .i64 0)], .struct [(0, 3), (1, 3), (2, 3)]⟩),
 (30, ⟨1, 24, [.nil 1], .slice 9⟩),
 (31, ⟨1, 24, [.nil 5], .slice 33⟩),
 (32, ⟨5, 80, [.t (.int .i64 0), .t (.int .i64 0), .t (.str ⟨#[]⟩), .nil 1, .nil 5], .struct [(0, 3), (1, 3), (2, 9), (3, 30), (4, 31)]⟩),
 (33, ⟨5, 80, [.t (.int .i64 0), .t (.int .i64 0), .t (.str ⟨#[]⟩), .nil 1, .nil 5], .struct [(0, 3), (1, 3), (2, 9), (3, 30), (4, 31)]⟩),
 (35, ⟨1, 24, [.nil 5], .slice 37⟩),
 (36, ⟨5, 80, [.t (.int .i64 0), .t (.int .i64 0), .t (.str ⟨#[]⟩), .nil 1, .nil 5], .struct [(0, 3), (1, 3), (2, 9), (3, 30), (4, 35)]⟩),
 (37, ⟨5, 80, [.t (.int .i64 0), .t (.int .i64 0), .t (.str ⟨#[]⟩), .nil 1, .nil 5], .struct [(0, 3), (1, 3), (2, 9), (3, 30), (4, 35)]⟩),
 (46, ⟨1, 24, [.nil 8], .slice 112⟩),
 (47, ⟨2, 32, [.nil 8, .t (.int .i64 0)], .struct [(0, 46), (1, 3)]⟩),
 (48, ⟨2, 32, [.nil 8, .t (.int .i64 0)], .struct [(0, 46), (1, 3)]⟩),
 (51, ⟨1, 24, [.nil 8], .slice 65⟩),
 (52, ⟨2, 32, [.nil 8, .t (.int .i64 0)], .struct [(0, 51), (1, 3)]⟩),
 (53, ⟨2, 32, [.nil 8, .t (.int .i64 0)], .struct [(0, 51), (1, 3)]⟩),
 (59, ⟨1, 24, [.nil 1], .slice 5⟩),
 (64, ⟨8, 112, [.t (.int .i64 0), .t (.int .i64 0), .t (.int .i64 0), .t (.str ⟨#[]⟩), .nil 1, .nil 5, .t (.bool false), .t (.str ⟨#[]⟩)], .struct [(0, 3), (1, 37), (6, 4), (7, 9)]⟩),
 (65, ⟨8, 112, [.t (.int .i64 0), .t (.int .i64 0), .t (.int .i64 0), .t (.str ⟨#[]⟩), .nil 1, .nil 5, .t (.bool false), .t (.str ⟨#[]⟩)], .struct [(0, 3), (1, 37), (6, 4), (7, 9)]⟩),
 (88, ⟨1, 8, [.nilp], .ptr 3⟩),
 (97, ⟨1, 8, [.nilp], .ptr 120⟩),
 (111, ⟨8, 112, [.t (.int .i64 0), .t (.int .i64 0), .t (.int .i64 0), .t (.str ⟨#[]⟩), .nil 1, .nil 5, .t (.bool false), .t (.str ⟨#[]⟩)], .struct [(0, 3), (1, 33), (6, 4), (7, 9)]⟩),
 (112, ⟨8, 112, [.t (.int .i64 0), .t (.int .i64 0), .t (.int .i64 0), .t (.str ⟨#[]⟩), .nil 1, .nil 5, .t (.bool false), .t (.str ⟨#[]⟩)], .struct [(0, 3), (1, 33), (6, 4), (7, 9)]⟩),
 (119, ⟨3, 40, [.nil 1, .t (.int .i64 0), .t (.int .i64 0)], .struct [(0, 59), (1, 3), (2, 3)]⟩),
 (120, ⟨3, 40, [.nil 1, .t (.int .i64 0), .t (.int .i64 0)], .struct [(0, 59), (1, 3), (2, 3)]⟩),
 (124, ⟨1, 24, [.nil 1], .slice 3⟩),
 (128, ⟨1, 8, [.t (.int .u64 0)], .int .u64⟩),
 (132, ⟨4, 40, [.nilp, .nilp, .nilp, .t (.str ⟨#[]⟩)], .struct [(0, 17), (1, 17), (2, 17), (3, 9)]⟩),
 (133, ⟨4, 40, [.nilp, .nilp, .nilp, .t (.str ⟨#[]⟩)], .struct [(0, 17), (1, 17), (2, 17), (3, 9)]⟩),
 (134, ⟨0, 0, [], .array 0 16⟩),
 (135, ⟨0, 0, [], .struct [(0, 134)]⟩),
 (136, ⟨0, 0, [], .struct [(0, 134)]⟩),
 (138, ⟨1, 4, [.t (.int .u32 0)], .int .u32⟩),
 (139, ⟨1, 1, [.t (.int .u8 0)], .int .u8⟩),
 (140, ⟨1, 1, [.t (.int .u8 0)], .int .u8⟩),
 (142, ⟨1, 8, [.nilp], .ptr 5⟩),
 (143, ⟨1, 4, [.t (.int .i32 0)], .int .i32⟩),
 (144, ⟨1, 4, [.t (.int .i32 0)], .int .i32⟩)
]
theorem mix : Try.prog.follows .mixedOrders = true := by kernel_rfl
theorem tab_ok : TOk Try.prog tab := tabB_ok (by kernel_rfl)
@[go_sem] theorem f2 : find tab 2 = some ⟨1, 8, [.t (.int .i64 0)], .int .i64⟩ := rfl
@[go_sem] theorem t2 : tg tab 2 = ⟨1, 8, [.t (.int .i64 0)], .int .i64⟩ := rfl
@[go_sem] theorem f3 : find tab 3 = some ⟨1, 8, [.t (.int .i64 0)], .int .i64⟩ := rfl
@[go_sem] theorem t3 : tg tab 3 = ⟨1, 8, [.t (.int .i64 0)], .int .i64⟩ := rfl
@[go_sem] theorem f4 : find tab 4 = some ⟨1, 1, [.t (.bool false)], .bool⟩ := rfl
@[go_sem] theorem t4 : tg tab 4 = ⟨1, 1, [.t (.bool false)], .bool⟩ := rfl
@[go_sem] theorem f5 : find tab 5 = some ⟨1, 1, [.t (.int .u8 0)], .int .u8⟩ := rfl
@[go_sem] theorem t5 : tg tab 5 = ⟨1, 1, [.t (.int .u8 0)], .int .u8⟩ := rfl
@[go_sem] theorem f6 : find tab 6 = some ⟨1, 1, [.t (.int .u8 0)], .int .u8⟩ := rfl
@[go_sem] theorem t6 : tg tab 6 = ⟨1, 1, [.t (.int .u8 0)], .int .u8⟩ := rfl
@[go_sem] theorem f7 : find tab 7 = some ⟨4, 24, [.t (.int .i64 0), .t (.int .i64 0), .t (.bool false), .t (.int .u8 0)], .struct [(0, 2), (1, 3), (2, 4), (3, 6)]⟩ := rfl
@[go_sem] theorem t7 : tg tab 7 = ⟨4, 24, [.t (.int .i64 0), .t (.int .i64 0), .t (.bool false), .t (.int .u8 0)], .struct [(0, 2), (1, 3), (2, 4), (3, 6)]⟩ := rfl
@[go_sem] theorem f8 : find tab 8 = some ⟨4, 24, [.t (.int .i64 0), .t (.int .i64 0), .t (.bool false), .t (.int .u8 0)], .struct [(0, 2), (1, 3), (2, 4), (3, 6)]⟩ := rfl
@[go_sem] theorem t8 : tg tab 8 = ⟨4, 24, [.t (.int .i64 0), .t (.int .i64 0), .t (.bool false), .t (.int .u8 0)], .struct [(0, 2), (1, 3), (2, 4), (3, 6)]⟩ := rfl
@[go_sem] theorem f9 : find tab 9 = some ⟨1, 16, [.t (.str ⟨#[]⟩)], .str⟩ := rfl
@[go_sem] theorem t9 : tg tab 9 = ⟨1, 16, [.t (.str ⟨#[]⟩)], .str⟩ := rfl
@[go_sem] theorem f10 : find tab 10 = some ⟨1, 16, [.t (.str ⟨#[]⟩)], .str⟩ := rfl
@[go_sem] theorem t10 : tg tab 10 = ⟨1, 16, [.t (.str ⟨#[]⟩)], .str⟩ := rfl
@[go_sem] theorem f11 : find tab 11 = some ⟨1, 16, [.t (.str ⟨#[]⟩)], .str⟩ := rfl
@[go_sem] theorem t11 : tg tab 11 = ⟨1, 16, [.t (.str ⟨#[]⟩)], .str⟩ := rfl
@[go_sem] theorem f12 : find tab 12 = some ⟨1, 8, [.t (.int .u64 0)], .int .u64⟩ := rfl
@[go_sem] theorem t12 : tg tab 12 = ⟨1, 8, [.t (.int .u64 0)], .int .u64⟩ := rfl
@[go_sem] theorem f13 : find tab 13 = some ⟨2, 24, [.t (.str ⟨#[]⟩), .t (.int .u64 0)], .struct [(0, 9), (1, 12)]⟩ := rfl
@[go_sem] theorem t13 : tg tab 13 = ⟨2, 24, [.t (.str ⟨#[]⟩), .t (.int .u64 0)], .struct [(0, 9), (1, 12)]⟩ := rfl
@[go_sem] theorem f14 : find tab 14 = some ⟨2, 24, [.t (.str ⟨#[]⟩), .t (.int .u64 0)], .struct [(0, 9), (1, 12)]⟩ := rfl
@[go_sem] theorem t14 : tg tab 14 = ⟨2, 24, [.t (.str ⟨#[]⟩), .t (.int .u64 0)], .struct [(0, 9), (1, 12)]⟩ := rfl
@[go_sem] theorem f15 : find tab 15 = some ⟨1, 8, [.nilp], .ptr 133⟩ := rfl
@[go_sem] theorem t15 : tg tab 15 = ⟨1, 8, [.nilp], .ptr 133⟩ := rfl
@[go_sem] theorem f16 : find tab 16 = some ⟨1, 8, [.nilp], .ptr 136⟩ := rfl
@[go_sem] theorem t16 : tg tab 16 = ⟨1, 8, [.nilp], .ptr 136⟩ := rfl
@[go_sem] theorem f17 : find tab 17 = some ⟨1, 8, [.nilp], .ptr 146⟩ := rfl
@[go_sem] theorem t17 : tg tab 17 = ⟨1, 8, [.nilp], .ptr 146⟩ := rfl
@[go_sem] theorem f18 : find tab 18 = some ⟨1, 8, [.nilp], .struct [(0, 17)]⟩ := rfl
@[go_sem] theorem t18 : tg tab 18 = ⟨1, 8, [.nilp], .struct [(0, 17)]⟩ := rfl
@[go_sem] theorem f19 : find tab 19 = some ⟨1, 8, [.nilp], .struct [(0, 17)]⟩ := rfl
@[go_sem] theorem t19 : tg tab 19 = ⟨1, 8, [.nilp], .struct [(0, 17)]⟩ := rfl
@[go_sem] theorem f21 : find tab 21 = some ⟨1, 4, [.t (.int .i32 0)], .int .i32⟩ := rfl
@[go_sem] theorem t21 : tg tab 21 = ⟨1, 4, [.t (.int .i32 0)], .int .i32⟩ := rfl
@[go_sem] theorem f22 : find tab 22 = some ⟨3, 24, [.t (.int .i64 0), .t (.int .i64 0), .t (.int .i64 0)], .struct [(0, 3), (1, 3), (2, 3)]⟩ := rfl
@[go_sem] theorem t22 : tg tab 22 = ⟨3, 24, [.t (.int .i64 0), .t (.int .i64 0), .t (.int .i64 0)], .struct [(0, 3), (1, 3), (2, 3)]⟩ := rfl
@[go_sem] theorem f23 : find tab 23 = some ⟨3, 24, [.t (.int .i64 0), .t (.int .i64 0), .t (.int .i64 0)], .struct [(0, 3), (1, 3), (2, 3)]⟩ := rfl
@[go_sem] theorem t23 : tg tab 23 = ⟨3, 24, [.t (.int .i64 0), .t (.int .i64 0), .t (.int .i64 0)], .struct [(0, 3), (1, 3), (2, 3)]⟩ := rfl
@[go_sem] theorem f25 : find tab 25 = some ⟨3, 24, [.t (.int .i64 0), .t (.int .i64 0), .t (.int .i64 0)], .struct [(0, 3), (1, 3), (2, 3)]⟩ := rfl
@[go_sem] theorem t25 : tg tab 25 = ⟨3, 24, [.t (.int .i64 0), .t (.int .i64 0), .t (.int .i64 0)], .struct [(0, 3), (1, 3), (2, 3)]⟩ := rfl
@[go_sem] theorem f30 : find tab 30 = some ⟨1, 24, [.nil 1], .slice 9⟩ := rfl
@[go_sem] theorem t30 : tg tab 30 = ⟨1, 24, [.nil 1], .slice 9⟩ := rfl
@[go_sem] theorem f31 : find tab 31 = some ⟨1, 24, [.nil 5], .slice 33⟩ := rfl
@[go_sem] theorem t31 : tg tab 31 = ⟨1, 24, [.nil 5], .slice 33⟩ := rfl
@[go_sem] theorem f32 : find tab 32 = some ⟨5, 80, [.t (.int .i64 0), .t (.int .i64 0), .t (.str ⟨#[]⟩), .nil 1, .nil 5], .struct [(0, 3), (1, 3), (2, 9), (3, 30), (4, 31)]⟩ := rfl
@[go_sem] theorem t32 : tg tab 32 = ⟨5, 80, [.t (.int .i64 0), .t (.int .i64 0), .t (.str ⟨#[]⟩), .nil 1, .nil 5], .struct [(0, 3), (1, 3), (2, 9), (3, 30), (4, 31)]⟩ := rfl
@[go_sem] theorem f33 : find tab 33 = some ⟨5, 80, [.t (.int .i64 0), .t (.int .i64 0), .t (.str ⟨#[]⟩), .nil 1, .nil 5], .struct [(0, 3), (1, 3), (2, 9), (3, 30), (4, 31)]⟩ := rfl
@[go_sem] theorem t33 : tg tab 33 = ⟨5, 80, [.t (.int .i64 0), .t (.int .i64 0), .t (.str ⟨#[]⟩), .nil 1, .nil 5], .struct [(0, 3), (1, 3), (2, 9), (3, 30), (4, 31)]⟩ := rfl
@[go_sem] theorem f35 : find tab 35 = some ⟨1, 24, [.nil 5], .slice 37⟩ := rfl
@[go_sem] theorem t35 : tg tab 35 = ⟨1, 24, [.nil 5], .slice 37⟩ := rfl
@[go_sem] theorem f36 : find tab 36 = some ⟨5, 80, [.t (.int .i64 0), .t (.int .i64 0), .t (.str ⟨#[]⟩), .nil 1, .nil 5], .struct [(0, 3), (1, 3), (2, 9), (3, 30), (4, 35)]⟩ := rfl
@[go_sem] theorem t36 : tg tab 36 = ⟨5, 80, [.t (.int .i64 0), .t (.int .i64 0), .t (.str ⟨#[]⟩), .nil 1, .nil 5], .struct [(0, 3), (1, 3), (2, 9), (3, 30), (4, 35)]⟩ := rfl
@[go_sem] theorem f37 : find tab 37 = some ⟨5, 80, [.t (.int .i64 0), .t (.int .i64 0), .t (.str ⟨#[]⟩), .nil 1, .nil 5], .struct [(0, 3), (1, 3), (2, 9), (3, 30), (4, 35)]⟩ := rfl
@[go_sem] theorem t37 : tg tab 37 = ⟨5, 80, [.t (.int .i64 0), .t (.int .i64 0), .t (.str ⟨#[]⟩), .nil 1, .nil 5], .struct [(0, 3), (1, 3), (2, 9), (3, 30), (4, 35)]⟩ := rfl
@[go_sem] theorem f46 : find tab 46 = some ⟨1, 24, [.nil 8], .slice 112⟩ := rfl
@[go_sem] theorem t46 : tg tab 46 = ⟨1, 24, [.nil 8], .slice 112⟩ := rfl
@[go_sem] theorem f47 : find tab 47 = some ⟨2, 32, [.nil 8, .t (.int .i64 0)], .struct [(0, 46), (1, 3)]⟩ := rfl
@[go_sem] theorem t47 : tg tab 47 = ⟨2, 32, [.nil 8, .t (.int .i64 0)], .struct [(0, 46), (1, 3)]⟩ := rfl
@[go_sem] theorem f48 : find tab 48 = some ⟨2, 32, [.nil 8, .t (.int .i64 0)], .struct [(0, 46), (1, 3)]⟩ := rfl
@[go_sem] theorem t48 : tg tab 48 = ⟨2, 32, [.nil 8, .t (.int .i64 0)], .struct [(0, 46), (1, 3)]⟩ := rfl
@[go_sem] theorem f51 : find tab 51 = some ⟨1, 24, [.nil 8], .slice 65⟩ := rfl
@[go_sem] theorem t51 : tg tab 51 = ⟨1, 24, [.nil 8], .slice 65⟩ := rfl
@[go_sem] theorem f52 : find tab 52 = some ⟨2, 32, [.nil 8, .t (.int .i64 0)], .struct [(0, 51), (1, 3)]⟩ := rfl
@[go_sem] theorem t52 : tg tab 52 = ⟨2, 32, [.nil 8, .t (.int .i64 0)], .struct [(0, 51), (1, 3)]⟩ := rfl
@[go_sem] theorem f53 : find tab 53 = some ⟨2, 32, [.nil 8, .t (.int .i64 0)], .struct [(0, 51), (1, 3)]⟩ := rfl
@[go_sem] theorem t53 : tg tab 53 = ⟨2, 32, [.nil 8, .t (.int .i64 0)], .struct [(0, 51), (1, 3)]⟩ := rfl
@[go_sem] theorem f59 : find tab 59 = some ⟨1, 24, [.nil 1], .slice 5⟩ := rfl
@[go_sem] theorem t59 : tg tab 59 = ⟨1, 24, [.nil 1], .slice 5⟩ := rfl
@[go_sem] theorem f64 : find tab 64 = some ⟨8, 112, [.t (.int .i64 0), .t (.int .i64 0), .t (.int .i64 0), .t (.str ⟨#[]⟩), .nil 1, .nil 5, .t (.bool false), .t (.str ⟨#[]⟩)], .struct [(0, 3), (1, 37), (6, 4), (7, 9)]⟩ := rfl
@[go_sem] theorem t64 : tg tab 64 = ⟨8, 112, [.t (.int .i64 0), .t (.int .i64 0), .t (.int .i64 0), .t (.str ⟨#[]⟩), .nil 1, .nil 5, .t (.bool false), .t (.str ⟨#[]⟩)], .struct [(0, 3), (1, 37), (6, 4), (7, 9)]⟩ := rfl
@[go_sem] theorem f65 : find tab 65 = some ⟨8, 112, [.t (.int .i64 0), .t (.int .i64 0), .t (.int .i64 0), .t (.str ⟨#[]⟩), .nil 1, .nil 5, .t (.bool false), .t (.str ⟨#[]⟩)], .struct [(0, 3), (1, 37), (6, 4), (7, 9)]⟩ := rfl
@[go_sem] theorem t65 : tg tab 65 = ⟨8, 112, [.t (.int .i64 0), .t (.int .i64 0), .t (.int .i64 0), .t (.str ⟨#[]⟩), .nil 1, .nil 5, .t (.bool false), .t (.str ⟨#[]⟩)], .struct [(0, 3), (1, 37), (6, 4), (7, 9)]⟩ := rfl
@[go_sem] theorem f88 : find tab 88 = some ⟨1, 8, [.nilp], .ptr 3⟩ := rfl
@[go_sem] theorem t88 : tg tab 88 = ⟨1, 8, [.nilp], .ptr 3⟩ := rfl
@[go_sem] theorem f97 : find tab 97 = some ⟨1, 8, [.nilp], .ptr 120⟩ := rfl
@[go_sem] theorem t97 : tg tab 97 = ⟨1, 8, [.nilp], .ptr 120⟩ := rfl
@[go_sem] theorem f111 : find tab 111 = some ⟨8, 112, [.t (.int .i64 0), .t (.int .i64 0), .t (.int .i64 0), .t (.str ⟨#[]⟩), .nil 1, .nil 5, .t (.bool false), .t (.str ⟨#[]⟩)], .struct [(0, 3), (1, 33), (6, 4), (7, 9)]⟩ := rfl
@[go_sem] theorem t111 : tg tab 111 = ⟨8, 112, [.t (.int .i64 0), .t (.int .i64 0), .t (.int .i64 0), .t (.str ⟨#[]⟩), .nil 1, .nil 5, .t (.bool false), .t (.str ⟨#[]⟩)], .struct [(0, 3), (1, 33), (6, 4), (7, 9)]⟩ := rfl
@[go_sem] theorem f112 : find tab 112 = some ⟨8, 112, [.t (.int .i64 0), .t (.int .i64 0), .t (.int .i64 0), .t (.str ⟨#[]⟩), .nil 1, .nil 5, .t (.bool false), .t (.str ⟨#[]⟩)], .struct [(0, 3), (1, 33), (6, 4), (7, 9)]⟩ := rfl
@[go_sem] theorem t112 : tg tab 112 = ⟨8, 112, [.t (.int .i64 0), .t (.int .i64 0), .t (.int .i64 0), .t (.str ⟨#[]⟩), .nil 1, .nil 5, .t (.bool false), .t (.str ⟨#[]⟩)], .struct [(0, 3), (1, 33), (6, 4), (7, 9)]⟩ := rfl
@[go_sem] theorem f119 : find tab 119 = some ⟨3, 40, [.nil 1, .t (.int .i64 0), .t (.int .i64 0)], .struct [(0, 59), (1, 3), (2, 3)]⟩ := rfl
@[go_sem] theorem t119 : tg tab 119 = ⟨3, 40, [.nil 1, .t (.int .i64 0), .t (.int .i64 0)], .struct [(0, 59), (1, 3), (2, 3)]⟩ := rfl
@[go_sem] theorem f120 : find tab 120 = some ⟨3, 40, [.nil 1, .t (.int .i64 0), .t (.int .i64 0)], .struct [(0, 59), (1, 3), (2, 3)]⟩ := rfl
@[go_sem] theorem t120 : tg tab 120 = ⟨3, 40, [.nil 1, .t (.int .i64 0), .t (.int .i64 0)], .struct [(0, 59), (1, 3), (2, 3)]⟩ := rfl
@[go_sem] theorem f124 : find tab 124 = some ⟨1, 24, [.nil 1], .slice 3⟩ := rfl
@[go_sem] theorem t124 : tg tab 124 = ⟨1, 24, [.nil 1], .slice 3⟩ := rfl
@[go_sem] theorem f128 : find tab 128 = some ⟨1, 8, [.t (.int .u64 0)], .int .u64⟩ := rfl
@[go_sem] theorem t128 : tg tab 128 = ⟨1, 8, [.t (.int .u64 0)], .int .u64⟩ := rfl
@[go_sem] theorem f132 : find tab 132 = some ⟨4, 40, [.nilp, .nilp, .nilp, .t (.str ⟨#[]⟩)], .struct [(0, 17), (1, 17), (2, 17), (3, 9)]⟩ := rfl
@[go_sem] theorem t132 : tg tab 132 = ⟨4, 40, [.nilp, .nilp, .nilp, .t (.str ⟨#[]⟩)], .struct [(0, 17), (1, 17), (2, 17), (3, 9)]⟩ := rfl
@[go_sem] theorem f133 : find tab 133 = some ⟨4, 40, [.nilp, .nilp, .nilp, .t (.str ⟨#[]⟩)], .struct [(0, 17), (1, 17), (2, 17), (3, 9)]⟩ := rfl
@[go_sem] theorem t133 : tg tab 133 = ⟨4, 40, [.nilp, .nilp, .nilp, .t (.str ⟨#[]⟩)], .struct [(0, 17), (1, 17), (2, 17), (3, 9)]⟩ := rfl
@[go_sem] theorem f134 : find tab 134 = some ⟨0, 0, [], .array 0 16⟩ := rfl
@[go_sem] theorem t134 : tg tab 134 = ⟨0, 0, [], .array 0 16⟩ := rfl
@[go_sem] theorem f135 : find tab 135 = some ⟨0, 0, [], .struct [(0, 134)]⟩ := rfl
@[go_sem] theorem t135 : tg tab 135 = ⟨0, 0, [], .struct [(0, 134)]⟩ := rfl
@[go_sem] theorem f136 : find tab 136 = some ⟨0, 0, [], .struct [(0, 134)]⟩ := rfl
@[go_sem] theorem t136 : tg tab 136 = ⟨0, 0, [], .struct [(0, 134)]⟩ := rfl
@[go_sem] theorem f138 : find tab 138 = some ⟨1, 4, [.t (.int .u32 0)], .int .u32⟩ := rfl
@[go_sem] theorem t138 : tg tab 138 = ⟨1, 4, [.t (.int .u32 0)], .int .u32⟩ := rfl
@[go_sem] theorem f139 : find tab 139 = some ⟨1, 1, [.t (.int .u8 0)], .int .u8⟩ := rfl
@[go_sem] theorem t139 : tg tab 139 = ⟨1, 1, [.t (.int .u8 0)], .int .u8⟩ := rfl
@[go_sem] theorem f140 : find tab 140 = some ⟨1, 1, [.t (.int .u8 0)], .int .u8⟩ := rfl
@[go_sem] theorem t140 : tg tab 140 = ⟨1, 1, [.t (.int .u8 0)], .int .u8⟩ := rfl
@[go_sem] theorem f142 : find tab 142 = some ⟨1, 8, [.nilp], .ptr 5⟩ := rfl
@[go_sem] theorem t142 : tg tab 142 = ⟨1, 8, [.nilp], .ptr 5⟩ := rfl
@[go_sem] theorem f143 : find tab 143 = some ⟨1, 4, [.t (.int .i32 0)], .int .i32⟩ := rfl
@[go_sem] theorem t143 : tg tab 143 = ⟨1, 4, [.t (.int .i32 0)], .int .i32⟩ := rfl
@[go_sem] theorem f144 : find tab 144 = some ⟨1, 4, [.t (.int .i32 0)], .int .i32⟩ := rfl
@[go_sem] theorem t144 : tg tab 144 = ⟨1, 4, [.t (.int .i32 0)], .int .i32⟩ := rfl
end Go.Proofs.Ytbmdncjnnlajnaa.M
