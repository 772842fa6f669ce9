/- The table of types of the seat. Made by tab.py. -/
import Derived.Test.YtikegeligblekaaGreatProg
import Derived.Test.YtikegeligblekaaGreatKExactSameDoc4
/- The table of types of the seat. Made by tab.py. -/
namespace Go.Proofs.YtikegeligblekaaGreat.M
open Go Go.Proofs
set_option maxRecDepth 100000
def tab : Tab := [
 (2, ⟨1, 8, [.t (.int .i64 0)], .int .i64⟩),
 (3, ⟨1, 8, [.t (.int .i64 0)], .int .i64⟩),
 (4, ⟨1, 1, [.t (.bool false)], .bool⟩),
 (5, ⟨1, 1, [.t (.int .u8 0)], .int .u8⟩),
 (6, ⟨1, 1, [.t (.int .u8 0)], .int .u8⟩),
 (7, ⟨4, 24, [.t (.int .i64 0), .t (.int .i64 0), .t (.bool false), .t (.int .u8 0)], .struct [(0, 2), (1, 3), (2, 4), (3, 6)]⟩),
 (8, ⟨4, 24, [.t (.int .i64 0), .t (.int .i64 0), .t (.bool false), .t (.int .u8 0)], .struct [(0, 2), (1, 3), (2, 4), (3, 6)]⟩),
 (9, ⟨1, 16, [.t (.str ⟨#[]⟩)], .str⟩),
 (10, ⟨1, 16, [.t (.str ⟨#[]⟩)], .str⟩),
 (11, ⟨1, 16, [.t (.str ⟨#[]⟩)], .str⟩),
 (12, ⟨1, 8, [.t (.int .u64 0)], .int .u64⟩),
 (13, ⟨2, 24, [.t (.str ⟨#[]⟩), .t (.int .u64 0)], .struct [(0, 9), (1, 12)]⟩),
 (14, ⟨2, 24, [.t (.str ⟨#[]⟩), .t (.int .u64 0)], .struct [(0, 9), (1, 12)]⟩),
 (15, ⟨1, 8, [.nilp], .ptr 169⟩),
 (16, ⟨1, 8, [.nilp], .ptr 172⟩),
 (17, ⟨1, 8, [.nilp], .ptr 181⟩),
 (18, ⟨1, 8, [.nilp], .struct [(0, 17)]⟩),
 (19, ⟨1, 8, [.nilp], .struct [(0, 17)]⟩),
 (21, ⟨1, 4, [.t (.int .i32 0)], .int .i32⟩),
 (22, ⟨1, 24, [.nil 8], .slice 52⟩),
 (23, ⟨2, 32, [.nil 8, .t (.int .i64 0)], .struct [(0, 22), (1, 3)]⟩),
 (24, ⟨2, 32, [.nil 8, .t (.int .i64 0)], .struct [(0, 22), (1, 3)]⟩),
 (27, ⟨1, 24, [.nil 8], .slice 39⟩),
 (28, ⟨2, 32, [.nil 8, .t (.int .i64 0)], .struct [(0, 27), (1, 3)]⟩),
 (29, ⟨2, 32, [.nil 8, .t (.int .i64 0)], .struct [(0, 27), (1, 3)]⟩),
 (34, ⟨1, 24, [.nil 1], .slice 9⟩),
 (35, ⟨1, 24, [.nil 5], .slice 37⟩),
 (36, ⟨5, 80, [.t (.int .i64 0), .t (.int .i64 0), .t (.str ⟨#[]⟩), .nil 1, .nil 5], .struct [(0, 3), (1, 3), (2, 9), (3, 34), (4, 35)]⟩),
 (37, ⟨5, 80, [.t (.int .i64 0), .t (.int .i64 0), .t (.str ⟨#[]⟩), .nil 1, .nil 5], .struct [(0, 3), (1, 3), (2, 9), (3, 34), (4, 35)]⟩),
 (38, ⟨8, 112, [.t (.int .i64 0), .t (.int .i64 0), .t (.int .i64 0), .t (.str ⟨#[]⟩), .nil 1, .nil 5, .t (.bool false), .t (.str ⟨#[]⟩)], .struct [(0, 3), (1, 37), (6, 4), (7, 9)]⟩),
 (39, ⟨8, 112, [.t (.int .i64 0), .t (.int .i64 0), .t (.int .i64 0), .t (.str ⟨#[]⟩), .nil 1, .nil 5, .t (.bool false), .t (.str ⟨#[]⟩)], .struct [(0, 3), (1, 37), (6, 4), (7, 9)]⟩),
 (48, ⟨1, 24, [.nil 5], .slice 50⟩),
 (49, ⟨5, 80, [.t (.int .i64 0), .t (.int .i64 0), .t (.str ⟨#[]⟩), .nil 1, .nil 5], .struct [(0, 3), (1, 3), (2, 9), (3, 34), (4, 48)]⟩),
 (50, ⟨5, 80, [.t (.int .i64 0), .t (.int .i64 0), .t (.str ⟨#[]⟩), .nil 1, .nil 5], .struct [(0, 3), (1, 3), (2, 9), (3, 34), (4, 48)]⟩),
 (51, ⟨8, 112, [.t (.int .i64 0), .t (.int .i64 0), .t (.int .i64 0), .t (.str ⟨#[]⟩), .nil 1, .nil 5, .t (.bool false), .t (.str ⟨#[]⟩)], .struct [(0, 3), (1, 50), (6, 4), (7, 9)]⟩),
 (52, ⟨8, 112, [.t (.int .i64 0), .t (.int .i64 0), .t (.int .i64 0), .t (.str ⟨#[]⟩), .nil 1, .nil 5, .t (.bool false), .t (.str ⟨#[]⟩)], .struct [(0, 3), (1, 50), (6, 4), (7, 9)]⟩),
 (58, ⟨1, 24, [.nil 1], .slice 5⟩),
 (71, ⟨1, 8, [.nilp], .ptr 3⟩),
 (76, ⟨1, 4, [.t (.int .u32 0)], .int .u32⟩),
 (85, ⟨2, 24, [.t (.str ⟨#[]⟩), .t (.int .i64 0)], .struct [(0, 9), (1, 3)]⟩),
 (86, ⟨2, 24, [.t (.str ⟨#[]⟩), .t (.int .i64 0)], .struct [(0, 9), (1, 3)]⟩),
 (87, ⟨1, 24, [.nil 1], .slice 3⟩),
 (88, ⟨6, 88, [.t (.str ⟨#[]⟩), .t (.int .i64 0), .nil 1, .t (.int .i64 0), .t (.int .i64 0), .nil 1], .struct [(0, 86), (2, 58), (3, 3), (4, 3), (5, 87)]⟩),
 (89, ⟨6, 88, [.t (.str ⟨#[]⟩), .t (.int .i64 0), .nil 1, .t (.int .i64 0), .t (.int .i64 0), .nil 1], .struct [(0, 86), (2, 58), (3, 3), (4, 3), (5, 87)]⟩),
 (99, ⟨1, 8, [.t (.int .u64 0)], .int .u64⟩),
 (103, ⟨1, 8, [.nilp], .ptr 89⟩),
 (109, ⟨1, 8, [.nilp], .ptr 112⟩),
 (111, ⟨6, 88, [.t (.str ⟨#[]⟩), .t (.int .i64 0), .t (.int .i64 0), .nil 1, .nil 1, .t (.int .i64 0)], .struct [(0, 9), (1, 3), (2, 3), (3, 58), (4, 87), (5, 3)]⟩),
 (112, ⟨6, 88, [.t (.str ⟨#[]⟩), .t (.int .i64 0), .t (.int .i64 0), .nil 1, .nil 1, .t (.int .i64 0)], .struct [(0, 9), (1, 3), (2, 3), (3, 58), (4, 87), (5, 3)]⟩),
 (129, ⟨2, 16, [.t (.int .i64 0), .t (.int .i64 0)], .struct [(0, 3), (1, 3)]⟩),
 (130, ⟨2, 16, [.t (.int .i64 0), .t (.int .i64 0)], .struct [(0, 3), (1, 3)]⟩),
 (136, ⟨4, 40, [.t (.int .i64 0), .t (.str ⟨#[]⟩), .t (.int .i64 0), .t (.int .i64 0)], .struct [(0, 3), (1, 86), (3, 3)]⟩),
 (137, ⟨4, 40, [.t (.int .i64 0), .t (.str ⟨#[]⟩), .t (.int .i64 0), .t (.int .i64 0)], .struct [(0, 3), (1, 86), (3, 3)]⟩),
 (141, ⟨1, 8, [.nilp], .ptr 153⟩),
 (151, ⟨16, 128, [.t (.int .i64 0), .t (.int .i64 0), .t (.int .i64 0), .t (.int .i64 0), .t (.int .i64 0), .t (.int .i64 0), .t (.int .i64 0), .t (.int .i64 0), .t (.int .i64 0), .t (.int .i64 0), .t (.int .i64 0), .t (.int .i64 0), .t (.int .i64 0), .t (.int .i64 0), .t (.int .i64 0), .t (.int .i64 0)], .array 16 3⟩),
 (152, ⟨34, 288, [.t (.int .i64 0), .t (.int .i64 0), .t (.int .i64 0), .t (.int .i64 0), .t (.int .i64 0), .t (.int .i64 0), .t (.int .i64 0), .t (.int .i64 0), .t (.int .i64 0), .t (.int .i64 0), .t (.int .i64 0), .t (.int .i64 0), .t (.int .i64 0), .t (.int .i64 0), .t (.int .i64 0), .t (.int .i64 0), .t (.int .i64 0), .t (.int .i64 0), .t (.int .i64 0), .t (.int .i64 0), .t (.int .i64 0), .t (.int .i64 0), .t (.int .i64 0), .t (.int .i64 0), .t (.int .i64 0), .t (.int .i64 0), .t (.int .i64 0), .t (.int .i64 0), .t (.int .i64 0), .t (.int .i64 0), .t (.int .i64 0), .t (.int .i64 0), .nil 1, .t (.int .i64 0)], .struct [(0, 151), (16, 151), (32, 87), (33, 3)]⟩),
 (153, ⟨34, 288, [.t (.int .i64 0), .t (.int .i64 0), .t (.int .i64 0), .t (.int .i64 0), .t (.int .i64 0), .t (.int .i64 0), .t (.int .i64 0), .t (.int .i64 0), .t (.int .i64 0), .t (.int .i64 0), .t (.int .i64 0), .t (.int .i64 0), .t (.int .i64 0), .t (.int .i64 0), .t (.int .i64 0), .t (.int .i64 0), .t (.int .i64 0), .t (.int .i64 0), .t (.int .i64 0), .t (.int .i64 0), .t (.int .i64 0), .t (.int .i64 0), .t (.int .i64 0), .t (.int .i64 0), .t (.int .i64 0), .t (.int .i64 0), .t (.int .i64 0), .t (.int .i64 0), .t (.int .i64 0), .t (.int .i64 0), .t (.int .i64 0), .t (.int .i64 0), .nil 1, .t (.int .i64 0)], .struct [(0, 151), (16, 151), (32, 87), (33, 3)]⟩),
 (156, ⟨1, 24, [.nil 1], .slice 87⟩),
 (164, ⟨1, 8, [.t (.int .u64 0)], .int .u64⟩),
 (168, ⟨4, 40, [.nilp, .nilp, .nilp, .t (.str ⟨#[]⟩)], .struct [(0, 17), (1, 17), (2, 17), (3, 9)]⟩),
 (169, ⟨4, 40, [.nilp, .nilp, .nilp, .t (.str ⟨#[]⟩)], .struct [(0, 17), (1, 17), (2, 17), (3, 9)]⟩),
 (170, ⟨0, 0, [], .array 0 16⟩),
 (171, ⟨0, 0, [], .struct [(0, 170)]⟩),
 (172, ⟨0, 0, [], .struct [(0, 170)]⟩),
 (174, ⟨1, 1, [.t (.int .u8 0)], .int .u8⟩),
 (175, ⟨1, 1, [.t (.int .u8 0)], .int .u8⟩),
 (177, ⟨1, 8, [.nilp], .ptr 5⟩),
 (178, ⟨1, 4, [.t (.int .i32 0)], .int .i32⟩),
 (179, ⟨1, 4, [.t (.int .i32 0)], .int .i32⟩)
]
theorem mix : Tryz.prog.follows .mixedOrders = true := by kernel_rfl
theorem tab_ok : TOk Tryz.prog tab := tabB_ok (by kernel_rfl)
@[go_sem] theorem f2 : find tab 2 = some ⟨1, 8, [.t (.int .i64 0)], .int .i64⟩ := rfl
@[go_sem] theorem t2 : tg tab 2 = ⟨1, 8, [.t (.int .i64 0)], .int .i64⟩ := rfl
@[go_sem] theorem f3 : find tab 3 = some ⟨1, 8, [.t (.int .i64 0)], .int .i64⟩ := rfl
@[go_sem] theorem t3 : tg tab 3 = ⟨1, 8, [.t (.int .i64 0)], .int .i64⟩ := rfl
@[go_sem] theorem f4 : find tab 4 = some ⟨1, 1, [.t (.bool false)], .bool⟩ := rfl
@[go_sem] theorem t4 : tg tab 4 = ⟨1, 1, [.t (.bool false)], .bool⟩ := rfl
@[go_sem] theorem f5 : find tab 5 = some ⟨1, 1, [.t (.int .u8 0)], .int .u8⟩ := rfl
@[go_sem] theorem t5 : tg tab 5 = ⟨1, 1, [.t (.int .u8 0)], .int .u8⟩ := rfl
@[go_sem] theorem f6 : find tab 6 = some ⟨1, 1, [.t (.int .u8 0)], .int .u8⟩ := rfl
@[go_sem] theorem t6 : tg tab 6 = ⟨1, 1, [.t (.int .u8 0)], .int .u8⟩ := rfl
@[go_sem] theorem f7 : find tab 7 = some ⟨4, 24, [.t (.int .i64 0), .t (.int .i64 0), .t (.bool false), .t (.int .u8 0)], .struct [(0, 2), (1, 3), (2, 4), (3, 6)]⟩ := rfl
@[go_sem] theorem t7 : tg tab 7 = ⟨4, 24, [.t (.int .i64 0), .t (.int .i64 0), .t (.bool false), .t (.int .u8 0)], .struct [(0, 2), (1, 3), (2, 4), (3, 6)]⟩ := rfl
@[go_sem] theorem f8 : find tab 8 = some ⟨4, 24, [.t (.int .i64 0), .t (.int .i64 0), .t (.bool false), .t (.int .u8 0)], .struct [(0, 2), (1, 3), (2, 4), (3, 6)]⟩ := rfl
@[go_sem] theorem t8 : tg tab 8 = ⟨4, 24, [.t (.int .i64 0), .t (.int .i64 0), .t (.bool false), .t (.int .u8 0)], .struct [(0, 2), (1, 3), (2, 4), (3, 6)]⟩ := rfl
@[go_sem] theorem f9 : find tab 9 = some ⟨1, 16, [.t (.str ⟨#[]⟩)], .str⟩ := rfl
@[go_sem] theorem t9 : tg tab 9 = ⟨1, 16, [.t (.str ⟨#[]⟩)], .str⟩ := rfl
@[go_sem] theorem f10 : find tab 10 = some ⟨1, 16, [.t (.str ⟨#[]⟩)], .str⟩ := rfl
@[go_sem] theorem t10 : tg tab 10 = ⟨1, 16, [.t (.str ⟨#[]⟩)], .str⟩ := rfl
@[go_sem] theorem f11 : find tab 11 = some ⟨1, 16, [.t (.str ⟨#[]⟩)], .str⟩ := rfl
@[go_sem] theorem t11 : tg tab 11 = ⟨1, 16, [.t (.str ⟨#[]⟩)], .str⟩ := rfl
@[go_sem] theorem f12 : find tab 12 = some ⟨1, 8, [.t (.int .u64 0)], .int .u64⟩ := rfl
@[go_sem] theorem t12 : tg tab 12 = ⟨1, 8, [.t (.int .u64 0)], .int .u64⟩ := rfl
@[go_sem] theorem f13 : find tab 13 = some ⟨2, 24, [.t (.str ⟨#[]⟩), .t (.int .u64 0)], .struct [(0, 9), (1, 12)]⟩ := rfl
@[go_sem] theorem t13 : tg tab 13 = ⟨2, 24, [.t (.str ⟨#[]⟩), .t (.int .u64 0)], .struct [(0, 9), (1, 12)]⟩ := rfl
@[go_sem] theorem f14 : find tab 14 = some ⟨2, 24, [.t (.str ⟨#[]⟩), .t (.int .u64 0)], .struct [(0, 9), (1, 12)]⟩ := rfl
@[go_sem] theorem t14 : tg tab 14 = ⟨2, 24, [.t (.str ⟨#[]⟩), .t (.int .u64 0)], .struct [(0, 9), (1, 12)]⟩ := rfl
@[go_sem] theorem f15 : find tab 15 = some ⟨1, 8, [.nilp], .ptr 169⟩ := rfl
@[go_sem] theorem t15 : tg tab 15 = ⟨1, 8, [.nilp], .ptr 169⟩ := rfl
@[go_sem] theorem f16 : find tab 16 = some ⟨1, 8, [.nilp], .ptr 172⟩ := rfl
@[go_sem] theorem t16 : tg tab 16 = ⟨1, 8, [.nilp], .ptr 172⟩ := rfl
@[go_sem] theorem f17 : find tab 17 = some ⟨1, 8, [.nilp], .ptr 181⟩ := rfl
@[go_sem] theorem t17 : tg tab 17 = ⟨1, 8, [.nilp], .ptr 181⟩ := rfl
@[go_sem] theorem f18 : find tab 18 = some ⟨1, 8, [.nilp], .struct [(0, 17)]⟩ := rfl
@[go_sem] theorem t18 : tg tab 18 = ⟨1, 8, [.nilp], .struct [(0, 17)]⟩ := rfl
@[go_sem] theorem f19 : find tab 19 = some ⟨1, 8, [.nilp], .struct [(0, 17)]⟩ := rfl
@[go_sem] theorem t19 : tg tab 19 = ⟨1, 8, [.nilp], .struct [(0, 17)]⟩ := rfl
@[go_sem] theorem f21 : find tab 21 = some ⟨1, 4, [.t (.int .i32 0)], .int .i32⟩ := rfl
@[go_sem] theorem t21 : tg tab 21 = ⟨1, 4, [.t (.int .i32 0)], .int .i32⟩ := rfl
@[go_sem] theorem f22 : find tab 22 = some ⟨1, 24, [.nil 8], .slice 52⟩ := rfl
@[go_sem] theorem t22 : tg tab 22 = ⟨1, 24, [.nil 8], .slice 52⟩ := rfl
@[go_sem] theorem f23 : find tab 23 = some ⟨2, 32, [.nil 8, .t (.int .i64 0)], .struct [(0, 22), (1, 3)]⟩ := rfl
@[go_sem] theorem t23 : tg tab 23 = ⟨2, 32, [.nil 8, .t (.int .i64 0)], .struct [(0, 22), (1, 3)]⟩ := rfl
@[go_sem] theorem f24 : find tab 24 = some ⟨2, 32, [.nil 8, .t (.int .i64 0)], .struct [(0, 22), (1, 3)]⟩ := rfl
@[go_sem] theorem t24 : tg tab 24 = ⟨2, 32, [.nil 8, .t (.int .i64 0)], .struct [(0, 22), (1, 3)]⟩ := rfl
@[go_sem] theorem f27 : find tab 27 = some ⟨1, 24, [.nil 8], .slice 39⟩ := rfl
@[go_sem] theorem t27 : tg tab 27 = ⟨1, 24, [.nil 8], .slice 39⟩ := rfl
@[go_sem] theorem f28 : find tab 28 = some ⟨2, 32, [.nil 8, .t (.int .i64 0)], .struct [(0, 27), (1, 3)]⟩ := rfl
@[go_sem] theorem t28 : tg tab 28 = ⟨2, 32, [.nil 8, .t (.int .i64 0)], .struct [(0, 27), (1, 3)]⟩ := rfl
@[go_sem] theorem f29 : find tab 29 = some ⟨2, 32, [.nil 8, .t (.int .i64 0)], .struct [(0, 27), (1, 3)]⟩ := rfl
@[go_sem] theorem t29 : tg tab 29 = ⟨2, 32, [.nil 8, .t (.int .i64 0)], .struct [(0, 27), (1, 3)]⟩ := rfl
@[go_sem] theorem f34 : find tab 34 = some ⟨1, 24, [.nil 1], .slice 9⟩ := rfl
@[go_sem] theorem t34 : tg tab 34 = ⟨1, 24, [.nil 1], .slice 9⟩ := rfl
@[go_sem] theorem f35 : find tab 35 = some ⟨1, 24, [.nil 5], .slice 37⟩ := rfl
@[go_sem] theorem t35 : tg tab 35 = ⟨1, 24, [.nil 5], .slice 37⟩ := rfl
@[go_sem] theorem f36 : find tab 36 = some ⟨5, 80, [.t (.int .i64 0), .t (.int .i64 0), .t (.str ⟨#[]⟩), .nil 1, .nil 5], .struct [(0, 3), (1, 3), (2, 9), (3, 34), (4, 35)]⟩ := rfl
@[go_sem] theorem t36 : tg tab 36 = ⟨5, 80, [.t (.int .i64 0), .t (.int .i64 0), .t (.str ⟨#[]⟩), .nil 1, .nil 5], .struct [(0, 3), (1, 3), (2, 9), (3, 34), (4, 35)]⟩ := rfl
@[go_sem] theorem f37 : find tab 37 = some ⟨5, 80, [.t (.int .i64 0), .t (.int .i64 0), .t (.str ⟨#[]⟩), .nil 1, .nil 5], .struct [(0, 3), (1, 3), (2, 9), (3, 34), (4, 35)]⟩ := rfl
@[go_sem] theorem t37 : tg tab 37 = ⟨5, 80, [.t (.int .i64 0), .t (.int .i64 0), .t (.str ⟨#[]⟩), .nil 1, .nil 5], .struct [(0, 3), (1, 3), (2, 9), (3, 34), (4, 35)]⟩ := rfl
@[go_sem] theorem f38 : find tab 38 = some ⟨8, 112, [.t (.int .i64 0), .t (.int .i64 0), .t (.int .i64 0), .t (.str ⟨#[]⟩), .nil 1, .nil 5, .t (.bool false), .t (.str ⟨#[]⟩)], .struct [(0, 3), (1, 37), (6, 4), (7, 9)]⟩ := rfl
@[go_sem] theorem t38 : tg tab 38 = ⟨8, 112, [.t (.int .i64 0), .t (.int .i64 0), .t (.int .i64 0), .t (.str ⟨#[]⟩), .nil 1, .nil 5, .t (.bool false), .t (.str ⟨#[]⟩)], .struct [(0, 3), (1, 37), (6, 4), (7, 9)]⟩ := rfl
@[go_sem] theorem f39 : find tab 39 = some ⟨8, 112, [.t (.int .i64 0), .t (.int .i64 0), .t (.int .i64 0), .t (.str ⟨#[]⟩), .nil 1, .nil 5, .t (.bool false), .t (.str ⟨#[]⟩)], .struct [(0, 3), (1, 37), (6, 4), (7, 9)]⟩ := rfl
@[go_sem] theorem t39 : tg tab 39 = ⟨8, 112, [.t (.int .i64 0), .t (.int .i64 0), .t (.int .i64 0), .t (.str ⟨#[]⟩), .nil 1, .nil 5, .t (.bool false), .t (.str ⟨#[]⟩)], .struct [(0, 3), (1, 37), (6, 4), (7, 9)]⟩ := rfl
@[go_sem] theorem f48 : find tab 48 = some ⟨1, 24, [.nil 5], .slice 50⟩ := rfl
@[go_sem] theorem t48 : tg tab 48 = ⟨1, 24, [.nil 5], .slice 50⟩ := rfl
@[go_sem] theorem f49 : find tab 49 = some ⟨5, 80, [.t (.int .i64 0), .t (.int .i64 0), .t (.str ⟨#[]⟩), .nil 1, .nil 5], .struct [(0, 3), (1, 3), (2, 9), (3, 34), (4, 48)]⟩ := rfl
@[go_sem] theorem t49 : tg tab 49 = ⟨5, 80, [.t (.int .i64 0), .t (.int .i64 0), .t (.str ⟨#[]⟩), .nil 1, .nil 5], .struct [(0, 3), (1, 3), (2, 9), (3, 34), (4, 48)]⟩ := rfl
@[go_sem] theorem f50 : find tab 50 = some ⟨5, 80, [.t (.int .i64 0), .t (.int .i64 0), .t (.str ⟨#[]⟩), .nil 1, .nil 5], .struct [(0, 3), (1, 3), (2, 9), (3, 34), (4, 48)]⟩ := rfl
@[go_sem] theorem t50 : tg tab 50 = ⟨5, 80, [.t (.int .i64 0), .t (.int .i64 0), .t (.str ⟨#[]⟩), .nil 1, .nil 5], .struct [(0, 3), (1, 3), (2, 9), (3, 34), (4, 48)]⟩ := rfl
@[go_sem] theorem f51 : find tab 51 = some ⟨8, 112, [.t (.int .i64 0), .t (.int .i64 0), .t (.int .i64 0), .t (.str ⟨#[]⟩), .nil 1, .nil 5, .t (.bool false), .t (.str ⟨#[]⟩)], .struct [(0, 3), (1, 50), (6, 4), (7, 9)]⟩ := rfl
@[go_sem] theorem t51 : tg tab 51 = ⟨8, 112, [.t (.int .i64 0), .t (.int .i64 0), .t (.int .i64 0), .t (.str ⟨#[]⟩), .nil 1, .nil 5, .t (.bool false), .t (.str ⟨#[]⟩)], .struct [(0, 3), (1, 50), (6, 4), (7, 9)]⟩ := rfl
@[go_sem] theorem f52 : find tab 52 = some ⟨8, 112, [.t (.int .i64 0), .t (.int .i64 0), .t (.int .i64 0), .t (.str ⟨#[]⟩), .nil 1, .nil 5, .t (.bool false), .t (.str ⟨#[]⟩)], .struct [(0, 3), (1, 50), (6, 4), (7, 9)]⟩ := rfl
@[go_sem] theorem t52 : tg tab 52 = ⟨8, 112, [.t (.int .i64 0), .t (.int .i64 0), .t (.int .i64 0), .t (.str ⟨#[]⟩), .nil 1, .nil 5, .t (.bool false), .t (.str ⟨#[]⟩)], .struct [(0, 3), (1, 50), (6, 4), (7, 9)]⟩ := rfl
@[go_sem] theorem f58 : find tab 58 = some ⟨1, 24, [.nil 1], .slice 5⟩ := rfl
@[go_sem] theorem t58 : tg tab 58 = ⟨1, 24, [.nil 1], .slice 5⟩ := rfl
@[go_sem] theorem f71 : find tab 71 = some ⟨1, 8, [.nilp], .ptr 3⟩ := rfl
@[go_sem] theorem t71 : tg tab 71 = ⟨1, 8, [.nilp], .ptr 3⟩ := rfl
@[go_sem] theorem f76 : find tab 76 = some ⟨1, 4, [.t (.int .u32 0)], .int .u32⟩ := rfl
@[go_sem] theorem t76 : tg tab 76 = ⟨1, 4, [.t (.int .u32 0)], .int .u32⟩ := rfl
@[go_sem] theorem f85 : find tab 85 = some ⟨2, 24, [.t (.str ⟨#[]⟩), .t (.int .i64 0)], .struct [(0, 9), (1, 3)]⟩ := rfl
@[go_sem] theorem t85 : tg tab 85 = ⟨2, 24, [.t (.str ⟨#[]⟩), .t (.int .i64 0)], .struct [(0, 9), (1, 3)]⟩ := rfl
@[go_sem] theorem f86 : find tab 86 = some ⟨2, 24, [.t (.str ⟨#[]⟩), .t (.int .i64 0)], .struct [(0, 9), (1, 3)]⟩ := rfl
@[go_sem] theorem t86 : tg tab 86 = ⟨2, 24, [.t (.str ⟨#[]⟩), .t (.int .i64 0)], .struct [(0, 9), (1, 3)]⟩ := rfl
@[go_sem] theorem f87 : find tab 87 = some ⟨1, 24, [.nil 1], .slice 3⟩ := rfl
@[go_sem] theorem t87 : tg tab 87 = ⟨1, 24, [.nil 1], .slice 3⟩ := rfl
@[go_sem] theorem f88 : find tab 88 = some ⟨6, 88, [.t (.str ⟨#[]⟩), .t (.int .i64 0), .nil 1, .t (.int .i64 0), .t (.int .i64 0), .nil 1], .struct [(0, 86), (2, 58), (3, 3), (4, 3), (5, 87)]⟩ := rfl
@[go_sem] theorem t88 : tg tab 88 = ⟨6, 88, [.t (.str ⟨#[]⟩), .t (.int .i64 0), .nil 1, .t (.int .i64 0), .t (.int .i64 0), .nil 1], .struct [(0, 86), (2, 58), (3, 3), (4, 3), (5, 87)]⟩ := rfl
@[go_sem] theorem f89 : find tab 89 = some ⟨6, 88, [.t (.str ⟨#[]⟩), .t (.int .i64 0), .nil 1, .t (.int .i64 0), .t (.int .i64 0), .nil 1], .struct [(0, 86), (2, 58), (3, 3), (4, 3), (5, 87)]⟩ := rfl
@[go_sem] theorem t89 : tg tab 89 = ⟨6, 88, [.t (.str ⟨#[]⟩), .t (.int .i64 0), .nil 1, .t (.int .i64 0), .t (.int .i64 0), .nil 1], .struct [(0, 86), (2, 58), (3, 3), (4, 3), (5, 87)]⟩ := rfl
@[go_sem] theorem f99 : find tab 99 = some ⟨1, 8, [.t (.int .u64 0)], .int .u64⟩ := rfl
@[go_sem] theorem t99 : tg tab 99 = ⟨1, 8, [.t (.int .u64 0)], .int .u64⟩ := rfl
@[go_sem] theorem f103 : find tab 103 = some ⟨1, 8, [.nilp], .ptr 89⟩ := rfl
@[go_sem] theorem t103 : tg tab 103 = ⟨1, 8, [.nilp], .ptr 89⟩ := rfl
@[go_sem] theorem f109 : find tab 109 = some ⟨1, 8, [.nilp], .ptr 112⟩ := rfl
@[go_sem] theorem t109 : tg tab 109 = ⟨1, 8, [.nilp], .ptr 112⟩ := rfl
@[go_sem] theorem f111 : find tab 111 = some ⟨6, 88, [.t (.str ⟨#[]⟩), .t (.int .i64 0), .t (.int .i64 0), .nil 1, .nil 1, .t (.int .i64 0)], .struct [(0, 9), (1, 3), (2, 3), (3, 58), (4, 87), (5, 3)]⟩ := rfl
@[go_sem] theorem t111 : tg tab 111 = ⟨6, 88, [.t (.str ⟨#[]⟩), .t (.int .i64 0), .t (.int .i64 0), .nil 1, .nil 1, .t (.int .i64 0)], .struct [(0, 9), (1, 3), (2, 3), (3, 58), (4, 87), (5, 3)]⟩ := rfl
@[go_sem] theorem f112 : find tab 112 = some ⟨6, 88, [.t (.str ⟨#[]⟩), .t (.int .i64 0), .t (.int .i64 0), .nil 1, .nil 1, .t (.int .i64 0)], .struct [(0, 9), (1, 3), (2, 3), (3, 58), (4, 87), (5, 3)]⟩ := rfl
@[go_sem] theorem t112 : tg tab 112 = ⟨6, 88, [.t (.str ⟨#[]⟩), .t (.int .i64 0), .t (.int .i64 0), .nil 1, .nil 1, .t (.int .i64 0)], .struct [(0, 9), (1, 3), (2, 3), (3, 58), (4, 87), (5, 3)]⟩ := rfl
@[go_sem] theorem f129 : find tab 129 = some ⟨2, 16, [.t (.int .i64 0), .t (.int .i64 0)], .struct [(0, 3), (1, 3)]⟩ := rfl
@[go_sem] theorem t129 : tg tab 129 = ⟨2, 16, [.t (.int .i64 0), .t (.int .i64 0)], .struct [(0, 3), (1, 3)]⟩ := rfl
@[go_sem] theorem f130 : find tab 130 = some ⟨2, 16, [.t (.int .i64 0), .t (.int .i64 0)], .struct [(0, 3), (1, 3)]⟩ := rfl
@[go_sem] theorem t130 : tg tab 130 = ⟨2, 16, [.t (.int .i64 0), .t (.int .i64 0)], .struct [(0, 3), (1, 3)]⟩ := rfl
@[go_sem] theorem f136 : find tab 136 = some ⟨4, 40, [.t (.int .i64 0), .t (.str ⟨#[]⟩), .t (.int .i64 0), .t (.int .i64 0)], .struct [(0, 3), (1, 86), (3, 3)]⟩ := rfl
@[go_sem] theorem t136 : tg tab 136 = ⟨4, 40, [.t (.int .i64 0), .t (.str ⟨#[]⟩), .t (.int .i64 0), .t (.int .i64 0)], .struct [(0, 3), (1, 86), (3, 3)]⟩ := rfl
@[go_sem] theorem f137 : find tab 137 = some ⟨4, 40, [.t (.int .i64 0), .t (.str ⟨#[]⟩), .t (.int .i64 0), .t (.int .i64 0)], .struct [(0, 3), (1, 86), (3, 3)]⟩ := rfl
@[go_sem] theorem t137 : tg tab 137 = ⟨4, 40, [.t (.int .i64 0), .t (.str ⟨#[]⟩), .t (.int .i64 0), .t (.int .i64 0)], .struct [(0, 3), (1, 86), (3, 3)]⟩ := rfl
@[go_sem] theorem f141 : find tab 141 = some ⟨1, 8, [.nilp], .ptr 153⟩ := rfl
@[go_sem] theorem t141 : tg tab 141 = ⟨1, 8, [.nilp], .ptr 153⟩ := rfl
@[go_sem] theorem f151 : find tab 151 = some ⟨16, 128, [.t (.int .i64 0), .t (.int .i64 0), .t (.int .i64 0), .t (.int .i64 0), .t (.int .i64 0), .t (.int .i64 0), .t (.int .i64 0), .t (.int .i64 0), .t (.int .i64 0), .t (.int .i64 0), .t (.int .i64 0), .t (.int .i64 0), .t (.int .i64 0), .t (.int .i64 0), .t (.int .i64 0), .t (.int .i64 0)], .array 16 3⟩ := rfl
@[go_sem] theorem t151 : tg tab 151 = ⟨16, 128, [.t (.int .i64 0), .t (.int .i64 0), .t (.int .i64 0), .t (.int .i64 0), .t (.int .i64 0), .t (.int .i64 0), .t (.int .i64 0), .t (.int .i64 0), .t (.int .i64 0), .t (.int .i64 0), .t (.int .i64 0), .t (.int .i64 0), .t (.int .i64 0), .t (.int .i64 0), .t (.int .i64 0), .t (.int .i64 0)], .array 16 3⟩ := rfl
@[go_sem] theorem f152 : find tab 152 = some ⟨34, 288, [.t (.int .i64 0), .t (.int .i64 0), .t (.int .i64 0), .t (.int .i64 0), .t (.int .i64 0), .t (.int .i64 0), .t (.int .i64 0), .t (.int .i64 0), .t (.int .i64 0), .t (.int .i64 0), .t (.int .i64 0), .t (.int .i64 0), .t (.int .i64 0), .t (.int .i64 0), .t (.int .i64 0), .t (.int .i64 0), .t (.int .i64 0), .t (.int .i64 0), .t (.int .i64 0), .t (.int .i64 0), .t (.int .i64 0), .t (.int .i64 0), .t (.int .i64 0), .t (.int .i64 0), .t (.int .i64 0), .t (.int .i64 0), .t (.int .i64 0), .t (.int .i64 0), .t (.int .i64 0), .t (.int .i64 0), .t (.int .i64 0), .t (.int .i64 0), .nil 1, .t (.int .i64 0)], .struct [(0, 151), (16, 151), (32, 87), (33, 3)]⟩ := rfl
@[go_sem] theorem t152 : tg tab 152 = ⟨34, 288, [.t (.int .i64 0), .t (.int .i64 0), .t (.int .i64 0), .t (.int .i64 0), .t (.int .i64 0), .t (.int .i64 0), .t (.int .i64 0), .t (.int .i64 0), .t (.int .i64 0), .t (.int .i64 0), .t (.int .i64 0), .t (.int .i64 0), .t (.int .i64 0), .t (.int .i64 0), .t (.int .i64 0), .t (.int .i64 0), .t (.int .i64 0), .t (.int .i64 0), .t (.int .i64 0), .t (.int .i64 0), .t (.int .i64 0), .t (.int .i64 0), .t (.int .i64 0), .t (.int .i64 0), .t (.int .i64 0), .t (.int .i64 0), .t (.int .i64 0), .t (.int .i64 0), .t (.int .i64 0), .t (.int .i64 0), .t (.int .i64 0), .t (.int .i64 0), .nil 1, .t (.int .i64 0)], .struct [(0, 151), (16, 151), (32, 87), (33, 3)]⟩ := rfl
@[go_sem] theorem f153 : find tab 153 = some ⟨34, 288, [.t (.int .i64 0), .t (.int .i64 0), .t (.int .i64 0), .t (.int .i64 0), .t (.int .i64 0), .t (.int .i64 0), .t (.int .i64 0), .t (.int .i64 0), .t (.int .i64 0), .t (.int .i64 0), .t (.int .i64 0), .t (.int .i64 0), .t (.int .i64 0), .t (.int .i64 0), .t (.int .i64 0), .t (.int .i64 0), .t (.int .i64 0), .t (.int .i64 0), .t (.int .i64 0), .t (.int .i64 0), .t (.int .i64 0), .t (.int .i64 0), .t (.int .i64 0), .t (.int .i64 0), .t (.int .i64 0), .t (.int .i64 0), .t (.int .i64 0), .t (.int .i64 0), .t (.int .i64 0), .t (.int .i64 0), .t (.int .i64 0), .t (.int .i64 0), .nil 1, .t (.int .i64 0)], .struct [(0, 151), (16, 151), (32, 87), (33, 3)]⟩ := rfl
@[go_sem] theorem t153 : tg tab 153 = ⟨34, 288, [.t (.int .i64 0), .t (.int .i64 0), .t (.int .i64 0), .t (.int .i64 0), .t (.int .i64 0), .t (.int .i64 0), .t (.int .i64 0), .t (.int .i64 0), .t (.int .i64 0), .t (.int .i64 0), .t (.int .i64 0), .t (.int .i64 0), .t (.int .i64 0), .t (.int .i64 0), .t (.int .i64 0), .t (.int .i64 0), .t (.int .i64 0), .t (.int .i64 0), .t (.int .i64 0), .t (.int .i64 0), .t (.int .i64 0), .t (.int .i64 0), .t (.int .i64 0), .t (.int .i64 0), .t (.int .i64 0), .t (.int .i64 0), .t (.int .i64 0), .t (.int .i64 0), .t (.int .i64 0), .t (.int .i64 0), .t (.int .i64 0), .t (.int .i64 0), .nil 1, .t (.int .i64 0)], .struct [(0, 151), (16, 151), (32, 87), (33, 3)]⟩ := rfl
@[go_sem] theorem f156 : find tab 156 = some ⟨1, 24, [.nil 1], .slice 87⟩ := rfl
@[go_sem] theorem t156 : tg tab 156 = ⟨1, 24, [.nil 1], .slice 87⟩ := rfl
@[go_sem] theorem f164 : find tab 164 = some ⟨1, 8, [.t (.int .u64 0)], .int .u64⟩ := rfl
@[go_sem] theorem t164 : tg tab 164 = ⟨1, 8, [.t (.int .u64 0)], .int .u64⟩ := rfl
@[go_sem] theorem f168 : find tab 168 = some ⟨4, 40, [.nilp, .nilp, .nilp, .t (.str ⟨#[]⟩)], .struct [(0, 17), (1, 17), (2, 17), (3, 9)]⟩ := rfl
@[go_sem] theorem t168 : tg tab 168 = ⟨4, 40, [.nilp, .nilp, .nilp, .t (.str ⟨#[]⟩)], .struct [(0, 17), (1, 17), (2, 17), (3, 9)]⟩ := rfl
@[go_sem] theorem f169 : find tab 169 = some ⟨4, 40, [.nilp, .nilp, .nilp, .t (.str ⟨#[]⟩)], .struct [(0, 17), (1, 17), (2, 17), (3, 9)]⟩ := rfl
@[go_sem] theorem t169 : tg tab 169 = ⟨4, 40, [.nilp, .nilp, .nilp, .t (.str ⟨#[]⟩)], .struct [(0, 17), (1, 17), (2, 17), (3, 9)]⟩ := rfl
@[go_sem] theorem f170 : find tab 170 = some ⟨0, 0, [], .array 0 16⟩ := rfl
@[go_sem] theorem t170 : tg tab 170 = ⟨0, 0, [], .array 0 16⟩ := rfl
@[go_sem] theorem f171 : find tab 171 = some ⟨0, 0, [], .struct [(0, 170)]⟩ := rfl
@[go_sem] theorem t171 : tg tab 171 = ⟨0, 0, [], .struct [(0, 170)]⟩ := rfl
@[go_sem] theorem f172 : find tab 172 = some ⟨0, 0, [], .struct [(0, 170)]⟩ := rfl
@[go_sem] theorem t172 : tg tab 172 = ⟨0, 0, [], .struct [(0, 170)]⟩ := rfl
@[go_sem] theorem f174 : find tab 174 = some ⟨1, 1, [.t (.int .u8 0)], .int .u8⟩ := rfl
@[go_sem] theorem t174 : tg tab 174 = ⟨1, 1, [.t (.int .u8 0)], .int .u8⟩ := rfl
@[go_sem] theorem f175 : find tab 175 = some ⟨1, 1, [.t (.int .u8 0)], .int .u8⟩ := rfl
@[go_sem] theorem t175 : tg tab 175 = ⟨1, 1, [.t (.int .u8 0)], .int .u8⟩ := rfl
@[go_sem] theorem f177 : find tab 177 = some ⟨1, 8, [.nilp], .ptr 5⟩ := rfl
@[go_sem] theorem t177 : tg tab 177 = ⟨1, 8, [.nilp], .ptr 5⟩ := rfl
@[go_sem] theorem f178 : find tab 178 = some ⟨1, 4, [.t (.int .i32 0)], .int .i32⟩ := rfl
@[go_sem] theorem t178 : tg tab 178 = ⟨1, 4, [.t (.int .i32 0)], .int .i32⟩ := rfl
@[go_sem] theorem f179 : find tab 179 = some ⟨1, 4, [.t (.int .i32 0)], .int .i32⟩ := rfl
@[go_sem] theorem t179 : tg tab 179 = ⟨1, 4, [.t (.int .i32 0)], .int .i32⟩ := rfl
end Go.Proofs.YtikegeligblekaaGreat.M

/- Contracts for Inflate, part 1: small ones; bits. No condition. -/
namespace Go.Proofs.YtikegeligblekaaGreat.M
open Go Go.Proofs
set_option maxRecDepth 100000
set_option maxHeartbeats 2000000
set_option linter.unusedSimpArgs false
@[go_sem] def md : Nat → Md := fun f => if f == 133 || f == 125 then ⟨true, [0]⟩ else if f == 112 || f == 113 || f == 81 || false then ⟨true, []⟩ else ⟨false, []⟩
attribute [go_sem] List.getD_cons_zero Int.toNat_natCast Nat.zero_add beq_false Bool.true_or Bool.or_false Bool.false_or Bool.or_true
theorem act_split_not {c : Bool} {A B : Prop} {a : Shut A} {b : Shut B} (h1 : c = false → act A) (h2 : c = true → act B) : act (brK (!c) A B a b) :=
  ⟨fun h => h1 (by simpa using h), fun h => h2 (by simpa using h)⟩
theorem wrap64 {n : Int} (h0 : -9223372036854775808 ≤ n) (h1 : n < 9223372036854775808) : IntKind.wrap .i64 n = n := by
  simp only [IntKind.wrap, IntKind.bits, IntKind.signed]; simp; split <;> omega
theorem wrap8 {n : Int} (h0 : 0 ≤ n) (h1 : n < 256) : IntKind.wrap .u8 n = n := by
  simp only [IntKind.wrap, IntKind.bits, IntKind.signed]; simp; omega
theorem pow62 {n : Nat} (h : n ≤ 62) : (2:Int)^n ≤ 4611686018427387904 ∧ 1 ≤ (2:Int)^n := by
  have h1 : 2^n ≤ 2^62 := Nat.pow_le_pow_right (by omega) h
  have h2 : 0 < 2^n := Nat.two_pow_pos n
  have h3 : ((2^n : Nat) : Int) = (2:Int)^n := by simp
  omega
def inB (x l m : Int) : Bool := decide (x ≥ l) && decide (x ≤ m)
theorem c34 (x l m : Int) : CS Tryz.prog false 46 [.v (.int .i64 x), .v (.int .i64 l), .v (.int .i64 m)] [.bool (inB x l m)] [] := by
  refine CS_act tab_ok md Tryz.func46 rfl rfl Tryz.ntmps46 (rl := [.tmp 6]) rfl (Nat.le_of_ble_eq_true rfl) ?_
  simp only [go_sem]
  refine act_split (fun h => ?_) (fun h => ?_) <;> simp only [go_sem, h, inB]
theorem c37 (n : Nat) (hn : n ≤ 1000000000) : CS Tryz.prog false 82 [.v (.int .i64 n)] [.int .i64 ((n + 7) / 8 : Nat)] [] := by
  refine CS_act tab_ok md Tryz.func82 rfl rfl Tryz.ntmps82 (rl := [.tmp 2]) rfl (Nat.le_of_ble_eq_true rfl) ?_
  have e : ((n : Int) + 7).tdiv 8 = ((n + 7) / 8 : Nat) := by
    rw [Int.tdiv_eq_ediv_of_nonneg (by omega)]; omega
  simp only [go_sem, wrap64 (n := (n : Int) + 7) (by omega) (by omega), e]
  rw [wrap64 (by omega) (by omega)]
  refine ⟨by decide, ?_⟩
  rfl

/-- One bit of a text. -/
def bit (s : ByteArray) (i : Nat) : Nat := (s.data.getD (i / 8) 0).toNat / 2 ^ (i % 8) % 2
theorem bit_lt (s : ByteArray) (i : Nat) : bit s i < 2 := Nat.mod_lt _ (by decide)
theorem bit_ok (v k : Nat) (hv : v < 256) (hk : k < 8) : IntKind.wrap .i64 (andI .u8 ((v : Int).fdiv (2 ^ min k 8)) 1) = (v / 2 ^ k % 2 : Nat) := by
  unfold andI
  have e0 : min k 8 = k := by omega
  have e1 : (v : Int).fdiv (2 ^ k) = (v / 2 ^ k : Nat) := by
    rw [Int.fdiv_eq_ediv_of_nonneg _ (Int.le_of_lt (Int.pow_pos (by decide))), Int.natCast_ediv]
    congr 1
  have e2 : v / 2 ^ k < 256 := Nat.lt_of_le_of_lt (Nat.div_le_self _ _) hv
  have e3 : (BitVec.ofInt 8 ((v / 2 ^ k : Nat) : Int) &&& BitVec.ofInt 8 1).toNat = v / 2 ^ k % 2 := by
    rw [BitVec.ofInt_natCast, show BitVec.ofInt 8 1 = BitVec.ofNat 8 1 from rfl, BitVec.toNat_and, BitVec.toNat_ofNat, BitVec.toNat_ofNat]
    rw [show 1 % 2 ^ 8 = 1 from rfl, Nat.and_one_is_mod]
    omega
  rw [e0, e1]
  show IntKind.wrap .i64 (IntKind.wrap .u8 ((BitVec.ofInt 8 ((v / 2 ^ k : Nat) : Int) &&& BitVec.ofInt 8 1).toNat : Int)) = _
  rw [e3, wrap8 (by omega) (by omega), wrap64 (by omega) (by omega)]
theorem c148 (s : ByteArray) (i : Nat) (hi : i < 8 * s.size) (hs : s.size ≤ 1048576) : CS Tryz.prog false 115 [.v (.str s), .v (.int .i64 i)] [.int .i64 (bit s i)] [] := by
  refine CS_act tab_ok md Tryz.func115 rfl rfl Tryz.ntmps115 (rl := [.tmp 4]) rfl (Nat.le_of_ble_eq_true rfl) ?_
  have e1 : (i : Int).tdiv 8 = (i / 8 : Nat) := by rw [Int.tdiv_eq_ediv_of_nonneg (by omega)]; omega
  have e2 : (i : Int).tmod 8 = (i % 8 : Nat) := by rw [Int.tmod_eq_emod_of_nonneg (by omega)]; omega
  simp only [go_sem, e1, e2, wrap64 (n := ((i / 8 : Nat) : Int)) (by omega) (by omega)]
  refine ⟨by decide, by omega, by omega, by decide, by omega, ?_⟩
  exact congrArg (fun x => [T.int .i64 x]) (bit_ok _ _ (UInt8.toNat_lt _) (Nat.mod_lt _ (by decide)))
/-- An unpacking under way. -/
structure Rd where
  at' : Nat
  out : List Nat
  ty : List Nat
  code : Nat
def ob (l : List Nat) : List T := l.map fun (n : Nat) => .int .u8 n
def nv (l : List Nat) : List T := l.map fun (n : Nat) => .int .i64 n
def rdB (s : ByteArray) (most : Nat) (r : Rd) : List BC := [.t (.str s), .t (.int .i64 r.at'), .t (.int .i64 most), .arr 1 (ob r.out), .arr 1 (nv r.ty), .t (.int .i64 r.code)]
theorem rdB_def (s : ByteArray) (most : Nat) (r : Rd) : rdB s most r = [.t (.str s), .t (.int .i64 r.at'), .t (.int .i64 most), .arr 1 (ob r.out), .arr 1 (nv r.ty), .t (.int .i64 r.code)] := rfl
theorem sc_ob (l : List Nat) : Sc (ob l) := fun t ht => by
  simp only [flat, ob, List.mem_flatMap, List.mem_map] at ht
  obtain ⟨_, ⟨n, _, rfl⟩, h⟩ := ht
  simp only [T.cells, List.mem_singleton] at h
  rw [h]; rfl
theorem sc_nv (l : List Nat) : Sc (nv l) := fun t ht => by
  simp only [flat, nv, List.mem_flatMap, List.mem_map] at ht
  obtain ⟨_, ⟨n, _, rfl⟩, h⟩ := ht
  simp only [T.cells, List.mem_singleton] at h
  rw [h]; rfl
@[go_sem] theorem sc_ob' (l : List Nat) : Sc (ob l) = True := by simp [sc_ob]
@[go_sem] theorem sc_nv' (l : List Nat) : Sc (nv l) = True := by simp [sc_nv]
attribute [go_sem] true_and
@[go_sem] theorem len_ob (l : List Nat) : (ob l).length = l.length := by simp [ob]
@[go_sem] theorem len_nv (l : List Nat) : (nv l).length = l.length := by simp [nv]
def Rd.fail (r : Rd) (c : Nat) : Rd := if r.code = 0 then { r with code := c } else r
theorem c77 (s : ByteArray) (most : Nat) (r : Rd) (c : Nat) : CS Tryz.prog false 100 [.mb (rdB s most r), .v (.int .i64 c)] [] [rdB s most (r.fail c)] := by
  simp only [rdB_def]
  refine CS_act tab_ok md Tryz.func100 rfl rfl Tryz.ntmps100 (rl := []) rfl (Nat.le_of_ble_eq_true rfl) ?_
  simp only [go_sem]
  refine act_split (fun h => ?_) (fun h => ?_) <;> simp only [beq_iff_eq, beq_eq_false_iff_ne, ne_eq] at h
  · have h' : r.code = 0 := by omega
    simp only [go_sem, Rd.fail, if_pos h']

  · have h' : ¬ r.code = 0 := by omega
    simp only [go_sem, Rd.fail, if_neg h']

def bitsV (s : ByteArray) (a : Nat) : Nat → Nat
  | 0 => 0
  | n + 1 => bitsV s a n + bit s (a + n) * 2 ^ n
theorem bitsV_lt (s : ByteArray) (a : Nat) : ∀ n, bitsV s a n < 2 ^ n
  | 0 => by simp [bitsV]
  | n + 1 => by
    have := bitsV_lt s a n
    have h2 := bit_lt s (a + n)
    have h3 : bit s (a + n) * 2 ^ n ≤ 1 * 2 ^ n := Nat.mul_le_mul_right _ (by omega)
    simp only [bitsV]
    rw [Nat.pow_succ]; omega
def getBits (s : ByteArray) (r : Rd) (n : Nat) : Nat × Rd :=
  if r.code ≠ 0 then (0, r) else if 8 * s.size < r.at' + n then (0, { r with code := 2 }) else (bitsV s r.at' n, { r with at' := r.at' + n })
theorem or_ok (v b i : Nat) (hv : v < 2 ^ i) (hb : b < 2) (hi : i ≤ 30) : orI .i64 v (IntKind.wrap .i64 ((b : Int) * 2 ^ min i 64)) = (v + b * 2 ^ i : Nat) := by
  have hp := pow62 (n := i) (by omega)
  have hp2 : 2 ^ i ≤ 2 ^ 30 := Nat.pow_le_pow_right (by omega) hi
  have hb2 : b * 2 ^ i ≤ 1 * 2 ^ i := Nat.mul_le_mul_right _ (by omega)
  have e0 : min i 64 = i := by omega
  have e1 : (b : Int) * 2 ^ i = (b * 2 ^ i : Nat) := by simp
  rw [e0, e1, wrap64 (n := ((b * 2 ^ i : Nat) : Int)) (by omega) (by omega)]
  show IntKind.wrap .i64 ((BitVec.ofInt 64 (v : Int) ||| BitVec.ofInt 64 ((b * 2 ^ i : Nat) : Int)).toNat : Int) = _
  rw [BitVec.ofInt_natCast, BitVec.ofInt_natCast, BitVec.toNat_or, BitVec.toNat_ofNat, BitVec.toNat_ofNat, Nat.mod_eq_of_lt (by omega), Nat.mod_eq_of_lt (by omega)]
  have := Nat.two_pow_add_eq_or_of_lt hv b
  rw [Nat.mul_comm b, Nat.or_comm, ← this, Nat.add_comm]
  rw [Nat.mul_comm] at hb2
  rw [wrap64 (by omega) (by omega)]
theorem c112 (s : ByteArray) (most : Nat) (r : Rd) (n : Nat) (hs : s.size ≤ 12000) (ha : r.at' ≤ 1000000) (hn : n ≤ 24) : CS Tryz.prog false 108 [.mb (rdB s most r), .v (.int .i64 n)] [.int .i64 (getBits s r n).1] [rdB s most (getBits s r n).2] := by
  have h77 := c77 s most r 2
  simp only [rdB_def] at h77 ⊢
  refine CS_act tab_ok md Tryz.func108 rfl rfl Tryz.ntmps108 (rl := [.tmp 4]) rfl (Nat.le_of_ble_eq_true rfl) ?_
  simp only [go_sem]
  refine act_draw_of tab_ok mix md ?_
  by_cases hc : r.code = 0
  · have e : ((r.code : Int) == 0) = true := by simp [hc]
    have e' : ((r.code : Int) != 0) = false := by simp [hc]
    simp only [go_sem, e]
    rw [wrap64 (n := 8 * (s.size : Int)) (by omega) (by omega), wrap64 (n := 8 * (s.size : Int) - n) (by omega) (by omega)]
    refine ⟨drawOk_of (by kernel_rfl), ?_⟩
    refine act_split (fun h => ?_) (fun h => ?_) <;> simp only [decide_eq_true_eq, decide_eq_false_iff_not] at h
    · have hg : getBits s r n = (0, { r with code := 2 }) := by simp [getBits, hc]; omega
      simp only [hg]
      simp only [go_sem, Rd.fail, if_pos hc] at h77 ⊢
      refine act_callE h77 ?_
      simp only [go_sem]
      exact act_split (fun h => by simp only [go_sem]; rfl) (fun h => by cases h)
    · have hg : getBits s r n = (bitsV s r.at' n, { r with at' := r.at' + n }) := by simp [getBits, hc]; omega
      simp only [hg]
      simp only [go_sem, e']
      refine act_loop_of (md := md) tab_ok [0,1,5,34,35] [0,1,2] 1000 (ι := {i : Nat // i ≤ n}) (fun i => ⟨[(0, .a (.c (.ptr 0 0))), (1, .a (.c (.t (.int .i64 n)))), (5, .a (.c (.t (.int .i64 (bitsV s r.at' i.1))))), (34, .a (.c (.t (.int .i64 n)))), (35, .a (.c (.t (.int .i64 i.1))))], [(0, .box [.t (.str s), .t (.int .i64 r.at'), .t (.int .i64 most), .own 1 0 0 r.out.length, .own 2 0 0 r.ty.length, .t (.int .i64 r.code)]), (1, .arr 1 (ob r.out) 0), (2, .arr 1 (nv r.ty) 0)], 1000, 63⟩) (fun i => n - i.1) ⟨0, by omega⟩ (Nat.le_of_ble_eq_true rfl) (by simp only [go_sem]) (by simp only [go_sem]; rfl) fun i => ?_
      obtain ⟨i, hi⟩ := i
      simp only [go_sem]
      refine act_split (fun h2 => ?_) (fun h2 => ?_) <;> simp only [decide_eq_true_eq, decide_eq_false_iff_not] at h2
      · simp only [go_sem]
        refine act_draw_of tab_ok mix md ?_
        have hb := c148 s (r.at' + i) (by omega) (by omega)
        simp only [go_sem]
        rw [wrap64 (n := (r.at' : Int) + i) (by omega) (by omega)]
        refine act_callE (by exact_mod_cast hb) ?_
        simp only [go_sem]
        refine ⟨by omega, drawOk_of (by kernel_rfl), ?_⟩
        refine nextK_of ⟨i+1, by omega⟩ (by simp only [go_sem]) ?_ (by dsimp only; omega)
        simp only [go_sem, bitsV]
        rw [wrap64 (n := (i : Int) + 1) (by omega) (by omega), or_ok _ _ _ (bitsV_lt _ _ _) (bit_lt _ _) (by omega)]; rfl
      · obtain rfl : i = n := by omega
        simp only [go_sem]
        rw [wrap64 (by omega) (by omega)]
        rfl
  · have e : ((r.code : Int) == 0) = false := by simp [hc]
    have hg : getBits s r n = (0, r) := by simp [getBits, hc]
    have e' : ((r.code : Int) != 0) = true := by simp [hc]
    simp only [hg]
    simp only [go_sem, e]
    refine ⟨drawOk_of (by kernel_rfl), ?_⟩
    simp only [go_sem, e']
    rfl
end Go.Proofs.YtikegeligblekaaGreat.M

/- Contracts for Inflate, part 2: the reference's bits. No condition. -/
namespace Go.Proofs.YtikegeligblekaaGreat.M
open Go Go.Proofs
set_option maxRecDepth 100000
set_option maxHeartbeats 2000000
set_option linter.unusedSimpArgs false
theorem c39 (x l m : Int) : CS Tryz.prog false 20 [.v (.int .i64 x), .v (.int .i64 l), .v (.int .i64 m)] [.bool (inB x l m)] [] := by
  refine CS_act tab_ok md Tryz.func20 rfl rfl Tryz.ntmps20 (rl := [.tmp 6]) rfl (Nat.le_of_ble_eq_true rfl) ?_
  simp only [go_sem]
  refine act_split (fun h => ?_) (fun h => ?_) <;> simp only [go_sem, h, inB]
theorem inB_true {x l m : Int} (h1 : l ≤ x) (h2 : x ≤ m) : inB x l m = true := by simp [inB, h1, h2]
theorem inB_false {x l m : Int} (h : x < l ∨ m < x) : inB x l m = false := by
  simp [inB]; omega
theorem c105 (n : Nat) (hn : n ≤ 62) : CS Tryz.prog false 104 [.v (.int .i64 n)] [.int .i64 (2^n)] [] := by
  refine CS_act tab_ok md Tryz.func104 rfl rfl Tryz.ntmps104 (rl := [.tmp 2]) rfl (Nat.le_of_ble_eq_true rfl) ?_
  simp only [go_sem]
  refine act_loop_of (md := md) tab_ok [0,3,4] [] 1000 (ι := {i : Nat // i ≤ n}) (fun i => ⟨[(0, .a (.c (.t (.int .i64 n)))), (3, .a (.c (.t (.int .i64 (2^i.1))))), (4, .a (.c (.t (.int .i64 i.1))))], [], 1000, 13⟩) (fun i => n - i.1) ⟨0, by omega⟩ (Nat.le_of_ble_eq_true rfl) (by simp only [go_sem]) (by simp only [go_sem]; rfl) fun i => ?_
  obtain ⟨i, hi⟩ := i
  simp only [go_sem]
  refine act_split (fun h => ?_) (fun h => ?_) <;> simp only [decide_eq_true_eq, decide_eq_false_iff_not] at h <;> simp only [go_sem]
  · have := pow62 (n := i + 1) (by omega)
    rw [Int.pow_succ] at this
    refine nextK_of ⟨i+1, by omega⟩ (by simp only [go_sem]) ?_ (by dsimp only; omega)
    simp only [go_sem, Int.pow_succ]
    rw [wrap64 (n := (i : Int) + 1) (by omega) (by omega), wrap64 (n := 2 * (2:Int) ^ i) (by omega) (by omega), Int.mul_comm]; rfl
  · obtain rfl : i = n := by omega
    rfl
theorem natpow (n : Nat) : ((2 ^ n : Nat) : Int) = (2:Int) ^ n := by simp
theorem byte_div (b : UInt8) (k : Nat) : (b.toNat : Int).tdiv (2 ^ k) = (b.toNat / 2 ^ k : Nat) := by
  rw [← natpow, Int.tdiv_eq_ediv_of_nonneg (by omega)]; rfl
theorem byte_div_wrap (b : UInt8) (k : Nat) : IntKind.wrap .i64 ((b.toNat / 2 ^ k : Nat) : Int) = (b.toNat / 2 ^ k : Nat) := by
  have := UInt8.toNat_lt b
  have h2 := Nat.div_le_self b.toNat (2 ^ k)
  generalize b.toNat / 2 ^ k = m at h2 ⊢
  exact wrap64 (by omega) (by omega)
theorem byte_wrap (b : UInt8) : IntKind.wrap .i64 (b.toNat : Int) = b.toNat := by
  have := UInt8.toNat_lt b
  exact wrap64 (by omega) (by omega)
theorem tmod2 (n : Nat) : (n : Int).tmod 2 = (n % 2 : Nat) := by rw [Int.tmod_eq_emod_of_nonneg (by omega)]; rfl
def takeN (s : ByteArray) (a n : Nat) : List T :=
  if 8 * s.size < a + n then [.int .i64 0, .agg [.str ⟨#[]⟩, .int .i64 0], .bool false] else [.int .i64 (bitsV s a n), .agg [.str s, .int .i64 (a + n : Nat)], .bool true]
theorem c116 (s : ByteArray) (a n : Nat) (hs : s.size ≤ 12000) (ha : a ≤ 1000000) (hn : n ≤ 24) : CS Tryz.prog false 86 [.v (.agg [.str s, .int .i64 a]), .v (.int .i64 n)] (takeN s a n) [] := by
  refine CS_act tab_ok md Tryz.func86 rfl rfl Tryz.ntmps86 (rl := [.tmp 4, .cell 5 86, .tmp 6]) rfl (Nat.le_of_ble_eq_true rfl) ?_
  simp only [go_sem]
  refine act_callE (c39 _ _ _) ?_
  have e1 : decide ((s.size : Int) > 12000) = false := by simp; omega
  have e2 : decide ((a : Int) < 0) = false := by simp
  simp only [go_sem, inB_true (x := (n : Int)) (l := 0) (m := 24) (by omega) (by omega), e1, e2]
  rw [wrap64 (n := 8 * (s.size : Int)) (by omega) (by omega), wrap64 (n := 8 * (s.size : Int) - n) (by omega) (by omega)]
  refine act_split (fun h => ?_) (fun h => ?_) <;> simp only [decide_eq_true_eq, decide_eq_false_iff_not] at h
  · have hg : takeN s a n = [.int .i64 0, .agg [.str ⟨#[]⟩, .int .i64 0], .bool false] := if_pos (by omega)
    simp only [go_sem, hg]
  · have hg : takeN s a n = [.int .i64 (bitsV s a n), .agg [.str s, .int .i64 (a + n : Nat)], .bool true] := if_neg (by omega)
    simp only [go_sem, hg]
    refine act_loop_of (md := md) tab_ok [1,5,7,8,2] [0,32] 1000 (ι := {i : Nat // i ≤ n}) (fun i => ⟨[(1, .a (.c (.t (.int .i64 n)))), (5, .a (.c (.ptr 32 0))), (7, .a (.c (.t (.int .i64 (bitsV s a i.1))))), (8, .a (.c (.t (.int .i64 i.1)))), (2, .a (.c (.ptr 0 0)))], [(0, .box [.t (.str s), .t (.int .i64 a)]), (32, .box [.t (.str ⟨#[]⟩), .t (.int .i64 0)])], 1000, 71⟩) (fun i => n - i.1) ⟨0, by omega⟩ (Nat.le_of_ble_eq_true rfl) (by simp only [go_sem]) (by simp only [go_sem]; rfl) fun i => ?_
    obtain ⟨i, hi⟩ := i
    simp only [go_sem]
    refine act_split (fun h2 => ?_) (fun h2 => ?_) <;> simp only [decide_eq_true_eq, decide_eq_false_iff_not] at h2
    · simp only [go_sem]
      rw [wrap64 (n := (a : Int) + i) (by omega) (by omega)]
      refine act_draw_of tab_ok mix md ?_
      have ea : (a : Int) + i = ((a + i : Nat) : Int) := by omega
      have e3 : (((a + i : Nat) : Int)).tdiv 8 = ((a + i) / 8 : Nat) := by rw [Int.tdiv_eq_ediv_of_nonneg (by omega)]; omega
      have e4 : (((a + i : Nat) : Int)).tmod 8 = ((a + i) % 8 : Nat) := by rw [Int.tmod_eq_emod_of_nonneg (by omega)]; omega
      rw [ea]
      simp only [go_sem, e3, e4, wrap64 (n := ((((a + i) / 8 : Nat)) : Int)) (by omega) (by omega)]
      refine ⟨by decide, by omega, by omega, by decide, ?_⟩
      refine act_callE (c105 _ (by omega)) ?_
      simp only [go_sem]
      have hb := bit_lt s (a + i)
      have hv := bitsV_lt s a i
      have hp2 : 2 ^ i ≤ 2 ^ 24 := Nat.pow_le_pow_right (by omega) (by omega)
      have hb2 : bit s (a + i) * 2 ^ i ≤ 1 * 2 ^ i := Nat.mul_le_mul_right _ (by omega)
      have e5 : ((bit s (a + i) : Nat) : Int) * 2 ^ i = (bit s (a + i) * 2 ^ i : Nat) := by rw [Int.natCast_mul, natpow]
      rw [byte_wrap, byte_div, byte_div_wrap, tmod2]
      rw [show (s.data.getD ((a + i) / 8) 0).toNat / 2 ^ ((a + i) % 8) % 2 = bit s (a + i) from rfl]
      refine ⟨Int.ne_of_gt (Int.pow_pos (by decide)), by decide, drawOk_of (by kernel_rfl), ?_⟩
      refine act_callE (c105 _ (by omega)) ?_
      simp only [go_sem, e5]
      rw [wrap64 (n := ((bit s (a + i) * 2 ^ i : Nat) : Int)) (by omega) (by omega)]
      refine nextK_of ⟨i+1, by omega⟩ (by simp only [go_sem]) ?_ (by dsimp only; omega)
      simp only [go_sem, bitsV]
      rw [wrap64 (n := (i : Int) + 1) (by omega) (by omega), wrap64 (by omega) (by omega)]; rfl
    · obtain rfl : i = n := by omega
      simp only [go_sem]
      refine act_draw_of tab_ok mix md ?_
      simp only [go_sem]
      rw [wrap64 (n := (a : Int) + i) (by omega) (by omega)]
      refine ⟨drawOk_of (by kernel_rfl), ?_⟩
      rfl
def nextN (s : ByteArray) (a : Nat) : List T := [.agg [.str s, .int .i64 ((a + 7) / 8 * 8 : Nat)], .bool true]
theorem c117 (s : ByteArray) (a : Nat) (hs : s.size ≤ 12000) (ha : a ≤ 8 * s.size) : CS Tryz.prog false 87 [.v (.agg [.str s, .int .i64 a])] (nextN s a) [] := by
  refine CS_act tab_ok md Tryz.func87 rfl rfl Tryz.ntmps87 (rl := [.cell 2 86, .tmp 3]) rfl (Nat.le_of_ble_eq_true rfl) ?_
  have e1 : decide ((s.size : Int) > 12000) = false := by simp; omega
  simp only [go_sem, e1]
  rw [wrap64 (n := 8 * (s.size : Int)) (by omega) (by omega)]
  refine act_callE (c39 _ _ _) ?_
  simp only [go_sem, inB_true (x := (a : Int)) (l := 0) (m := 8 * s.size) (by omega) (by omega)]
  have e3 : ((a : Int) + 7).tdiv 8 = ((a + 7) / 8 : Nat) := by rw [Int.tdiv_eq_ediv_of_nonneg (by omega)]; omega
  rw [wrap64 (n := (a : Int) + 7) (by omega) (by omega)]
  rw [e3, wrap64 (n := (((a + 7) / 8 : Nat) : Int)) (by omega) (by omega), wrap64 (by omega) (by omega)]
  refine ⟨by decide, ?_⟩
  simp only [nextN]
  rw [Int.natCast_mul]; rfl
/-- The reference's unpacking as a box. -/
def spB (s : ByteArray) (most : Nat) (r : Rd) : List BC := [.t (.str s), .t (.int .i64 r.at'), .arr 1 (ob r.out), .t (.int .i64 most), .t (.int .i64 r.code), .arr 1 (nv r.ty)]
theorem spB_def (s : ByteArray) (most : Nat) (r : Rd) : spB s most r = [.t (.str s), .t (.int .i64 r.at'), .arr 1 (ob r.out), .t (.int .i64 most), .t (.int .i64 r.code), .arr 1 (nv r.ty)] := rfl
theorem c79 (s : ByteArray) (most : Nat) (r : Rd) (n : Nat) (hs : s.size ≤ 12000) (ha : r.at' ≤ 1000000) (hn : n ≤ 24) : CS Tryz.prog false 75 [.mb (spB s most r), .v (.int .i64 n)] [.int .i64 (getBits s r n).1] [spB s most (getBits s r n).2] := by
  have h116 := c116 s r.at' n hs ha hn
  simp only [spB_def]
  refine CS_act tab_ok md Tryz.func75 rfl rfl Tryz.ntmps75 (rl := [.tmp 4]) rfl (Nat.le_of_ble_eq_true rfl) ?_
  by_cases hc : r.code = 0
  · have e : ((r.code : Int) != 0) = false := by simp [hc]
    by_cases hx : 8 * s.size < r.at' + n
    · have hg : getBits s r n = (0, { r with code := 2 }) := by simp [getBits, hc, hx]
      rw [takeN, if_pos hx] at h116
      simp only [hg]
      simp only [go_sem, e]
      refine act_callE h116 ?_
      simp only [go_sem]
      exact ⟨rfl, rfl⟩
    · have hg : getBits s r n = (bitsV s r.at' n, { r with at' := r.at' + n }) := by simp [getBits, hc, hx]
      rw [takeN, if_neg hx] at h116
      simp only [hg]
      simp only [go_sem, e]
      refine act_callE h116 ?_
      simp only [go_sem]
  · have e : ((r.code : Int) != 0) = true := by simp [hc]
    have hg : getBits s r n = (0, r) := by simp [getBits, hc]
    simp only [hg]
    simp only [go_sem, e]
    rfl
end Go.Proofs.YtikegeligblekaaGreat.M

/- Contracts for Inflate, part 5: lengths and distances of repeats. No condition. -/
namespace Go.Proofs.YtikegeligblekaaGreat.M
open Go Go.Proofs
set_option maxRecDepth 100000
set_option maxHeartbeats 2000000
set_option linter.unusedSimpArgs false
def exB (sym : Nat) : Nat := if sym = 16 then 2 else if sym = 17 then 3 else if sym = 18 then 7 else 0
theorem exB_le (sym : Nat) : exB sym ≤ 7 := by unfold exB; (repeat' split) <;> omega
theorem c65 (sym : Nat) : CS Tryz.prog false 132 [.v (.int .i64 sym)] [.int .i64 (exB sym)] [] := by
  refine CS_act tab_ok md Tryz.func132 rfl rfl Tryz.ntmps132 (rl := [.tmp 2]) rfl (Nat.le_of_ble_eq_true rfl) ?_
  simp only [go_sem]
  refine act_split (fun h => ?_) (fun h => ?_) <;> simp only [beq_iff_eq, beq_eq_false_iff_ne, ne_eq] at h
  · simp only [go_sem, exB]
    rw [if_pos (by omega)]; rfl
  simp only [go_sem]
  refine act_split (fun h2 => ?_) (fun h2 => ?_) <;> simp only [beq_iff_eq, beq_eq_false_iff_ne, ne_eq] at h2
  · simp only [go_sem, exB]
    rw [if_neg (by omega), if_pos (by omega)]; rfl
  simp only [go_sem]
  refine act_split (fun h3 => ?_) (fun h3 => ?_) <;> simp only [beq_iff_eq, beq_eq_false_iff_ne, ne_eq] at h3
  · simp only [go_sem, exB]
    rw [if_neg (by omega), if_neg (by omega), if_pos (by omega)]; rfl
  · simp only [go_sem, exB]
    rw [if_neg (by omega), if_neg (by omega), if_neg (by omega)]; rfl
theorem c126 (sym : Nat) : CS Tryz.prog false 96 [.v (.int .i64 sym)] [.int .i64 (exB sym)] [] := by
  refine CS_act tab_ok md Tryz.func96 rfl rfl Tryz.ntmps96 (rl := [.tmp 2]) rfl (Nat.le_of_ble_eq_true rfl) ?_
  simp only [go_sem]
  refine act_split (fun h => ?_) (fun h => ?_) <;> simp only [beq_iff_eq, beq_eq_false_iff_ne, ne_eq] at h
  · simp only [go_sem, exB]
    rw [if_pos (by omega)]; rfl
  simp only [go_sem]
  refine act_split (fun h2 => ?_) (fun h2 => ?_) <;> simp only [beq_iff_eq, beq_eq_false_iff_ne, ne_eq] at h2
  · simp only [go_sem, exB]
    rw [if_neg (by omega), if_pos (by omega)]; rfl
  simp only [go_sem]
  refine act_split (fun h3 => ?_) (fun h3 => ?_) <;> simp only [beq_iff_eq, beq_eq_false_iff_ne, ne_eq] at h3
  · simp only [go_sem, exB]
    rw [if_neg (by omega), if_neg (by omega), if_pos (by omega)]; rfl
  · simp only [go_sem, exB]
    rw [if_neg (by omega), if_neg (by omega), if_neg (by omega)]; rfl

/-- How many extra bits a length's symbol has, and the least length. -/
def lenX (sym : Nat) : Nat := if sym = 285 then 0 else if sym < 265 then 0 else (sym - 257) / 4 - 1
def lenF (sym : Nat) : Nat := if sym = 285 then 258 else if sym < 265 then sym - 254 else 3 + (4 + (sym - 257) % 4) * 2 ^ ((sym - 257) / 4 - 1)
def disX (sym : Nat) : Nat := if sym < 4 then 0 else sym / 2 - 1
def disF (sym : Nat) : Nat := if sym < 4 then sym + 1 else 1 + (2 + sym % 2) * 2 ^ (sym / 2 - 1)
theorem lenX_le {sym : Nat} (h : sym ≤ 285) : lenX sym ≤ 5 := by
  unfold lenX; (repeat' split) <;> omega
theorem disX_le {sym : Nat} (h : sym ≤ 29) : disX sym ≤ 13 := by
  unfold disX; split <;> omega
theorem lenF_le {sym : Nat} (h1 : 257 ≤ sym) (h : sym ≤ 285) : lenF sym ≤ 258 := by
  have : ∀ k : Fin 29, lenF (257 + k.1) ≤ 258 := by decide
  have := this ⟨sym - 257, by omega⟩
  simpa [show 257 + (sym - 257) = sym by omega] using this
theorem lenF_step {s : Nat} (h1 : 265 ≤ s) (h : s < 284) : lenF (s + 1) = lenF s + 2 ^ ((s - 261) / 4) := by
  have : ∀ k : Fin 19, lenF (265 + k.1 + 1) = lenF (265 + k.1) + 2 ^ ((265 + k.1 - 261) / 4) := by decide
  have := this ⟨s - 265, by omega⟩
  simpa only [show 265 + (s - 265) = s by omega] using this
theorem disF_le {sym : Nat} (h : sym ≤ 29) : disF sym ≤ 32768 := by
  have : ∀ k : Fin 30, disF k.1 ≤ 32768 := by decide
  exact this ⟨sym, by omega⟩
theorem disF_step {s : Nat} (h1 : 4 ≤ s) (h : s < 29) : disF (s + 1) = disF s + 2 ^ ((s - 2) / 2) := by
  have : ∀ k : Fin 25, disF (4 + k.1 + 1) = disF (4 + k.1) + 2 ^ ((4 + k.1 - 2) / 2) := by decide
  have := this ⟨s - 4, by omega⟩
  simpa only [show 4 + (s - 4) = s by omega] using this
theorem tdivN (n k : Nat) : (n : Int).tdiv k = (n / k : Nat) := by rw [Int.tdiv_eq_ediv_of_nonneg (by omega)]; rfl
theorem tmodN (n k : Nat) : (n : Int).tmod k = (n % k : Nat) := by rw [Int.tmod_eq_emod_of_nonneg (by omega)]; rfl
theorem shlN (a b : Nat) (h : b ≤ 64) : (a : Int) * 2 ^ min b 64 = (a * 2 ^ b : Nat) := by
  rw [show min b 64 = b by omega, Int.natCast_mul, natpow]
theorem c131 (sym : Nat) (h1 : 257 ≤ sym) (h2 : sym ≤ 285) : CS Tryz.prog false 127 [.v (.int .i64 sym)] [.int .i64 (lenF sym), .int .i64 (lenX sym)] [] := by
  refine CS_act tab_ok md Tryz.func127 rfl rfl Tryz.ntmps127 (rl := [.tmp 2, .tmp 3]) rfl (Nat.le_of_ble_eq_true rfl) ?_
  have e1 : (sym : Int) - 257 = (sym - 257 : Nat) := by omega
  simp only [go_sem, e1]
  rw [wrap64 (n := ((sym - 257 : Nat) : Int)) (by omega) (by omega)]
  refine act_split (fun h => ?_) (fun h => ?_) <;> simp only [beq_iff_eq, beq_eq_false_iff_ne, ne_eq] at h
  · simp only [go_sem, lenF, lenX]
    rw [if_pos (by omega), if_pos (by omega)]; rfl
  simp only [go_sem]
  refine act_split (fun h3 => ?_) (fun h3 => ?_) <;> simp only [decide_eq_true_eq, decide_eq_false_iff_not] at h3
  · simp only [go_sem, lenF, lenX]
    rw [if_neg (by omega), if_pos (by omega), if_neg (by omega), if_pos (by omega), wrap64 (by omega) (by omega), show (3 : Int) + (sym - 257 : Nat) = (sym - 254 : Nat) by omega]; rfl
  have hF := lenF_le h1 h2
  have hX := lenX_le h2
  have e2 : lenX sym = (sym - 257) / 4 - 1 := by unfold lenX; rw [if_neg (by omega), if_neg (by omega)]
  have e3 : lenF sym = 3 + (4 + (sym - 257) % 4) * 2 ^ ((sym - 257) / 4 - 1) := by unfold lenF; rw [if_neg (by omega), if_neg (by omega)]
  have d1 : ((sym - 257 : Nat) : Int).tdiv 4 = ((sym - 257) / 4 : Nat) := tdivN _ 4
  have d2 : ((sym - 257 : Nat) : Int).tmod 4 = ((sym - 257) % 4 : Nat) := tmodN _ 4
  simp only [go_sem, d1, d2]
  have hq : 2 ≤ (sym - 257) / 4 := by omega
  have e4 : (((sym - 257) / 4 : Nat) : Int) - 1 = ((sym - 257) / 4 - 1 : Nat) := by omega
  have e5 : (4 : Int) + ((sym - 257) % 4 : Nat) = (4 + (sym - 257) % 4 : Nat) := by omega
  rw [wrap64 (n := (((sym - 257) / 4 : Nat) : Int)) (by omega) (by omega), e4, wrap64 (n := (((sym - 257) / 4 - 1 : Nat) : Int)) (by omega) (by omega), Int.toNat_natCast, e5,
    wrap64 (n := ((4 + (sym - 257) % 4 : Nat) : Int)) (by omega) (by omega), shlN _ _ (by omega)]
  have e6 : (3 : Int) + ((4 + (sym - 257) % 4) * 2 ^ ((sym - 257) / 4 - 1) : Nat) = (lenF sym : Nat) := by rw [e3]; omega
  rw [wrap64 (n := (((4 + (sym - 257) % 4) * 2 ^ ((sym - 257) / 4 - 1) : Nat) : Int)) (by omega) (by omega), e6, wrap64 (by omega) (by omega), e2]
  exact ⟨by decide, by decide, by omega, rfl⟩
theorem c132 (sym : Nat) (h2 : sym ≤ 29) : CS Tryz.prog false 129 [.v (.int .i64 sym)] [.int .i64 (disF sym), .int .i64 (disX sym)] [] := by
  refine CS_act tab_ok md Tryz.func129 rfl rfl Tryz.ntmps129 (rl := [.tmp 2, .tmp 3]) rfl (Nat.le_of_ble_eq_true rfl) ?_
  simp only [go_sem]
  refine act_split (fun h => ?_) (fun h => ?_) <;> simp only [decide_eq_true_eq, decide_eq_false_iff_not] at h
  · simp only [go_sem, disF, disX]
    rw [if_pos (by omega), if_pos (by omega), wrap64 (by omega) (by omega), show (1 : Int) + sym = (sym + 1 : Nat) by omega]; rfl
  have hF := disF_le h2
  have hX := disX_le h2
  have e2 : disX sym = sym / 2 - 1 := by unfold disX; rw [if_neg (by omega)]
  have e3 : disF sym = 1 + (2 + sym % 2) * 2 ^ (sym / 2 - 1) := by unfold disF; rw [if_neg (by omega)]
  have d1 : (sym : Int).tdiv 2 = (sym / 2 : Nat) := tdivN _ 2
  have d2 : (sym : Int).tmod 2 = (sym % 2 : Nat) := tmodN _ 2
  simp only [go_sem, d1, d2]
  have hq : 2 ≤ sym / 2 := by omega
  have e4 : ((sym / 2 : Nat) : Int) - 1 = (sym / 2 - 1 : Nat) := by omega
  have e5 : (2 : Int) + (sym % 2 : Nat) = (2 + sym % 2 : Nat) := by omega
  rw [wrap64 (n := ((sym / 2 : Nat) : Int)) (by omega) (by omega), e4, wrap64 (n := ((sym / 2 - 1 : Nat) : Int)) (by omega) (by omega), Int.toNat_natCast, e5,
    wrap64 (n := ((2 + sym % 2 : Nat) : Int)) (by omega) (by omega), shlN _ _ (by omega)]
  have e6 : (1 : Int) + ((2 + sym % 2) * 2 ^ (sym / 2 - 1) : Nat) = (disF sym : Nat) := by rw [e3]; omega
  rw [wrap64 (n := (((2 + sym % 2) * 2 ^ (sym / 2 - 1) : Nat) : Int)) (by omega) (by omega), e6, wrap64 (by omega) (by omega), e2]
  exact ⟨by decide, by decide, by omega, rfl⟩
theorem c128 (n : Nat) (hn : n ≤ 62) : CS Tryz.prog false 102 [.v (.int .i64 n)] [.int .i64 (2 ^ n : Nat)] [] := by
  refine CS_act tab_ok md Tryz.func102 rfl rfl Tryz.ntmps102 (rl := [.tmp 2]) rfl (Nat.le_of_ble_eq_true rfl) ?_
  simp only [go_sem]
  refine act_callE (c34 _ _ _) ?_
  simp only [go_sem, inB_true (x := (n : Int)) (l := 0) (m := 62) (by omega) (by omega)]
  have hp : 2 ^ n ≤ 2 ^ 62 := Nat.pow_le_pow_right (by omega) hn
  have e1 : (1 : Int) * 2 ^ min n 64 = (1 * 2 ^ n : Nat) := shlN 1 n (by omega)
  rw [e1, Nat.one_mul, wrap64 (by omega) (by omega)]
  exact ⟨by omega, rfl⟩
def spanOf (f x e : Nat) : List T := if e < 2 ^ x then [.int .i64 (f + e : Nat), .bool true] else [.int .i64 0, .bool false]
theorem c169 (sym e : Nat) (h1 : 257 ≤ sym) (h2 : sym ≤ 285) (he : e ≤ 100000000) : CS Tryz.prog false 128 [.v (.int .i64 sym), .v (.int .i64 e)] (spanOf (lenF sym) (lenX sym) e) [] := by
  have hX := lenX_le h2
  have hF := lenF_le h1 h2
  have hp : 2 ^ lenX sym ≤ 2 ^ 5 := Nat.pow_le_pow_right (by omega) hX
  have hp0 := Nat.two_pow_pos (lenX sym)
  refine CS_act tab_ok md Tryz.func128 rfl rfl Tryz.ntmps128 (rl := [.tmp 4, .tmp 5]) rfl (Nat.le_of_ble_eq_true rfl) ?_
  simp only [go_sem]
  refine act_callE (c34 _ _ _) ?_
  simp only [go_sem, inB_true (x := (sym : Int)) (l := 257) (m := 285) (by omega) (by omega)]
  refine act_callE (c131 sym h1 h2) ?_
  simp only [go_sem]
  refine act_callE (c128 _ (by omega)) ?_
  simp only [go_sem]
  rw [wrap64 (n := ((2 ^ lenX sym : Nat) : Int) - 1) (by omega) (by omega)]
  refine act_callE (c34 _ _ _) ?_
  by_cases hc : e < 2 ^ lenX sym
  · rw [spanOf, if_pos hc]
    simp only [go_sem, inB_true (x := (e : Int)) (l := 0) (m := ((2 ^ lenX sym : Nat) : Int) - 1) (by omega) (by omega)]
    rw [wrap64 (by omega) (by omega)]; rfl
  · rw [spanOf, if_neg hc]
    simp only [go_sem, inB_false (x := (e : Int)) (l := 0) (m := ((2 ^ lenX sym : Nat) : Int) - 1) (by omega)]
theorem c170 (sym e : Nat) (h2 : sym ≤ 29) (he : e ≤ 100000000) : CS Tryz.prog false 130 [.v (.int .i64 sym), .v (.int .i64 e)] (spanOf (disF sym) (disX sym) e) [] := by
  have hX := disX_le h2
  have hF := disF_le h2
  have hp : 2 ^ disX sym ≤ 2 ^ 13 := Nat.pow_le_pow_right (by omega) hX
  have hp0 := Nat.two_pow_pos (disX sym)
  refine CS_act tab_ok md Tryz.func130 rfl rfl Tryz.ntmps130 (rl := [.tmp 4, .tmp 5]) rfl (Nat.le_of_ble_eq_true rfl) ?_
  simp only [go_sem]
  refine act_callE (c34 _ _ _) ?_
  simp only [go_sem, inB_true (x := (sym : Int)) (l := 0) (m := 29) (by omega) (by omega)]
  refine act_callE (c132 sym h2) ?_
  simp only [go_sem]
  refine act_callE (c128 _ (by omega)) ?_
  simp only [go_sem]
  rw [wrap64 (n := ((2 ^ disX sym : Nat) : Int) - 1) (by omega) (by omega)]
  refine act_callE (c34 _ _ _) ?_
  by_cases hc : e < 2 ^ disX sym
  · rw [spanOf, if_pos hc]
    simp only [go_sem, inB_true (x := (e : Int)) (l := 0) (m := ((2 ^ disX sym : Nat) : Int) - 1) (by omega) (by omega)]
    rw [wrap64 (by omega) (by omega)]; rfl
  · rw [spanOf, if_neg hc]
    simp only [go_sem, inB_false (x := (e : Int)) (l := 0) (m := ((2 ^ disX sym : Nat) : Int) - 1) (by omega)]
end Go.Proofs.YtikegeligblekaaGreat.M

/- Contracts for Inflate, part 3: what codes are told by. No condition. -/
namespace Go.Proofs.YtikegeligblekaaGreat.M
open Go Go.Proofs
set_option maxRecDepth 100000
set_option maxHeartbeats 2000000
set_option linter.unusedSimpArgs false
/-! ### How many lengths are n; the first code of a length; the symbols in order; the sum -/
def cntL (L : List Nat) (n : Nat) : Nat := if n = 0 then 0 else L.count n
def fstL (L : List Nat) : Nat → Nat
  | 0 => 0
  | n + 1 => 2 * (fstL L n + cntL L n)
def symN (L : List Nat) (n i : Nat) : List Nat := (List.range i).filter fun j => L[j]? == some n
def symL (L : List Nat) : Nat → List Nat
  | 0 => []
  | n + 1 => symL L n ++ symN L (n + 1) L.length
def sumL (L : List Nat) : Nat → Nat
  | 0 => 0
  | n + 1 => sumL L n + L.count (n + 1) * 2 ^ (15 - (n + 1))
theorem cntL_le (L : List Nat) (n : Nat) : cntL L n ≤ L.length := by
  unfold cntL; split
  · omega
  · exact List.count_le_length
theorem fstL_le (L : List Nat) : ∀ n, fstL L n + 2 * L.length ≤ L.length * 2 ^ (n + 1)
  | 0 => by simp [fstL, Nat.mul_comm]
  | n + 1 => by
    have h := fstL_le L n
    have h2 := cntL_le L n
    have e : L.length * 2 ^ (n + 1 + 1) = 2 * (L.length * 2 ^ (n + 1)) := by rw [Nat.pow_succ 2 (n + 1), ← Nat.mul_assoc, Nat.mul_comm]
    simp only [fstL]
    rw [e]; omega
theorem sumL_le (L : List Nat) : ∀ n, sumL L n ≤ n * (L.length * 32768)
  | 0 => by simp [sumL]
  | n + 1 => by
    have h := sumL_le L n
    have h2 : L.count (n + 1) ≤ L.length := List.count_le_length
    have h3 : 2 ^ (15 - (n + 1)) ≤ 2 ^ 15 := Nat.pow_le_pow_right (by omega) (by omega)
    have h4 : L.count (n + 1) * 2 ^ (15 - (n + 1)) ≤ L.length * 32768 := Nat.mul_le_mul h2 h3
    simp only [sumL]
    rw [Nat.succ_mul]; omega
theorem symN_succ (L : List Nat) (n i : Nat) : symN L n (i + 1) = symN L n i ++ (if L[i]? == some n then [i] else []) := by
  simp only [symN, List.range_succ, List.filter_append]
  congr 1
  simp only [List.filter_cons, List.filter_nil]
theorem symN_len (L : List Nat) (n i : Nat) : (symN L n i).length ≤ i := by
  have := List.length_filter_le (fun j => L[j]? == some n) (List.range i)
  simpa [symN] using this
theorem symL_len (L : List Nat) : ∀ n, (symL L n).length ≤ n * L.length
  | 0 => by simp [symL]
  | n + 1 => by
    have h := symL_len L n
    have h2 := symN_len L (n + 1) L.length
    simp only [symL, List.length_append]
    rw [Nat.succ_mul]; omega

/-! ### A book's cells -/
def bk (c f : Nat → Int) (sy : C) (sm : Int) : List C :=
  ((List.range 16).map fun k => .t (.int .i64 (c k))) ++ ((List.range 16).map fun k => .t (.int .i64 (f k))) ++ [sy, .t (.int .i64 sm)]
def upd (c : Nat → Int) (k : Nat) (x : Int) : Nat → Int := fun j => if j = k then x else c j
section
variable {c f : Nat → Int} {sy : C} {sm : Int}
theorem bk_len : (bk c f sy sm).length = 34 := rfl
theorem bk_there (h : sy.there = true) : (bk c f sy sm).all C.there = true := by
  have h2 : ∀ (g : Nat → Int) (l : List Nat), (l.map fun k => C.t (.int .i64 (g k))).all C.there = true := fun g l => by induction l with | nil => rfl | cons a r ih => simp only [List.map_cons, List.all_cons, ih, Bool.and_true]; rfl
  unfold bk
  rw [List.all_append, List.all_append, h2, h2]
  simp only [List.all_cons, List.all_nil, h, Bool.and_true, Bool.true_and]; rfl
theorem bk_c {k : Nat} (h : k < 16) : (bk c f sy sm)[k]? = some (.t (.int .i64 (c k))) := by
  unfold bk
  rw [List.getElem?_append_left (by simp; omega), List.getElem?_append_left (by simp; omega)]
  simp [h]
theorem bk_f {k : Nat} (h : k < 16) : (bk c f sy sm)[16 + k]? = some (.t (.int .i64 (f k))) := by
  unfold bk
  rw [List.getElem?_append_left (by simp; omega), List.getElem?_append_right (by simp)]
  simp [h]
theorem bk_s : (bk c f sy sm)[32]? = some sy := rfl
theorem bk_m : (bk c f sy sm)[33]? = some (.t (.int .i64 sm)) := rfl
theorem splice_one {α : Type} {l : List α} {k : Nat} {x : α} (h : k < l.length) : splice l k [x] = l.set k x := by
  apply List.ext_getElem?
  intro j
  rw [splice_get (by simp; omega), List.getElem?_set]
  by_cases h1 : j < k
  · simp [h1]; omega
  · by_cases h2 : j = k
    · subst h2; simp [h]
    · have : ¬ (j < k + 1) := by omega
      simp [h1, this]; omega
theorem bk_set_c {k : Nat} (h : k < 16) (x : Int) : splice (bk c f sy sm) k [.t (.int .i64 x)] = bk (upd c k x) f sy sm := by
  rw [splice_one (by rw [bk_len]; omega)]
  unfold bk
  rw [List.set_append_left _ _ (by simp; omega), List.set_append_left _ _ (by simp; omega)]
  congr 2
  apply List.ext_getElem?
  intro j
  rw [List.getElem?_set]
  simp only [List.getElem?_map, upd, List.length_map, List.length_range]
  by_cases h2 : k = j
  · subst h2; simp [h]
  · simp only [h2, if_false]
    have : ¬ j = k := fun e => h2 e.symm
    by_cases h3 : j < 16
    · simp [h3, this]
    · simp [h3]
theorem bk_set_f {k : Nat} (h : k < 16) (x : Int) : splice (bk c f sy sm) (16 + k) [.t (.int .i64 x)] = bk c (upd f k x) sy sm := by
  rw [splice_one (by rw [bk_len]; omega)]
  unfold bk
  rw [List.set_append_left _ _ (by simp; omega), List.set_append_right _ _ (by simp)]
  congr 2
  apply List.ext_getElem?
  intro j
  rw [List.getElem?_set]
  simp only [List.getElem?_map, upd, List.length_map, List.length_range]
  by_cases h2 : k = j
  · subst h2; simp [h]
  · have : ¬ j = k := fun e => h2 e.symm
    have h4 : ¬ (16 + k - 16 = j) := by omega
    simp only [h4, if_false]
    by_cases h3 : j < 16
    · simp [h3, this]
    · simp [h3]
theorem bk_set_s (y : C) : splice (bk c f sy sm) 32 [y] = bk c f y sm := rfl
theorem bk_set_m (x : Int) : splice (bk c f sy sm) 33 [.t (.int .i64 x)] = bk c f sy x := rfl
theorem bk_wc {k : Nat} (h : k < 16) (x : Int) : List.take k (bk c f sy sm) ++ [.t (.int .i64 x)] ++ List.drop (k + 1) (bk c f sy sm) = bk (upd c k x) f sy sm := bk_set_c h x
theorem bk_wf {k : Nat} (h : k < 16) (x : Int) : List.take (16 + k) (bk c f sy sm) ++ [.t (.int .i64 x)] ++ List.drop (16 + k + 1) (bk c f sy sm) = bk c (upd f k x) sy sm := bk_set_f h x
theorem bk_ws (y : C) : List.take 32 (bk c f sy sm) ++ [y] ++ List.drop 33 (bk c f sy sm) = bk c f y sm := rfl
theorem bk_wm (x : Int) : List.take 33 (bk c f sy sm) ++ [.t (.int .i64 x)] ++ List.drop 34 (bk c f sy sm) = bk c f sy x := rfl
theorem bk_refC {ks : List Nat} (h : refC ks sy = true) : (bk c f sy sm).all (refC ks) = true := by
  have h2 : ∀ (g : Nat → Int) (l : List Nat), (l.map fun k => C.t (.int .i64 (g k))).all (refC ks) = true := fun g l => by induction l with | nil => rfl | cons a r ih => simp only [List.map_cons, List.all_cons, ih, Bool.and_true]; rfl
  unfold bk
  rw [List.all_append, List.all_append, h2, h2]
  simp only [List.all_cons, List.all_nil, h, Bool.and_true, Bool.true_and]; rfl
theorem bk_lit : bk c f sy sm = [.t (.int .i64 (c 0)), .t (.int .i64 (c 1)), .t (.int .i64 (c 2)), .t (.int .i64 (c 3)), .t (.int .i64 (c 4)), .t (.int .i64 (c 5)), .t (.int .i64 (c 6)), .t (.int .i64 (c 7)), .t (.int .i64 (c 8)), .t (.int .i64 (c 9)), .t (.int .i64 (c 10)), .t (.int .i64 (c 11)), .t (.int .i64 (c 12)), .t (.int .i64 (c 13)), .t (.int .i64 (c 14)), .t (.int .i64 (c 15)), .t (.int .i64 (f 0)), .t (.int .i64 (f 1)), .t (.int .i64 (f 2)), .t (.int .i64 (f 3)), .t (.int .i64 (f 4)), .t (.int .i64 (f 5)), .t (.int .i64 (f 6)), .t (.int .i64 (f 7)), .t (.int .i64 (f 8)), .t (.int .i64 (f 9)), .t (.int .i64 (f 10)), .t (.int .i64 (f 11)), .t (.int .i64 (f 12)), .t (.int .i64 (f 13)), .t (.int .i64 (f 14)), .t (.int .i64 (f 15)), sy, .t (.int .i64 sm)] := rfl
end
attribute [go_sem] bk_len bk_s bk_m bk_ws bk_wm
theorem shr_ok {k : Nat} (h : k ≤ 15) : (32768 : Int).fdiv (2 ^ min k 64) = (2 ^ (15 - k) : Nat) := by
  have : ∀ k : Fin 16, (32768 : Int).fdiv (2 ^ min k.1 64) = (2 ^ (15 - k.1) : Nat) := by decide
  exact this ⟨k, by omega⟩
theorem nv_get {L : List Nat} {i x : Nat} (h : L[i]? = some x) : (nv L)[i]? = some (.int .i64 x) := by simp [nv, h]
theorem ob_get {L : List Nat} {i x : Nat} (h : L[i]? = some x) : (ob L)[i]? = some (.int .u8 x) := by simp [ob, h]
theorem nv_app (a b : List Nat) : nv a ++ nv b = nv (a ++ b) := by simp [nv]
theorem ob_app (a b : List Nat) : ob a ++ ob b = ob (a ++ b) := by simp [ob]
theorem nv_one (a : List Nat) (x : Nat) : nv a ++ [.int .i64 x] = nv (a ++ [x]) := by simp [nv]
theorem ob_one (a : List Nat) (x : Nat) : ob a ++ [.int .u8 x] = ob (a ++ [x]) := by simp [ob]
def cA (L : List Nat) (n : Nat) : Nat → Int := fun k => if k < n then cntL L k else 0
def fA (L : List Nat) (n : Nat) : Nat → Int := fun k => if k < n then fstL L k else 0
/-- The book of lengths. -/
def bookT (L : List Nat) : List T :=
  ((List.range 16).map fun k => .int .i64 (cntL L k)) ++ ((List.range 16).map fun k => .int .i64 (fstL L k)) ++ [.list 1 (nv (symL L 15)), .int .i64 (sumL L 15)]
theorem fA_next (L : List Nat) (m : Nat) : upd (fA L (m + 1)) (m + 1) (fstL L (m + 1)) = fA L (m + 1 + 1) := by
  funext k
  simp only [upd, fA]
  by_cases h : k = m + 1
  · subst h; simp
  · simp only [h, if_false]
    by_cases h2 : k < m + 1
    · rw [if_pos h2, if_pos (by omega)]
    · rw [if_neg h2, if_neg (by omega)]
theorem cA_next (L : List Nat) (m : Nat) : upd (cA L (m + 1)) (m + 1) (L.count (m + 1)) = cA L (m + 1 + 1) := by
  funext k
  simp only [upd, cA]
  by_cases h : k = m + 1
  · subst h; simp [cntL]
  · simp only [h, if_false]
    by_cases h2 : k < m + 1
    · rw [if_pos h2, if_pos (by omega)]
    · rw [if_neg h2, if_neg (by omega)]
theorem upd_upd (c : Nat → Int) (k : Nat) (x y : Int) : upd (upd c k x) k y = upd c k y := by
  funext j; simp only [upd]; split <;> rfl
theorem upd_same (c : Nat → Int) (k : Nat) (x : Int) : upd c k x k = x := by simp [upd]
theorem cA_same (L : List Nat) (m : Nat) : upd (cA L (m + 1)) (m + 1) 0 = cA L (m + 1) := by
  funext k; simp only [upd, cA]
  by_cases h : k = m + 1
  · subst h; simp
  · simp only [h, if_false]
theorem c100 (L : List Nat) (hl : L.length ≤ 1000) : CS Tryz.prog true 112 [.v (.list 1 (nv L))] [.bx (bookT L)] [] := by
  refine CS_act tab_ok md Tryz.func112 rfl rfl Tryz.ntmps112 (rl := [.tmp 2]) rfl (Nat.le_of_ble_eq_true rfl) ?_
  simp only [go_sem]
  refine WWE_nilbox 32 32 1 900 rfl rfl (Nat.le_of_ble_eq_true rfl) ?_
  refine act_loop_of (md := md) tab_ok [0,3,4] [32,900] 1000 (ι := {m : Nat // m ≤ 15}) (fun m => ⟨[(0, .a (.c (.t (.list 1 (nv L))))), (3, .a (.c (.ptr 32 0))), (4, .a (.c (.t (.int .i64 ((m.1 + 1 : Nat) : Int)))))], [(32, .box (bk (cA L (m.1 + 1)) (fA L (m.1 + 1)) (.own 900 (symL L m.1).length 0 (symL L m.1).length) (sumL L m.1))), (900, .arr 1 (nv (symL L m.1)) (symL L m.1).length)], 1000, 75⟩) (fun m => 15 - m.1) ⟨0, by omega⟩ (Nat.le_of_ble_eq_true rfl) (by simp only [go_sem]) (by simp only [go_sem]; rfl) fun m => ?_
  obtain ⟨m, hm⟩ := m
  simp only [go_sem]
  refine act_split (fun h => ?_) (fun h => ?_) <;> simp only [decide_eq_true_eq, decide_eq_false_iff_not] at h
  · simp only [go_sem]
    refine act_draw_of tab_ok mix md ?_
    have e1 : (((m + 1 : Nat) : Int) - 1) = m := by omega
    have hf := fstL_le L m
    have hp : 2 ^ (m + 1) ≤ 2 ^ 15 := Nat.pow_le_pow_right (by omega) (by omega)
    have hp2 : L.length * 2 ^ (m + 1) ≤ 1000 * 32768 := Nat.mul_le_mul hl hp
    have hcl := cntL_le L m
    have ef : fA L (m + 1) m = fstL L m := by simp [fA]
    have ec : cA L (m + 1) m = cntL L m := by simp [cA]
    have e3 : 2 * ((fstL L m : Int) + cntL L m) = (fstL L (m + 1) : Nat) := by simp only [fstL]; omega
    simp only [go_sem, bk_len, e1, wrap64 (n := (m : Int)) (by omega) (by omega), Nat.mul_one, bk_f (k := m) (by omega), bk_c (k := m) (by omega), ef, ec]
    rw [wrap64 (n := (fstL L m : Int) + cntL L m) (by omega) (by omega), e3, wrap64 (n := ((fstL L (m + 1) : Nat) : Int)) (by simp only [fstL]; omega) (by simp only [fstL]; omega)]
    have ed : decide (16 + (m + 1) ≤ 33) = true := by simp; omega
    refine ⟨by omega, by omega, by omega, by omega, by omega, by omega, ?_⟩
    simp only [go_sem, ed, bk_wf (k := m + 1) (by omega), fA_next]
    refine ⟨drawOk_of (by kernel_rfl), ?_⟩
    refine act_loop_of (md := md) tab_ok [0,3,4,34,35,36] [32,900] 2000 (ι := {i : Nat // i ≤ L.length}) (fun i => ⟨[(0, .a (.c (.t (.list 1 (nv L))))), (3, .a (.c (.ptr 32 0))), (4, .a (.c (.t (.int .i64 ((m + 1 : Nat) : Int))))), (34, .a (.c (.t (.list 1 (nv L))))), (35, .a (.c (.t (.int .i64 L.length)))), (36, .a (.c (.t (.int .i64 i.1))))], [(32, .box (bk (upd (cA L (m + 1)) (m + 1) ((L.take i.1).count (m + 1) : Nat)) (fA L (m + 1 + 1)) (.own 900 (symL L m ++ symN L (m + 1) i.1).length 0 (symL L m ++ symN L (m + 1) i.1).length) (sumL L m + (L.take i.1).count (m + 1) * 2 ^ (15 - (m + 1)) : Nat))), (900, .arr 1 (nv (symL L m ++ symN L (m + 1) i.1)) (symL L m ++ symN L (m + 1) i.1).length)], 2000, 75⟩) (fun i => L.length - i.1) ⟨0, by omega⟩ (Nat.le_of_ble_eq_true rfl) (by simp only [go_sem, bk_refC (ks := [32, 900]) (sy := .own 900 (symL L m).length 0 (symL L m).length) (by simp only [go_sem])]) (by simp only [go_sem]; simp [symN, cA_same L m]) fun i => ?_
    obtain ⟨i, hi⟩ := i
    simp only [go_sem]
    refine act_split (fun h2 => ?_) (fun h2 => ?_) <;> simp only [decide_eq_true_eq, decide_eq_false_iff_not] at h2
    · obtain ⟨x, hx⟩ : ∃ x, L[i]? = some x := ⟨_, List.getElem?_eq_getElem (by omega)⟩
      simp only [go_sem, nv_get hx]
      refine ⟨by omega, by omega, ?_⟩
      refine act_split (fun h3 => ?_) (fun h3 => ?_) <;> simp only [beq_iff_eq, beq_eq_false_iff_ne, ne_eq] at h3
      · simp only [go_sem]
        refine act_draw_of tab_ok mix md ?_
        simp only [go_sem, bk_len, Nat.mul_one, bk_c (k := m + 1) (by omega), upd_same]
        obtain rfl : x = m + 1 := by omega
        have hcl2 : (L.take i).count (m + 1) ≤ (L.take i).length := List.count_le_length
        have hcl3 : (L.take i).length ≤ i := by rw [List.length_take]; omega
        have hsl := symL_len L m
        have hsl2 : m * L.length ≤ 15 * 1000 := Nat.mul_le_mul (by omega) hl
        have hsl3 := symN_len L (m + 1) i
        have hsm := sumL_le L m
        have hsm2 : m * (L.length * 32768) ≤ 15 * (1000 * 32768) := Nat.mul_le_mul (by omega) (Nat.mul_le_mul hl (Nat.le_refl _))
        have hpw : 2 ^ (15 - (m + 1)) ≤ 2 ^ 15 := Nat.pow_le_pow_right (by omega) (by omega)
        have hpc : (L.take i).count (m + 1) * 2 ^ (15 - (m + 1)) ≤ 1000 * 32768 := Nat.mul_le_mul (by omega) hpw
        refine ⟨by omega, by omega, by omega, by omega, ?_⟩
        have ed2 : decide (m ≤ 32) = true := by simp; omega
        simp only [go_sem, ed2, bk_wc (k := m + 1) (by omega), upd_upd]
        refine ⟨drawOk_of (by kernel_rfl), ?_⟩
        have hll : (symL L m ++ symN L (m + 1) i).length ≤ 20000 := by rw [List.length_append]; omega
        refine ⟨by omega, ?_⟩
        refine act_draw_of tab_ok mix md ?_
        simp only [go_sem, shr_ok (k := m + 1) (by omega)]
        rw [wrap64 (n := (((L.take i).count (m + 1) : Nat) : Int) + 1) (by omega) (by omega)]
        have e8 : ((sumL L m + (L.take i).count (m + 1) * 2 ^ (15 - (m + 1)) : Nat) : Int) + (2 ^ (15 - (m + 1)) : Nat) = (sumL L m + ((L.take i).count (m + 1) + 1) * 2 ^ (15 - (m + 1)) : Nat) := by
          rw [Nat.succ_mul]; omega
        have h9 : ((L.take i).count (m + 1) + 1) * 2 ^ (15 - (m + 1)) ≤ 1001 * 32768 := Nat.mul_le_mul (by omega) hpw
        rw [e8, wrap64 (n := ((sumL L m + ((L.take i).count (m + 1) + 1) * 2 ^ (15 - (m + 1)) : Nat) : Int)) (by omega) (by omega)]
        refine ⟨by omega, drawOk_of (by kernel_rfl), ?_⟩
        have hsy : symN L (m + 1) (i + 1) = symN L (m + 1) i ++ [i] := by rw [symN_succ, hx]; simp
        have hct : (L.take (i + 1)).count (m + 1) = (L.take i).count (m + 1) + 1 := by
          rw [List.take_add_one, hx, List.count_append, Option.toList_some, List.count_singleton_self]
        refine nextK_of ⟨i+1, by omega⟩ (by simp only [go_sem, bk_refC (ks := [32, 900]) (sy := .own 900 ((symL L m ++ symN L (m + 1) i).length + 1) 0 ((symL L m ++ symN L (m + 1) i).length + 1)) (by simp only [go_sem])]) ?_ (by dsimp only; omega)
        simp only [go_sem, hsy, hct, wrap64 (n := (i : Int) + 1) (by omega) (by omega)]
        have hlen : ∀ A : List Nat, (A ++ [i]).length = A.length + 1 := by simp
        rw [nv_one, ← List.append_assoc, hlen]
        rfl
      · simp only [go_sem]
        refine nextK_of ⟨i+1, by omega⟩ (by simp only [go_sem, bk_refC (ks := [32, 900]) (sy := .own 900 (symL L m ++ symN L (m + 1) i).length 0 (symL L m ++ symN L (m + 1) i).length) (by simp only [go_sem])]) ?_ (by dsimp only; omega)
        simp only [go_sem, symN_succ, hx]
        have hne : ((some x : Option Nat) == some (m + 1)) = false := by simp; omega
        have hct : (L.take (i + 1)).count (m + 1) = (L.take i).count (m + 1) := by
          have h0 : List.count (m + 1) [x] = 0 := List.count_eq_zero.2 (by simp; omega)
          rw [List.take_add_one, hx, List.count_append, Option.toList_some, h0]; rfl
        rw [hne, hct, wrap64 (n := (i : Int) + 1) (by omega) (by omega)]
        simp
    · obtain rfl : i = L.length := by omega
      simp only [go_sem]
      refine nextK_of ⟨m+1, by omega⟩ (by simp only [go_sem, bk_refC (ks := [32, 900]) (sy := .own 900 (symL L m ++ symN L (m + 1) L.length).length 0 (symL L m ++ symN L (m + 1) L.length).length) (by simp only [go_sem])]) ?_ (by dsimp only; omega)
      simp only [go_sem]
      rw [List.take_length, cA_next, wrap64 (n := ((m + 1 : Nat) : Int) + 1) (by omega) (by omega)]
      rfl
  · obtain rfl : m = 15 := by omega
    have hs := sc_nv (symL L 15)
    have ht : List.take (symL L 15).length (nv (symL L 15)) = nv (symL L 15) := List.take_of_length_le (by simp [nv])
    simp only [go_sem, bk_lit, ht]
    exact ⟨Nat.le_refl _, rfl⟩
theorem bookT_lit (L : List Nat) : bookT L = [.int .i64 (cntL L 0), .int .i64 (cntL L 1), .int .i64 (cntL L 2), .int .i64 (cntL L 3), .int .i64 (cntL L 4), .int .i64 (cntL L 5), .int .i64 (cntL L 6), .int .i64 (cntL L 7), .int .i64 (cntL L 8), .int .i64 (cntL L 9), .int .i64 (cntL L 10), .int .i64 (cntL L 11), .int .i64 (cntL L 12), .int .i64 (cntL L 13), .int .i64 (cntL L 14), .int .i64 (cntL L 15), .int .i64 (fstL L 0), .int .i64 (fstL L 1), .int .i64 (fstL L 2), .int .i64 (fstL L 3), .int .i64 (fstL L 4), .int .i64 (fstL L 5), .int .i64 (fstL L 6), .int .i64 (fstL L 7), .int .i64 (fstL L 8), .int .i64 (fstL L 9), .int .i64 (fstL L 10), .int .i64 (fstL L 11), .int .i64 (fstL L 12), .int .i64 (fstL L 13), .int .i64 (fstL L 14), .int .i64 (fstL L 15), .list 1 (nv (symL L 15)), .int .i64 (sumL L 15)] := rfl
theorem c95 (L : List Nat) (hl : L.length ≤ 1000) (hx : ∀ x ∈ L, x ≤ 15) (m : Int) : CS Tryz.prog false 131 [.v (.list 1 (nv L)), .v (.int .i64 m)] [.bool (decide ((L.length : Int) ≤ m))] [] := by
  refine CS_act tab_ok md Tryz.func131 rfl rfl Tryz.ntmps131 (rl := [.tmp 4]) rfl (Nat.le_of_ble_eq_true rfl) ?_
  simp only [go_sem]
  refine act_loop_of (md := md) tab_ok [0,1,4,7,8,9] [] 1000 (ι := {i : Nat // i ≤ L.length}) (fun i => ⟨[(0, .a (.c (.t (.list 1 (nv L))))), (1, .a (.c (.t (.int .i64 m)))), (4, .a (.c (.t (.bool false)))), (7, .a (.c (.t (.list 1 (nv L))))), (8, .a (.c (.t (.int .i64 L.length)))), (9, .a (.c (.t (.int .i64 i.1))))], [], 1000, 21⟩) (fun i => L.length - i.1) ⟨0, by omega⟩ (Nat.le_of_ble_eq_true rfl) (by simp only [go_sem]) (by simp only [go_sem]; rfl) fun i => ?_
  obtain ⟨i, hi⟩ := i
  simp only [go_sem]
  refine act_split (fun h2 => ?_) (fun h2 => ?_) <;> simp only [decide_eq_true_eq, decide_eq_false_iff_not] at h2
  · obtain ⟨x, hxi⟩ : ∃ x, L[i]? = some x := ⟨_, List.getElem?_eq_getElem (by omega)⟩
    have hx15 := hx x (List.mem_of_getElem? hxi)
    simp only [go_sem, nv_get hxi]
    refine ⟨by omega, by omega, ?_⟩
    refine act_callE (c34 _ _ _) ?_
    simp only [go_sem, inB_true (x := (x : Int)) (l := 0) (m := 15) (by omega) (by omega)]
    refine nextK_of ⟨i+1, by omega⟩ (by simp only [go_sem]) ?_ (by dsimp only; omega)
    simp only [go_sem]
    rw [wrap64 (by omega) (by omega)]; rfl
  · simp only [go_sem]
/-- The kind of a code, out of the sum, the number of symbols and of those of length one. -/
def kindL (L : List Nat) : Nat :=
  if sumL L 15 = 0 then 1 else if sumL L 15 = 32768 then 2 else if sumL L 15 > 32768 then 5 else if (symL L 15).length = 1 ∧ cntL L 1 = 1 then 3 else 4
theorem c98 (L : List Nat) (hl : L.length ≤ 288) (hx : ∀ x ∈ L, x ≤ 15) : CS Tryz.prog false 121 [.v (.list 1 (nv L))] [.int .i64 (kindL L)] [] := by
  have h100 := c100 L (by omega)
  rw [bookT_lit] at h100
  refine CS_act tab_ok md Tryz.func121 rfl rfl Tryz.ntmps121 (rl := [.tmp 2]) rfl (Nat.le_of_ble_eq_true rfl) ?_
  simp only [go_sem]
  refine act_callE (c95 L (by omega) hx 288) ?_
  have e : decide ((L.length : Int) ≤ 288) = true := by simp; omega
  simp only [go_sem, e]
  refine act_callE h100 ?_
  simp only [go_sem]
  refine act_split (fun h => ?_) (fun h => ?_) <;> simp only [beq_iff_eq, beq_eq_false_iff_ne, ne_eq] at h
  · simp only [go_sem]
    simp only [kindL]
    rw [if_pos (by omega)]; rfl
  simp only [go_sem]
  refine act_split (fun h2 => ?_) (fun h2 => ?_) <;> simp only [beq_iff_eq, beq_eq_false_iff_ne, ne_eq] at h2
  · simp only [go_sem]
    simp only [kindL]
    rw [if_neg (by omega), if_pos (by omega)]; rfl
  simp only [go_sem]
  refine act_split (fun h3 => ?_) (fun h3 => ?_) <;> simp only [decide_eq_true_eq, decide_eq_false_iff_not] at h3
  · simp only [go_sem]
    simp only [kindL]
    rw [if_neg (by omega), if_neg (by omega), if_pos (by omega)]; rfl
  simp only [go_sem]
  refine act_split (fun h4 => ?_) (fun h4 => ?_)
  · have g4 : (symL L 15).length = 1 := by simp at h4; omega
    simp only [go_sem, h4]
    refine ⟨by omega, by omega, ?_⟩
    simp only [go_sem, h4, Int.reduceToNat, List.getElem?_cons_succ, List.getElem?_cons_zero]
    refine act_split (fun h5 => ?_) (fun h5 => ?_)
    · have g5 : cntL L 1 = 1 := by simp at h5; omega
      simp only [go_sem, h5]
      simp only [kindL]
      rw [if_neg (by omega), if_neg (by omega), if_neg (by omega), if_pos (And.intro g4 g5)]; rfl
    · have g5 : ¬ cntL L 1 = 1 := by simp at h5; omega
      simp only [go_sem, h5]
      simp only [kindL]
      rw [if_neg (by omega), if_neg (by omega), if_neg (by omega), if_neg (fun h => g5 h.2)]; rfl
  · have g4 : ¬ (symL L 15).length = 1 := by simp at h4; omega
    simp only [go_sem, h4]
    simp only [kindL]
    rw [if_neg (by omega), if_neg (by omega), if_neg (by omega), if_neg (fun h => g4 h.1)]; rfl
end Go.Proofs.YtikegeligblekaaGreat.M

/- Contracts for Inflate, part 4: a symbol is taken. No condition. -/
namespace Go.Proofs.YtikegeligblekaaGreat.M
open Go Go.Proofs
set_option maxRecDepth 100000
set_option maxHeartbeats 2000000
set_option linter.unusedSimpArgs false
/-- The book of lengths as a box. -/
def bookB (L : List Nat) : List BC :=
  ((List.range 16).map fun k => .t (.int .i64 (cntL L k))) ++ ((List.range 16).map fun k => .t (.int .i64 (fstL L k))) ++ [.arr 1 (nv (symL L 15)), .t (.int .i64 (sumL L 15))]
theorem bookB_lit (L : List Nat) : bookB L = [.t (.int .i64 (cntL L 0)), .t (.int .i64 (cntL L 1)), .t (.int .i64 (cntL L 2)), .t (.int .i64 (cntL L 3)), .t (.int .i64 (cntL L 4)), .t (.int .i64 (cntL L 5)), .t (.int .i64 (cntL L 6)), .t (.int .i64 (cntL L 7)), .t (.int .i64 (cntL L 8)), .t (.int .i64 (cntL L 9)), .t (.int .i64 (cntL L 10)), .t (.int .i64 (cntL L 11)), .t (.int .i64 (cntL L 12)), .t (.int .i64 (cntL L 13)), .t (.int .i64 (cntL L 14)), .t (.int .i64 (cntL L 15)), .t (.int .i64 (fstL L 0)), .t (.int .i64 (fstL L 1)), .t (.int .i64 (fstL L 2)), .t (.int .i64 (fstL L 3)), .t (.int .i64 (fstL L 4)), .t (.int .i64 (fstL L 5)), .t (.int .i64 (fstL L 6)), .t (.int .i64 (fstL L 7)), .t (.int .i64 (fstL L 8)), .t (.int .i64 (fstL L 9)), .t (.int .i64 (fstL L 10)), .t (.int .i64 (fstL L 11)), .t (.int .i64 (fstL L 12)), .t (.int .i64 (fstL L 13)), .t (.int .i64 (fstL L 14)), .t (.int .i64 (fstL L 15)), .arr 1 (nv (symL L 15)), .t (.int .i64 (sumL L 15))] := rfl
theorem bk_book (L : List Nat) (sy : C) : [C.t (.int .i64 (cntL L 0)), .t (.int .i64 (cntL L 1)), .t (.int .i64 (cntL L 2)), .t (.int .i64 (cntL L 3)), .t (.int .i64 (cntL L 4)), .t (.int .i64 (cntL L 5)), .t (.int .i64 (cntL L 6)), .t (.int .i64 (cntL L 7)), .t (.int .i64 (cntL L 8)), .t (.int .i64 (cntL L 9)), .t (.int .i64 (cntL L 10)), .t (.int .i64 (cntL L 11)), .t (.int .i64 (cntL L 12)), .t (.int .i64 (cntL L 13)), .t (.int .i64 (cntL L 14)), .t (.int .i64 (cntL L 15)), .t (.int .i64 (fstL L 0)), .t (.int .i64 (fstL L 1)), .t (.int .i64 (fstL L 2)), .t (.int .i64 (fstL L 3)), .t (.int .i64 (fstL L 4)), .t (.int .i64 (fstL L 5)), .t (.int .i64 (fstL L 6)), .t (.int .i64 (fstL L 7)), .t (.int .i64 (fstL L 8)), .t (.int .i64 (fstL L 9)), .t (.int .i64 (fstL L 10)), .t (.int .i64 (fstL L 11)), .t (.int .i64 (fstL L 12)), .t (.int .i64 (fstL L 13)), .t (.int .i64 (fstL L 14)), .t (.int .i64 (fstL L 15)), sy, .t (.int .i64 (sumL L 15))] = bk (fun k => cntL L k) (fun k => fstL L k) sy (sumL L 15) := rfl
def bef (L : List Nat) : Nat → Nat
  | 0 => 0
  | n + 1 => bef L n + cntL L n
theorem symN_count (L : List Nat) (n : Nat) : ∀ i, i ≤ L.length → (symN L n i).length = (L.take i).count n
  | 0, _ => by simp [symN]
  | i + 1, h => by
    have ih := symN_count L n i (by omega)
    obtain ⟨x, hx⟩ : ∃ x, L[i]? = some x := ⟨_, List.getElem?_eq_getElem (by omega)⟩
    rw [symN_succ, List.length_append, ih, List.take_add_one, hx, List.count_append, Option.toList_some]
    congr 1
    by_cases h2 : x = n
    · subst h2; simp
    · have h0 : List.count n [x] = 0 := List.count_eq_zero.2 (by simp; omega)
      rw [h0]
      have : ((some x : Option Nat) == some n) = false := by simp [h2]
      rw [this]; rfl
theorem symL_bef (L : List Nat) : ∀ n, (symL L n).length = bef L (n + 1)
  | 0 => by simp [symL, bef, cntL]
  | n + 1 => by
    have ih := symL_bef L n
    simp only [symL, List.length_append, ih]
    rw [symN_count L (n + 1) L.length (Nat.le_refl _), List.take_length]
    conv => rhs; unfold bef
    simp [cntL]
theorem bef_mono (L : List Nat) {n m : Nat} (h : n ≤ m) : bef L n ≤ bef L m := by
  induction h with
  | refl => exact Nat.le_refl _
  | step h ih => simp only [bef]; omega
def symGo (s : ByteArray) (L : List Nat) : Nat → Nat → Nat → Rd → Nat × Rd
  | 0, _, _, r => (0, r.fail 6)
  | m + 1, n, x, r =>
    if 0 < n ∧ fstL L n ≤ x ∧ x < fstL L n + cntL L n then ((symL L 15).getD (bef L n + (x - fstL L n)) 0, r)
    else if n = 15 ∨ sumL L 15 ≤ x * 2 ^ (15 - n) then (0, r.fail 6)
    else if (getBits s r 1).2.code ≠ 0 then (0, (getBits s r 1).2) else symGo s L m (n + 1) (2 * x + (getBits s r 1).1) (getBits s r 1).2
theorem getBits1 (s : ByteArray) (r : Rd) (hc : r.code = 0) : getBits s r 1 = if 8 * s.size < r.at' + 1 then (0, { r with code := 2 }) else (bit s r.at', { r with at' := r.at' + 1 }) := by
  simp [getBits, hc, bitsV]
def Rd.adv (r : Rd) (n : Nat) : Rd := { r with at' := r.at' + n }
theorem fail_adv (s : ByteArray) (most : Nat) (r : Rd) (n : Nat) (hc : r.code = 0) (hs : s.size ≤ 12000) (ha : r.at' + n ≤ 8 * s.size) :
    (r.adv n).fail 6 = ⟨r.at' + n, r.out, r.ty, 6⟩ ∧
    CS Tryz.prog false 100 [.mb [.t (.str s), .t (.int .i64 ((r.at' + n : Nat) : Int)), .t (.int .i64 most), .arr 1 (ob r.out), .arr 1 (nv r.ty), .t (.int .i64 r.code)], .v (.int .i64 6)] [] [[.t (.str s), .t (.int .i64 ((r.at' + n : Nat) : Int)), .t (.int .i64 most), .arr 1 (ob r.out), .arr 1 (nv r.ty), .t (.int .i64 6)]] ∧
    CS Tryz.prog false 108 [.mb [.t (.str s), .t (.int .i64 ((r.at' + n : Nat) : Int)), .t (.int .i64 most), .arr 1 (ob r.out), .arr 1 (nv r.ty), .t (.int .i64 6)], .v (.int .i64 1)] [.int .i64 0] [[.t (.str s), .t (.int .i64 ((r.at' + n : Nat) : Int)), .t (.int .i64 most), .arr 1 (ob r.out), .arr 1 (nv r.ty), .t (.int .i64 6)]] := by
  have ef : (r.adv n).fail 6 = ⟨r.at' + n, r.out, r.ty, 6⟩ := by simp [Rd.fail, Rd.adv, hc]
  refine ⟨ef, ?_, ?_⟩
  · have h := c77 s most (r.adv n) 6
    rw [ef] at h
    exact h
  · have h := c112 s most ⟨r.at' + n, r.out, r.ty, 6⟩ 1 hs (by show r.at' + n ≤ _; omega) (by omega)
    rw [show getBits s ⟨r.at' + n, r.out, r.ty, 6⟩ 1 = (0, ⟨r.at' + n, r.out, r.ty, 6⟩) from rfl] at h
    exact h
theorem bits_adv (s : ByteArray) (most : Nat) (r : Rd) (n : Nat) (hc : r.code = 0) (hs : s.size ≤ 12000) (ha : r.at' + n ≤ 8 * s.size) :
    (8 * s.size < r.at' + n + 1 → getBits s (r.adv n) 1 = (0, ⟨r.at' + n, r.out, r.ty, 2⟩) ∧
      CS Tryz.prog false 108 [.mb [.t (.str s), .t (.int .i64 ((r.at' + n : Nat) : Int)), .t (.int .i64 most), .arr 1 (ob r.out), .arr 1 (nv r.ty), .t (.int .i64 r.code)], .v (.int .i64 1)] [.int .i64 0] [[.t (.str s), .t (.int .i64 ((r.at' + n : Nat) : Int)), .t (.int .i64 most), .arr 1 (ob r.out), .arr 1 (nv r.ty), .t (.int .i64 2)]]) ∧
    (¬ 8 * s.size < r.at' + n + 1 → getBits s (r.adv n) 1 = (bit s (r.at' + n), r.adv (n + 1)) ∧
      CS Tryz.prog false 108 [.mb [.t (.str s), .t (.int .i64 ((r.at' + n : Nat) : Int)), .t (.int .i64 most), .arr 1 (ob r.out), .arr 1 (nv r.ty), .t (.int .i64 r.code)], .v (.int .i64 1)] [.int .i64 (bit s (r.at' + n))] [[.t (.str s), .t (.int .i64 ((r.at' + (n + 1) : Nat) : Int)), .t (.int .i64 most), .arr 1 (ob r.out), .arr 1 (nv r.ty), .t (.int .i64 r.code)]]) := by
  have h := c112 s most (r.adv n) 1 hs (by show r.at' + n ≤ _; omega) (by omega)
  refine ⟨fun h1 => ?_, fun h1 => ?_⟩
  · have eg : getBits s (r.adv n) 1 = (0, ⟨r.at' + n, r.out, r.ty, 2⟩) := by rw [getBits1 s (r.adv n) hc]; exact if_pos h1
    rw [eg] at h
    exact ⟨eg, h⟩
  · have eg : getBits s (r.adv n) 1 = (bit s (r.at' + n), r.adv (n + 1)) := by rw [getBits1 s (r.adv n) hc]; exact if_neg h1
    rw [eg] at h
    exact ⟨eg, h⟩
theorem c149 (s : ByteArray) (most : Nat) (r : Rd) (L : List Nat) (hs : s.size ≤ 12000) (ha : r.at' ≤ 8 * s.size) (hc : r.code = 0) (hl : L.length ≤ 1000) :
    CS Tryz.prog false 118 [.mb (rdB s most r), .mb (bookB L)] [.int .i64 (symGo s L 16 0 0 r).1] [rdB s most (symGo s L 16 0 0 r).2, bookB L] := by
  simp only [rdB_def, bookB_lit]
  refine CS_act tab_ok md Tryz.func118 rfl rfl Tryz.ntmps118 (rl := [.tmp 4]) rfl (Nat.le_of_ble_eq_true rfl) ?_
  simp only [go_sem, bk_book]
  refine act_loop_of (md := md) tab_ok [0,1,4,5,6,7] [0,1,2,3,4] 1000 (ι := {q : Nat × Nat // q.1 ≤ 15 ∧ q.2 < 2 ^ q.1 ∧ r.at' + q.1 ≤ 8 * s.size ∧ symGo s L (16 - q.1) q.1 q.2 (r.adv q.1) = symGo s L 16 0 0 r}) (fun q => ⟨[(0, .a (.c (.ptr 0 0))), (1, .a (.c (.ptr 3 0))), (4, .a (.c (.t (.int .i64 0)))), (5, .a (.c (.t (.int .i64 q.1.2)))), (6, .a (.c (.t (.int .i64 (bef L q.1.1))))), (7, .a (.c (.t (.int .i64 q.1.1))))], [(0, .box [.t (.str s), .t (.int .i64 ((r.at' + q.1.1 : Nat) : Int)), .t (.int .i64 most), .own 1 q.1.1 0 r.out.length, .own 2 q.1.1 0 r.ty.length, .t (.int .i64 r.code)]), (1, .arr 1 (ob r.out) q.1.1), (2, .arr 1 (nv r.ty) q.1.1), (3, .box (bk (fun k => cntL L k) (fun k => fstL L k) (.own 4 0 0 (symL L 15).length) (sumL L 15))), (4, .arr 1 (nv (symL L 15)) 0)], 1000, 74⟩) (fun q => 16 - q.1.1) ⟨(0, 0), by omega, by simp, by omega, rfl⟩ (Nat.le_of_ble_eq_true rfl) (by simp only [go_sem, bk_refC (ks := [0, 1, 2, 3, 4]) (sy := .own 4 0 0 (symL L 15).length) (by simp only [go_sem])]) (by simp only [go_sem]; rfl) fun q => ?_
  obtain ⟨⟨n, x⟩, hn, hx, hat, hgo⟩ := q
  dsimp only at hn hx hat hgo ⊢
  obtain ⟨m, hm⟩ : ∃ m, 16 - n = m + 1 := ⟨15 - n, by omega⟩
  rw [hm, symGo] at hgo
  have e : ((r.code : Int) == 0) = true := by simp [hc]
  have e' : ((r.code : Int) != 0) = false := by simp [hc]
  have hfl := fstL_le L n
  have hp : 2 ^ (n + 1) ≤ 2 ^ 16 := Nat.pow_le_pow_right (by omega) (by omega)
  have hp2 : L.length * 2 ^ (n + 1) ≤ 1000 * 65536 := Nat.mul_le_mul hl hp
  have hx2 : 2 ^ n ≤ 2 ^ 15 := Nat.pow_le_pow_right (by omega) hn
  have hcl := cntL_le L n
  have hbm := bef_mono L (n := n + 1) (m := 16) (by omega)
  have hb16 : (symL L 15).length = bef L 16 := symL_bef L 15
  have hbl := symL_len L 15
  have hbn : bef L (n + 1) = bef L n + cntL L n := rfl
  simp only [go_sem, Nat.mul_one, bk_f (k := n) (by omega)]
  refine ⟨by omega, by omega, ?_⟩
  rw [wrap64 (n := (x : Int) - fstL L n) (by omega) (by omega)]
  by_cases hf : 0 < n ∧ fstL L n ≤ x ∧ x < fstL L n + cntL L n
  · rw [if_pos hf] at hgo
    have e1 : decide ((n : Int) > 0) = true := by simp; omega
    simp only [go_sem, e1, Nat.mul_one, bk_c (k := n) (by omega)]
    refine ⟨by omega, by omega, ?_⟩
    rw [wrap64 (n := (cntL L n : Int) - 1) (by omega) (by omega)]
    refine act_callE (c34 _ _ _) ?_
    simp only [go_sem, inB_true (x := (x : Int) - fstL L n) (l := 0) (m := (cntL L n : Int) - 1) (by omega) (by omega)]
    have e2 : (bef L n : Int) + ((x : Int) - fstL L n) = (bef L n + (x - fstL L n) : Nat) := by omega
    rw [e2, wrap64 (n := ((bef L n + (x - fstL L n) : Nat) : Int)) (by omega) (by omega)]
    obtain ⟨y, hy⟩ : ∃ y, (symL L 15)[bef L n + (x - fstL L n)]? = some y := ⟨_, List.getElem?_eq_getElem (by omega)⟩
    simp only [go_sem, nv_get hy]
    refine ⟨by omega, by omega, ?_⟩
    simp only [← hgo, List.getD_eq_getElem?_getD, hy, Option.getD_some]
    simp only [go_sem, bk_lit]
    rfl
  · rw [if_neg hf] at hgo
    by_cases h0 : 0 < n
    have e1 : decide ((n : Int) > 0) = true := by simp; omega
    simp only [go_sem, e1, Nat.mul_one, bk_c (k := n) (by omega)]
    refine ⟨by omega, by omega, ?_⟩
    rw [wrap64 (n := (cntL L n : Int) - 1) (by omega) (by omega)]
    refine act_callE (c34 _ _ _) ?_
    have ei : inB ((x : Int) - fstL L n) 0 ((cntL L n : Int) - 1) = false := inB_false (by omega)
    rotate_left
    have e1 : decide ((n : Int) > 0) = false := by simp; omega
    have ei : inB ((x : Int) - fstL L n) 0 ((cntL L n : Int) - 1) = inB ((x : Int) - fstL L n) 0 ((cntL L n : Int) - 1) := rfl
    rotate_left
    all_goals
      simp only [go_sem, e1, ei, Nat.mul_one, bk_c (k := n) (by omega)]
      refine ⟨by omega, by omega, ?_⟩
      refine act_draw_of tab_ok mix md ?_
      rw [wrap64 (n := (bef L n : Int) + cntL L n) (by omega) (by omega)]
      by_cases h15 : n = 15
      · have e15 : ((n : Int) == 15) = true := by simp; omega
        obtain ⟨ef, h77, h112⟩ := fail_adv s most r n hc hs hat
        rw [if_pos (Or.inl h15)] at hgo
        simp only [go_sem, e15]
        refine ⟨drawOk_of (by kernel_rfl), ?_⟩
        refine act_callE h77 ?_
        simp only [go_sem]
        refine act_callE h112 ?_
        have e6 : ((6 : Int) != 0) = true := rfl
        simp only [go_sem, e6, bk_lit, ← hgo, ef]
        exact ⟨rfl, rfl⟩
      · have e15 : ((n : Int) == 15) = false := by simp; omega
        have e3 : ((15 : Int) - n) = (15 - n : Nat) := by omega
        have e4 : ((15 - n : Nat) : Int).toNat = 15 - n := by omega
        have hpx : x * 2 ^ (15 - n) < 2 ^ n * 2 ^ (15 - n) := Nat.mul_lt_mul_of_pos_right hx (Nat.two_pow_pos _)
        rw [← Nat.pow_add, show n + (15 - n) = 15 by omega] at hpx
        have e5 : (x : Int) * 2 ^ min (15 - n) 64 = (x * 2 ^ (15 - n) : Nat) := by
          rw [show min (15 - n) 64 = 15 - n by omega, Int.natCast_mul, natpow]
        simp only [go_sem, e15, e3]
        rw [wrap64 (n := ((15 - n : Nat) : Int)) (by omega) (by omega)]
        simp only [go_sem, e4, e5]
        refine ⟨by omega, drawOk_of (by kernel_rfl), ?_⟩
        rw [wrap64 (n := ((x * 2 ^ (15 - n) : Nat) : Int)) (by omega) (by omega)]
        by_cases hsum : sumL L 15 ≤ x * 2 ^ (15 - n)
        · obtain ⟨ef, h77, h112⟩ := fail_adv s most r n hc hs hat
          rw [if_pos (Or.inr hsum)] at hgo
          have e7 : decide (((x * 2 ^ (15 - n) : Nat) : Int) ≥ (sumL L 15 : Int)) = true := by simp only [decide_eq_true_eq]; omega
          simp only [go_sem, e7]
          refine act_callE h77 ?_
          simp only [go_sem]
          refine act_callE h112 ?_
          have e6 : ((6 : Int) != 0) = true := rfl
          simp only [go_sem, e6, bk_lit, ← hgo, ef]
          exact ⟨rfl, rfl⟩
        · rw [if_neg (by omega)] at hgo
          have e7 : decide (((x * 2 ^ (15 - n) : Nat) : Int) ≥ (sumL L 15 : Int)) = false := by simp only [decide_eq_false_iff_not]; omega
          obtain ⟨b1, b2⟩ := bits_adv s most r n hc hs hat
          simp only [go_sem, e7]
          by_cases hov : 8 * s.size < r.at' + n + 1
          · obtain ⟨eg, h112⟩ := b1 hov
            rw [eg, if_pos (by show (2 : Nat) ≠ 0; decide)] at hgo
            refine act_callE h112 ?_
            have e6 : ((2 : Int) != 0) = true := rfl
            simp only [go_sem, e6, bk_lit, ← hgo]
            exact ⟨rfl, rfl⟩
          · obtain ⟨eg, h112⟩ := b2 hov
            rw [eg, if_neg (by show ¬ r.code ≠ 0; omega)] at hgo
            have hbt := bit_lt s (r.at' + n)
            have hpn : 2 ^ (n + 1) = 2 * 2 ^ n := by rw [Nat.pow_succ]; omega
            refine act_callE h112 ?_
            simp only [go_sem, e']
            refine nextK_of ⟨(n + 1, 2 * x + bit s (r.at' + n)), by dsimp only; omega, by dsimp only; omega, by dsimp only; omega, by dsimp only; rw [show 16 - (n + 1) = m by omega]; exact hgo⟩ (by simp only [go_sem, bk_refC (ks := [0, 1, 2, 3, 4]) (sy := .own 4 0 0 (symL L 15).length) (by simp only [go_sem])]) ?_ (by dsimp only; omega)
            simp only [go_sem]
            rw [wrap64 (n := 2 * (x : Int)) (by omega) (by omega), wrap64 (by omega) (by omega), wrap64 (n := (n : Int) + 1) (by omega) (by omega)]
            rfl
end Go.Proofs.YtikegeligblekaaGreat.M

/- Contracts for Inflate, part 6: the reference's lengths and distances; orders; told. No condition. -/
namespace Go.Proofs.YtikegeligblekaaGreat.M
open Go Go.Proofs
set_option maxRecDepth 100000
set_option maxHeartbeats 2000000
set_option linter.unusedSimpArgs false
theorem pow_cast (n : Nat) : (2:Int) ^ n = (2 ^ n : Nat) := (natpow n).symm
theorem c120 (sym : Nat) (h1 : 257 ≤ sym) (h2 : sym ≤ 285) : CS Tryz.prog false 90 [.v (.int .i64 sym)] [.int .i64 (lenX sym), .int .i64 (lenF sym)] [] := by
  refine CS_act tab_ok md Tryz.func90 rfl rfl Tryz.ntmps90 (rl := [.tmp 2, .tmp 3]) rfl (Nat.le_of_ble_eq_true rfl) ?_
  simp only [go_sem]
  refine act_split (fun h => ?_) (fun h => ?_) <;> simp only [decide_eq_true_eq, decide_eq_false_iff_not] at h
  · simp only [go_sem, lenF, lenX]
    rw [if_neg (by omega), if_pos (by omega), if_neg (by omega), if_pos (by omega), wrap64 (by omega) (by omega), show (sym : Int) - 254 = (sym - 254 : Nat) by omega]; rfl
  simp only [go_sem]
  refine act_split (fun h3 => ?_) (fun h3 => ?_) <;> simp only [beq_iff_eq, beq_eq_false_iff_ne, ne_eq] at h3
  · simp only [go_sem, lenF, lenX]
    rw [if_pos (by omega), if_pos (by omega)]; rfl
  have d1 : ((sym - 261 : Nat) : Int).tdiv 4 = ((sym - 261) / 4 : Nat) := tdivN _ 4
  have e1 : (sym : Int) - 261 = (sym - 261 : Nat) := by omega
  have e2 : lenX sym = (sym - 261) / 4 := by unfold lenX; rw [if_neg (by omega), if_neg (by omega)]; omega
  simp only [go_sem, e1]
  rw [wrap64 (n := ((sym - 261 : Nat) : Int)) (by omega) (by omega), d1, wrap64 (n := (((sym - 261) / 4 : Nat) : Int)) (by omega) (by omega)]
  refine ⟨by decide, ?_⟩
  refine act_loop_of (md := md) tab_ok [0,4,5,6] [] 1000 (ι := {s : Nat // 265 ≤ s ∧ s ≤ sym}) (fun s => ⟨[(0, .a (.c (.t (.int .i64 sym)))), (4, .a (.c (.t (.int .i64 ((sym - 261) / 4 : Nat))))), (5, .a (.c (.t (.int .i64 (lenF s.1))))), (6, .a (.c (.t (.int .i64 s.1))))], [], 1000, 29⟩) (fun s => sym - s.1) ⟨265, by omega⟩ (Nat.le_of_ble_eq_true rfl) (by simp only [go_sem]) (by simp only [go_sem]; rfl) fun s => ?_
  obtain ⟨s, hs1, hs2⟩ := s
  simp only [go_sem]
  refine act_split (fun h4 => ?_) (fun h4 => ?_) <;> simp only [decide_eq_true_eq, decide_eq_false_iff_not] at h4
  · have d2 : ((s - 261 : Nat) : Int).tdiv 4 = ((s - 261) / 4 : Nat) := tdivN _ 4
    have e3 : (s : Int) - 261 = (s - 261 : Nat) := by omega
    have hst := lenF_step (s := s) hs1 (by omega)
    have hle := lenF_le (sym := s + 1) (by omega) (by omega)
    simp only [go_sem, e3]
    rw [wrap64 (n := ((s - 261 : Nat) : Int)) (by omega) (by omega), d2, wrap64 (n := (((s - 261) / 4 : Nat) : Int)) (by omega) (by omega)]
    refine ⟨by decide, ?_⟩
    refine act_callE (c105 _ (by omega)) ?_
    simp only [go_sem]
    refine nextK_of ⟨s+1, by omega⟩ (by simp only [go_sem]) ?_ (by dsimp only; omega)
    simp only [go_sem, pow_cast]
    have e4 : (lenF s : Int) + (2 ^ ((s - 261) / 4) : Nat) = (lenF (s + 1) : Nat) := by omega
    rw [wrap64 (n := (s : Int) + 1) (by omega) (by omega), e4, wrap64 (by omega) (by omega)]; rfl
  · obtain rfl : s = sym := by omega
    simp only [go_sem]
    rw [e2]
theorem c122 (sym : Nat) (h2 : sym ≤ 29) : CS Tryz.prog false 92 [.v (.int .i64 sym)] [.int .i64 (disX sym), .int .i64 (disF sym)] [] := by
  refine CS_act tab_ok md Tryz.func92 rfl rfl Tryz.ntmps92 (rl := [.tmp 2, .tmp 3]) rfl (Nat.le_of_ble_eq_true rfl) ?_
  simp only [go_sem]
  refine act_split (fun h => ?_) (fun h => ?_) <;> simp only [decide_eq_true_eq, decide_eq_false_iff_not] at h
  · simp only [go_sem, disF, disX]
    rw [if_pos (by omega), if_pos (by omega), wrap64 (by omega) (by omega)]; rfl
  have e2 : disX sym = (sym - 2) / 2 := by unfold disX; rw [if_neg (by omega)]; omega
  simp only [go_sem]
  refine act_loop_of (md := md) tab_ok [0,4,5] [] 1000 (ι := {s : Nat // 4 ≤ s ∧ s ≤ sym}) (fun s => ⟨[(0, .a (.c (.t (.int .i64 sym)))), (4, .a (.c (.t (.int .i64 (disF s.1))))), (5, .a (.c (.t (.int .i64 s.1))))], [], 1000, 25⟩) (fun s => sym - s.1) ⟨4, by omega⟩ (Nat.le_of_ble_eq_true rfl) (by simp only [go_sem]) (by simp only [go_sem]; rfl) fun s => ?_
  obtain ⟨s, hs1, hs2⟩ := s
  simp only [go_sem]
  refine act_split (fun h4 => ?_) (fun h4 => ?_) <;> simp only [decide_eq_true_eq, decide_eq_false_iff_not] at h4
  · have d2 : ((s - 2 : Nat) : Int).tdiv 2 = ((s - 2) / 2 : Nat) := tdivN _ 2
    have e3 : (s : Int) - 2 = (s - 2 : Nat) := by omega
    have hst := disF_step (s := s) hs1 (by omega)
    have hle := disF_le (sym := s + 1) (by omega)
    simp only [go_sem, e3]
    rw [wrap64 (n := ((s - 2 : Nat) : Int)) (by omega) (by omega), d2, wrap64 (n := (((s - 2) / 2 : Nat) : Int)) (by omega) (by omega)]
    refine ⟨by decide, ?_⟩
    refine act_callE (c105 _ (by omega)) ?_
    simp only [go_sem]
    refine nextK_of ⟨s+1, by omega⟩ (by simp only [go_sem]) ?_ (by dsimp only; omega)
    simp only [go_sem, pow_cast]
    have e4 : (disF s : Int) + (2 ^ ((s - 2) / 2) : Nat) = (disF (s + 1) : Nat) := by omega
    rw [wrap64 (n := (s : Int) + 1) (by omega) (by omega), e4, wrap64 (by omega) (by omega)]; rfl
  · obtain rfl : s = sym := by omega
    have d2 : ((s - 2 : Nat) : Int).tdiv 2 = ((s - 2) / 2 : Nat) := tdivN _ 2
    have e3 : (s : Int) - 2 = (s - 2 : Nat) := by omega
    simp only [go_sem, e3]
    rw [wrap64 (n := ((s - 2 : Nat) : Int)) (by omega) (by omega), d2, wrap64 (n := (((s - 2) / 2 : Nat) : Int)) (by omega) (by omega), e2]
    exact ⟨by decide, rfl⟩
theorem c121 (sym e : Nat) (h1 : 257 ≤ sym) (h2 : sym ≤ 285) (he : e ≤ 100000000) : CS Tryz.prog false 91 [.v (.int .i64 sym), .v (.int .i64 e)] (spanOf (lenF sym) (lenX sym) e) [] := by
  have hX := lenX_le h2
  have hF := lenF_le h1 h2
  have hp : 2 ^ lenX sym ≤ 2 ^ 5 := Nat.pow_le_pow_right (by omega) hX
  have hp0 := Nat.two_pow_pos (lenX sym)
  refine CS_act tab_ok md Tryz.func91 rfl rfl Tryz.ntmps91 (rl := [.tmp 4, .tmp 5]) rfl (Nat.le_of_ble_eq_true rfl) ?_
  simp only [go_sem]
  refine act_callE (c39 _ _ _) ?_
  simp only [go_sem, inB_true (x := (sym : Int)) (l := 257) (m := 285) (by omega) (by omega)]
  refine act_callE (c120 sym h1 h2) ?_
  simp only [go_sem]
  refine act_callE (c105 _ (by omega)) ?_
  simp only [go_sem, pow_cast]
  rw [wrap64 (n := ((2 ^ lenX sym : Nat) : Int) - 1) (by omega) (by omega)]
  refine act_callE (c39 _ _ _) ?_
  by_cases hc : e < 2 ^ lenX sym
  · rw [spanOf, if_pos hc]
    simp only [go_sem, inB_true (x := (e : Int)) (l := 0) (m := ((2 ^ lenX sym : Nat) : Int) - 1) (by omega) (by omega)]
    rw [wrap64 (by omega) (by omega)]; rfl
  · rw [spanOf, if_neg hc]
    simp only [go_sem, inB_false (x := (e : Int)) (l := 0) (m := ((2 ^ lenX sym : Nat) : Int) - 1) (by omega)]
theorem c123 (sym e : Nat) (h2 : sym ≤ 29) (he : e ≤ 100000000) : CS Tryz.prog false 93 [.v (.int .i64 sym), .v (.int .i64 e)] (spanOf (disF sym) (disX sym) e) [] := by
  have hX := disX_le h2
  have hF := disF_le h2
  have hp : 2 ^ disX sym ≤ 2 ^ 13 := Nat.pow_le_pow_right (by omega) hX
  have hp0 := Nat.two_pow_pos (disX sym)
  refine CS_act tab_ok md Tryz.func93 rfl rfl Tryz.ntmps93 (rl := [.tmp 4, .tmp 5]) rfl (Nat.le_of_ble_eq_true rfl) ?_
  simp only [go_sem]
  refine act_callE (c39 _ _ _) ?_
  simp only [go_sem, inB_true (x := (sym : Int)) (l := 0) (m := 29) (by omega) (by omega)]
  refine act_callE (c122 sym h2) ?_
  simp only [go_sem]
  refine act_callE (c105 _ (by omega)) ?_
  simp only [go_sem, pow_cast]
  rw [wrap64 (n := ((2 ^ disX sym : Nat) : Int) - 1) (by omega) (by omega)]
  refine act_callE (c39 _ _ _) ?_
  by_cases hc : e < 2 ^ disX sym
  · rw [spanOf, if_pos hc]
    simp only [go_sem, inB_true (x := (e : Int)) (l := 0) (m := ((2 ^ disX sym : Nat) : Int) - 1) (by omega) (by omega)]
    rw [wrap64 (by omega) (by omega)]; rfl
  · rw [spanOf, if_neg hc]
    simp only [go_sem, inB_false (x := (e : Int)) (l := 0) (m := ((2 ^ disX sym : Nat) : Int) - 1) (by omega)]
def ordL : List Nat := [16, 17, 18, 0, 8, 7, 9, 6, 10, 5, 11, 4, 12, 3, 13, 2, 14, 1, 15]
theorem c61 : CS Tryz.prog false 120 [] [.list 1 (nv ordL)] [] := by
  refine CS_act tab_ok md Tryz.func120 rfl rfl Tryz.ntmps120 (rl := [.tmp 0]) rfl (Nat.le_of_ble_eq_true rfl) ?_
  simp only [go_sem]
  rfl
theorem c124 : CS Tryz.prog false 94 [] [.list 1 (nv ordL)] [] := by
  refine CS_act tab_ok md Tryz.func94 rfl rfl Tryz.ntmps94 (rl := [.tmp 0]) rfl (Nat.le_of_ble_eq_true rfl) ?_
  simp only [go_sem]
  rfl
def tellN (A : List Nat) (sym : Nat) : Nat := if sym = 16 then A.getD (A.length - 1) 0 else if sym = 17 ∨ sym = 18 then 0 else sym
def tellC (sym ex : Nat) : Nat := if sym = 16 ∨ sym = 17 then 3 + ex else if sym = 18 then 11 + ex else 1
def toldL (A : List Nat) (sym ex : Nat) : List Nat := A ++ List.replicate (tellC sym ex) (tellN A sym)
theorem c171 (A : List Nat) (sym ex : Nat) (ha : A.length ≤ 1000) (he : ex ≤ 1000) (h16 : sym = 16 → 0 < A.length) : CS Tryz.prog true 133 [.mv 1 (nv A), .v (.agg [.int .i64 sym, .int .i64 ex])] [.list 1 (nv (toldL A sym ex))] [] := by
  refine CS_act tab_ok md Tryz.func133 rfl rfl Tryz.ntmps133 (rl := [.tmp 4]) rfl (Nat.le_of_ble_eq_true rfl) ?_
  simp only [go_sem]
  have hlt : A.length + tellC sym ex ≤ 3000 := by unfold tellC; (repeat' split) <;> omega
  refine act_split (fun h => ?_) (fun h => ?_) <;> simp only [beq_iff_eq, beq_eq_false_iff_ne, ne_eq] at h
  have hpos := h16 (by omega)
  obtain ⟨y, hy⟩ : ∃ y, A[A.length - 1]? = some y := ⟨_, List.getElem?_eq_getElem (by omega)⟩
  have e1 : (A.length : Int) - 1 = (A.length - 1 : Nat) := by omega
  simp only [go_sem]
  refine act_draw_of tab_ok mix md ?_
  simp only [go_sem, e1]
  rw [wrap64 (n := ((A.length - 1 : Nat) : Int)) (by omega) (by omega)]
  simp only [go_sem, nv_get hy]
  rw [wrap64 (n := (3 : Int) + ex) (by omega) (by omega)]
  refine ⟨by omega, by omega, drawOk_of (by kernel_rfl), ?_⟩
  have hn : y = tellN A sym := by unfold tellN; rw [if_pos (by omega), List.getD_eq_getElem?_getD, hy]; rfl
  have hc : (3 : Int) + ex = (tellC sym ex : Nat) := by unfold tellC; rw [if_pos (by omega)]; omega
  rw [hn, hc]
  clear hn hy
  rotate_left
  simp only [go_sem]
  refine act_split (fun h2 => ?_) (fun h2 => ?_) <;> simp only [beq_iff_eq, beq_eq_false_iff_ne, ne_eq] at h2
  simp only [go_sem]
  rw [wrap64 (n := (3 : Int) + ex) (by omega) (by omega)]
  have hn : (0 : Int) = (tellN A sym : Nat) := by unfold tellN; rw [if_neg (by omega), if_pos (by omega)]; rfl
  have hc : (3 : Int) + ex = (tellC sym ex : Nat) := by unfold tellC; rw [if_pos (by omega)]; omega
  rw [hc]
  rotate_left
  simp only [go_sem]
  refine act_split (fun h3 => ?_) (fun h3 => ?_) <;> simp only [beq_iff_eq, beq_eq_false_iff_ne, ne_eq] at h3
  simp only [go_sem]
  rw [wrap64 (n := (11 : Int) + ex) (by omega) (by omega)]
  have hn : (0 : Int) = (tellN A sym : Nat) := by unfold tellN; rw [if_neg (by omega), if_pos (by omega)]; rfl
  have hc : (11 : Int) + ex = (tellC sym ex : Nat) := by unfold tellC; rw [if_neg (by omega), if_pos (by omega)]; omega
  rw [hc]
  rotate_left
  simp only [go_sem]
  have hn : sym = tellN A sym := by unfold tellN; rw [if_neg (by omega), if_neg (by omega)]
  have hc : (1 : Int) = (tellC sym ex : Nat) := by unfold tellC; rw [if_neg (by omega), if_neg (by omega)]; rfl
  rotate_left
  all_goals
    refine act_loop_of (md := md) tab_ok [0,5,32,33] [0] 1000 (ι := {i : Nat // i ≤ tellC sym ex}) (fun i => ⟨[(0, .a (.c (.own 0 i.1 0 (A.length + i.1)))), (5, .a (.c (.t (.int .i64 (tellN A sym : Nat))))), (32, .a (.c (.t (.int .i64 (tellC sym ex : Nat))))), (33, .a (.c (.t (.int .i64 i.1))))], [(0, .arr 1 (nv (A ++ List.replicate i.1 (tellN A sym))) i.1)], 1000, 41⟩) (fun i => tellC sym ex - i.1) ⟨0, by omega⟩ (Nat.le_of_ble_eq_true rfl) (by simp only [go_sem]) (by simp only [go_sem]; first | rfl | (rw [← hn]; rfl) | (rw [← hn, ← hc]; rfl)) fun i => ?_
    obtain ⟨i, hi⟩ := i
    simp only [go_sem]
    refine act_split (fun h2 => ?_) (fun h2 => ?_) <;> simp only [decide_eq_true_eq, decide_eq_false_iff_not] at h2
    · have hlen : (A ++ List.replicate i (tellN A sym)).length = A.length + i := by simp
      simp only [go_sem, hlen]
      refine ⟨by omega, ?_⟩
      refine nextK_of ⟨i+1, by omega⟩ (by simp only [go_sem]) ?_ (by dsimp only; omega)
      simp only [go_sem, nv_one, List.replicate_succ', List.append_assoc]
      rw [wrap64 (n := (i : Int) + 1) (by omega) (by omega)]; rfl
    · have hi2 : i = tellC sym ex := by omega
      have hlen : (A ++ List.replicate i (tellN A sym)).length = A.length + i := by simp
      have ht : List.take (A.length + i) (nv (A ++ List.replicate i (tellN A sym))) = nv (A ++ List.replicate i (tellN A sym)) := List.take_of_length_le (by rw [len_nv, hlen]; omega)
      have hsc := sc_nv (A ++ List.replicate i (tellN A sym))
      simp only [go_sem, hlen, ht]
      rw [hi2]
      exact ⟨Nat.le_refl _, rfl⟩
end Go.Proofs.YtikegeligblekaaGreat.M

/- Contracts for Inflate, part 7: the lengths that runs tell. No condition. -/
namespace Go.Proofs.YtikegeligblekaaGreat.M
open Go Go.Proofs
set_option maxRecDepth 100000
set_option maxHeartbeats 2000000
set_option linter.unusedSimpArgs false
theorem getBits_at (s : ByteArray) (r : Rd) (n : Nat) (h : r.at' ≤ 8 * s.size) : (getBits s r n).2.at' ≤ 8 * s.size := by
  unfold getBits; (repeat' split) <;> dsimp only <;> omega
theorem getBits_lt (s : ByteArray) (r : Rd) (n : Nat) : (getBits s r n).1 < 2 ^ n := by
  have := Nat.two_pow_pos n
  have := bitsV_lt s r.at' n
  unfold getBits; (repeat' split) <;> dsimp only <;> omega
theorem fail_at (r : Rd) (c : Nat) : (r.fail c).at' = r.at' := by unfold Rd.fail; split <;> rfl
theorem symGo_at (s : ByteArray) (L : List Nat) : ∀ m n x r, r.at' ≤ 8 * s.size → (symGo s L m n x r).2.at' ≤ 8 * s.size
  | 0, n, x, r, h => by simp only [symGo, fail_at]; exact h
  | m + 1, n, x, r, h => by
    have h2 := getBits_at s r 1 h
    have h3 := symGo_at s L m (n + 1) (2 * x + (getBits s r 1).1) (getBits s r 1).2 h2
    simp only [symGo]
    (repeat' split) <;> first | exact h | exact h2 | exact h3 | (rw [fail_at]; exact h)
def runStep (y : Nat × Rd) (A : List Nat) : Rd := if y.2.code = 0 ∧ y.1 = 16 ∧ A.length = 0 then y.2.fail 5 else y.2
theorem runStep_at {y : Nat × Rd} {A : List Nat} {n : Nat} (h : y.2.at' ≤ n) : (runStep y A).at' ≤ n := by
  unfold runStep; split
  · rw [fail_at]; exact h
  · exact h
def runsGo (s : ByteArray) (L : List Nat) (size : Nat) : Nat → List Nat → Rd → List Nat × Rd
  | 0, A, r => (A, r)
  | m + 1, A, r =>
    if A.length < size ∧ r.code = 0 then
      if (getBits s (runStep (symGo s L 16 0 0 r) A) (exB (symGo s L 16 0 0 r).1)).2.code ≠ 0 then (A, (getBits s (runStep (symGo s L 16 0 0 r) A) (exB (symGo s L 16 0 0 r).1)).2)
      else runsGo s L size m (toldL A (symGo s L 16 0 0 r).1 (getBits s (runStep (symGo s L 16 0 0 r) A) (exB (symGo s L 16 0 0 r).1)).1)
        (if size < (toldL A (symGo s L 16 0 0 r).1 (getBits s (runStep (symGo s L 16 0 0 r) A) (exB (symGo s L 16 0 0 r).1)).1).length then (getBits s (runStep (symGo s L 16 0 0 r) A) (exB (symGo s L 16 0 0 r).1)).2.fail 5
          else (getBits s (runStep (symGo s L 16 0 0 r) A) (exB (symGo s L 16 0 0 r).1)).2)
    else (A, r)
theorem runsGo_stop {s : ByteArray} {L : List Nat} {size f : Nat} {A : List Nat} {r : Rd} (h : ¬ (A.length < size ∧ r.code = 0)) : runsGo s L size f A r = (A, r) := by
  cases f with
  | zero => rfl
  | succ m => rw [runsGo, if_neg h]
structure RunI where
  A : List Nat
  r : Rd
  f : Nat
  k : Nat
  kb : Nat
  j : Nat
theorem getBits_code (s : ByteArray) (r : Rd) (n : Nat) (h : (getBits s r n).2.code = 0) : r.code = 0 := by
  unfold getBits at h
  by_cases hc : r.code = 0
  · exact hc
  · rw [if_pos hc] at h; exact h
@[go_sem] theorem take_nv (A : List Nat) : List.take A.length (nv A) = nv A := List.take_of_length_le (by rw [len_nv]; exact Nat.le_refl _)
@[go_sem] theorem take_ob (A : List Nat) : List.take A.length (ob A) = ob A := List.take_of_length_le (by rw [len_ob]; exact Nat.le_refl _)
theorem toldL_len (A : List Nat) (sym ex : Nat) : (toldL A sym ex).length = A.length + tellC sym ex := by simp [toldL]
theorem tellC_pos (sym ex : Nat) : 1 ≤ tellC sym ex := by unfold tellC; (repeat' split) <;> omega
theorem c151 (s : ByteArray) (most : Nat) (r : Rd) (L : List Nat) (size : Nat) (hs : s.size ≤ 12000) (ha : r.at' ≤ 8 * s.size) (hl : L.length ≤ 1000) (hsz : size ≤ 400) :
    CS Tryz.prog false 122 [.mb (rdB s most r), .mb (bookB L), .v (.int .i64 size)] [.list 1 (nv (runsGo s L size (size + 1) [] r).1)] [rdB s most (runsGo s L size (size + 1) [] r).2, bookB L] := by
  have hbook := bookB_lit L
  simp only [rdB_def, hbook]
  refine CS_act tab_ok md Tryz.func122 rfl rfl Tryz.ntmps122 (rl := [.tmp 6]) rfl (Nat.le_of_ble_eq_true rfl) ?_
  simp only [go_sem, bk_book]
  have hx8 := fun sym => exB_le sym
  refine act_loop_of (md := md) tab_ok [0,1,2,6,7] [0,1,2,3,4,21] 1000 (ι := {q : RunI // q.r.at' ≤ 8 * s.size ∧ (q.r.code = 0 → q.A.length ≤ size ∧ size + 1 - q.A.length ≤ q.f) ∧ q.A.length ≤ size + 200 ∧ runsGo s L size q.f q.A q.r = runsGo s L size (size + 1) [] r})
    (fun q => ⟨[(0, .a (.c (.ptr 0 0))), (1, .a (.c (.ptr 3 0))), (2, .a (.c (.t (.int .i64 size)))), (6, .a (.c (.nil 1))), (7, .a (.c (.own 21 q.1.j 0 q.1.A.length)))],
      [(0, .box [.t (.str s), .t (.int .i64 q.1.r.at'), .t (.int .i64 most), .own 1 q.1.k 0 q.1.r.out.length, .own 2 q.1.k 0 q.1.r.ty.length, .t (.int .i64 q.1.r.code)]), (1, .arr 1 (ob q.1.r.out) q.1.k), (2, .arr 1 (nv q.1.r.ty) q.1.k), (3, .box (bk (fun k => cntL L k) (fun k => fstL L k) (.own 4 q.1.kb 0 (symL L 15).length) (sumL L 15))), (4, .arr 1 (nv (symL L 15)) q.1.kb), (21, .arr 1 (nv q.1.A) q.1.j)], 1000, 64⟩)
    (fun q => if q.1.r.code = 0 then size + 1 - q.1.A.length else 0) ⟨⟨[], r, size + 1, 0, 0, 0⟩, by exact ha, by dsimp only; simp, by simp, rfl⟩ (Nat.le_of_ble_eq_true rfl) (by simp only [go_sem, bk_lit]) (by simp only [go_sem]; rfl) fun q => ?_
  obtain ⟨⟨A, r', f, k, kb, j⟩, hat, hf, hA, hgo⟩ := q
  dsimp only at hat hf hA hgo ⊢
  have h149 := fun hc => c149 s most r' L hs hat hc hl
  simp only [rdB_def, hbook] at h149
  simp only [go_sem, bk_lit]
  by_cases hin : A.length < size ∧ r'.code = 0
  · obtain ⟨hin1, hin2⟩ := hin
    obtain ⟨m, rfl⟩ : ∃ m, f = m + 1 := ⟨f - 1, by have := hf hin2; omega⟩
    rw [runsGo, if_pos (And.intro hin1 hin2)] at hgo
    have e1 : decide ((A.length : Int) < size) = true := by simp; omega
    have e2 : ((r'.code : Int) == 0) = true := by simp [hin2]
    simp only [go_sem, e1, e2]
    have hyat := symGo_at s L 16 0 0 r' hat
    have h149' := h149 hin2
    generalize symGo s L 16 0 0 r' = y at hgo hyat h149'
    refine act_callE h149' ?_
    simp only [go_sem]
    have key : ∀ {r2 : Rd}, runStep y A = r2 → r2.at' ≤ 8 * s.size := fun h => h ▸ runStep_at hyat
    by_cases hfail : y.2.code = 0 ∧ y.1 = 16 ∧ A.length = 0
    · have er : runStep y A = y.2.fail 5 := if_pos hfail
      have g1 : ((y.2.code : Int) == 0) = true := by simp [hfail.1]
      have g2 : ((y.1 : Int) == 16) = true := by simp [hfail.2.1]
      have g3 : ((A.length : Int) == 0) = true := by simp [hfail.2.2]
      have h77 := c77 s most y.2 5
      simp only [rdB_def] at h77
      simp only [go_sem, g1, g2, g3]
      refine act_callE h77 ?_
      have hr2 := key er
      rw [er] at hgo
      have hz5 : (y.2.fail 5).code ≠ 0 := by unfold Rd.fail; rw [if_pos hfail.1]; show (5 : Nat) ≠ 0; decide
      generalize y.2.fail 5 = r2 at hgo hr2 hz5
      have eg : getBits s r2 (exB y.1) = (0, r2) := by unfold getBits; rw [if_pos hz5]
      rw [eg, if_pos hz5] at hgo
      have h112 := c112 s most r2 (exB y.1) hs (by omega) (by have := exB_le y.1; omega)
      rw [eg] at h112
      simp only [rdB_def] at h112
      have g4 : ((r2.code : Int) != 0) = true := by simp; omega
      simp only [go_sem]
      refine act_callE (c65 y.1) ?_
      simp only [go_sem]
      refine act_callE h112 ?_
      simp only [go_sem, g4, ← hgo]
    · have er : runStep y A = y.2 := if_neg hfail
      have hr2 := key er
      rw [er] at hgo
      have h112 := c112 s most y.2 (exB y.1) hs (by omega) (by have := exB_le y.1; omega)
      simp only [rdB_def] at h112
      by_cases c0 : y.2.code = 0
      by_cases c16 : y.1 = 16
      have cA : ¬ A.length = 0 := fun h => hfail ⟨c0, c16, h⟩
      have g1 : ((y.2.code : Int) == 0) = true := by simp [c0]
      have g2 : ((y.1 : Int) == 16) = true := by simp [c16]
      have g3 : ((A.length : Int) == 0) = false := by simp only [beq_eq_false_iff_ne, ne_eq]; omega
      simp only [go_sem, g1, g2, g3]
      rotate_left
      have g1 : ((y.2.code : Int) == 0) = true := by simp [c0]
      have g2 : ((y.1 : Int) == 16) = false := by simp only [beq_eq_false_iff_ne, ne_eq]; omega
      simp only [go_sem, g1, g2]
      rotate_left
      have g1 : ((y.2.code : Int) == 0) = false := by simp only [beq_eq_false_iff_ne, ne_eq]; omega
      simp only [go_sem, g1]
      rotate_left
      all_goals
        refine act_callE (c65 y.1) ?_
        simp only [go_sem]
        refine act_callE h112 ?_
        have hzc := getBits_code s y.2 (exB y.1)
        have hzl := getBits_lt s y.2 (exB y.1)
        have hzp : 2 ^ exB y.1 ≤ 2 ^ 7 := Nat.pow_le_pow_right (by omega) (exB_le y.1)
        have hza := getBits_at s y.2 (exB y.1) hr2
        generalize getBits s y.2 (exB y.1) = z at hgo hzc hzl hza ⊢
        by_cases hz : z.2.code = 0
        · have g4 : ((z.2.code : Int) != 0) = false := by simp [hz]
          rw [if_neg (by omega)] at hgo
          have h171 := c171 A y.1 z.1 (by omega) (by omega) (fun h => by have := hzc hz; by_cases h0 : A.length = 0; (· exact absurd ⟨this, h, h0⟩ hfail); (· omega))
          simp only [go_sem, g4]
          refine act_callE h171 ?_
          have hBl := toldL_len A y.1 z.1
          have hBc := tellC_pos y.1 z.1
          have hBc2 : tellC y.1 z.1 ≤ 200 := by unfold tellC; (repeat' split) <;> omega
          generalize toldL A y.1 z.1 = B at hgo hBl ⊢
          by_cases hB : size < B.length
          · have g5 : decide ((B.length : Int) > size) = true := by simp; omega
            have h77 := c77 s most z.2 5
            simp only [rdB_def] at h77
            have hzf : (z.2.fail 5).code = 5 := by unfold Rd.fail; rw [if_pos hz]
            have hzt : (z.2.fail 5).at' ≤ 8 * s.size := by rw [fail_at]; exact hza
            rw [if_pos hB] at hgo
            simp only [go_sem, g5]
            refine act_callE h77 ?_
            generalize z.2.fail 5 = r3 at hgo hzf hzt ⊢
            simp only [go_sem]
            refine nextK_ren ⟨⟨B, r3, m, k + 1 + 1 + 1, kb + 1, j + 1 + 1⟩, hzt, fun h => by dsimp only at h; omega, by dsimp only; omega, hgo⟩ 7 21 1768 0 (j + 1) 1 B.length (nv B) rfl (by simp only [go_sem]) (by simp only [go_sem]) (by simp only [go_sem]; rfl) (by simp only [go_sem]) (by simp only [go_sem]) ?_
            dsimp only
            rw [if_neg (by omega), if_pos hin2]; omega
          · have g5 : decide ((B.length : Int) > size) = false := by simp; omega
            rw [if_neg hB] at hgo
            simp only [go_sem, g5]
            have hf' := hf hin2
            refine nextK_ren ⟨⟨B, z.2, m, k + 1 + 1, kb + 1, j + 1 + 1⟩, hza, fun h => by dsimp only; omega, by dsimp only; omega, hgo⟩ 7 21 1768 0 (j + 1) 1 B.length (nv B) rfl (by simp only [go_sem]) (by simp only [go_sem]) (by simp only [go_sem]; rfl) (by simp only [go_sem]) (by simp only [go_sem]) ?_
            dsimp only
            rw [if_pos hz, if_pos hin2]; omega
        · have g4 : ((z.2.code : Int) != 0) = true := by simp; omega
          rw [if_pos hz] at hgo
          simp only [go_sem, g4, ← hgo]
  · rw [runsGo_stop hin] at hgo
    by_cases hin1 : A.length < size
    · have hc0 : ¬ r'.code = 0 := fun h => hin ⟨hin1, h⟩
      have e1 : decide ((A.length : Int) < size) = true := by simp; omega
      have e2 : ((r'.code : Int) == 0) = false := by simp [hc0]
      simp only [go_sem, e1, e2, ← hgo]
    · have e1 : decide ((A.length : Int) < size) = false := by simp; omega
      simp only [go_sem, e1, ← hgo]
end Go.Proofs.YtikegeligblekaaGreat.M

/- Contracts for Inflate, part 10: a repeat. No condition. -/
namespace Go.Proofs.YtikegeligblekaaGreat.M
open Go Go.Proofs
set_option maxRecDepth 100000
set_option maxHeartbeats 2000000
set_option linter.unusedSimpArgs false
/-- So many bytes that are each the one d ahead. -/
def repN (d : Nat) : Nat → List Nat → List Nat
  | 0, o => o
  | n + 1, o => repN d n (o ++ [o.getD (o.length - d) 0])
theorem repN_len (d : Nat) : ∀ n o, (repN d n o).length = o.length + n
  | 0, o => rfl
  | n + 1, o => by rw [repN, repN_len d n]; simp; omega
theorem repN_succ (d : Nat) : ∀ n o, repN d (n + 1) o = repN d n o ++ [(repN d n o).getD ((repN d n o).length - d) 0]
  | 0, o => rfl
  | n + 1, o => by rw [repN, repN_succ d n, ← repN]
def Rd.failIf (r : Rd) (b : Bool) (c : Nat) : Rd := if r.code = 0 ∧ b = true then { r with code := c } else r
theorem failIf_eq (r : Rd) (b : Bool) (c : Nat) : r.failIf b c = if r.code = 0 ∧ b = true then r.fail c else r := by
  unfold Rd.failIf Rd.fail; split
  · rename_i h; rw [if_pos h.1]
  · rfl
/-- What a repeat does behind its length: the distance's code, then the bytes. -/
def Rd.rep (r : Rd) (d n : Nat) : Rd := if r.code = 0 then { r with out := repN d n r.out } else r
def repB (most n d : Nat) (r : Rd) : Rd :=
  ((r.failIf (decide (r.out.length < d)) 7).failIf (decide (most < r.out.length + n)) 8).rep d n
def repC (s : ByteArray) (most n : Nat) (z : Nat × Rd) : Rd :=
  if (z.2.failIf (decide (30 ≤ z.1)) 6).code ≠ 0 then z.2.failIf (decide (30 ≤ z.1)) 6 else
    repB most n (disF z.1 + (getBits s (z.2.failIf (decide (30 ≤ z.1)) 6) (disX z.1)).1) (getBits s (z.2.failIf (decide (30 ≤ z.1)) 6) (disX z.1)).2
def repA (s : ByteArray) (L : List Nat) (most n : Nat) (r : Rd) : Rd :=
  repC s most n (symGo s L 16 0 0 r)
def repGo (s : ByteArray) (L : List Nat) (most sym : Nat) (r : Rd) : Rd :=
  if 285 < sym then r.fail 6 else
  if (getBits s r (lenX sym)).2.code ≠ 0 then (getBits s r (lenX sym)).2 else repA s L most (lenF sym + (getBits s r (lenX sym)).1) (getBits s r (lenX sym)).2
theorem span_in {f x e : Nat} (h : e < 2 ^ x) : spanOf f x e = [.int .i64 (f + e : Nat), .bool true] := if_pos h
theorem getBits_out (s : ByteArray) (r : Rd) (n : Nat) : (getBits s r n).2.out = r.out := by
  unfold getBits; (repeat' split) <;> rfl
theorem fail_out (r : Rd) (c : Nat) : (r.fail c).out = r.out := by unfold Rd.fail; split <;> rfl
theorem symGo_out (s : ByteArray) (L : List Nat) : ∀ m n x r, (symGo s L m n x r).2.out = r.out
  | 0, n, x, r => by simp only [symGo, fail_out]
  | m + 1, n, x, r => by
    have h2 := getBits_out s r 1
    have h3 := symGo_out s L m (n + 1) (2 * x + (getBits s r 1).1) (getBits s r 1).2
    simp only [symGo]
    (repeat' split) <;> first | rfl | exact h2 | exact h3.trans h2 | exact fail_out _ _
theorem failIf_out (r : Rd) (b : Bool) (c : Nat) : (r.failIf b c).out = r.out := by unfold Rd.failIf; split <;> rfl
theorem failIf_at (r : Rd) (b : Bool) (c : Nat) : (r.failIf b c).at' = r.at' := by unfold Rd.failIf; split <;> rfl
theorem lenF_ge {sym : Nat} (h1 : 257 ≤ sym) (h : sym ≤ 285) : 3 ≤ lenF sym := by
  unfold lenF; (repeat' split) <;> omega
theorem disF_pos (sym : Nat) : 1 ≤ disF sym := by unfold disF; split <;> omega
theorem c150 (s : ByteArray) (most : Nat) (r : Rd) (L : List Nat) (sym : Nat) (hs : s.size ≤ 12000) (ha : r.at' ≤ 8 * s.size) (hl : L.length ≤ 1000) (h257 : 257 ≤ sym) (hm : most ≤ 12000) (ho : r.out.length ≤ most) :
    CS Tryz.prog false 119 [.mb (rdB s most r), .v (.int .i64 sym), .mb (bookB L)] [] [rdB s most (repGo s L most sym r), bookB L] := by
  have hbook := bookB_lit L
  have h77a := c77 s most r 6
  simp only [rdB_def, hbook] at h77a ⊢
  refine CS_act tab_ok md Tryz.func119 rfl rfl Tryz.ntmps119 (rl := []) rfl (Nat.le_of_ble_eq_true rfl) ?_
  simp only [go_sem, bk_book]
  by_cases h285 : 285 < sym
  · have e1 : decide ((sym : Int) > 285) = true := by simp; omega
    have eg : repGo s L most sym r = r.fail 6 := if_pos h285
    simp only [go_sem, e1]
    refine act_callE h77a ?_
    simp only [go_sem, eg, bk_lit]
  have e1 : decide ((sym : Int) > 285) = false := by simp; omega
  have hy := c112 s most r (lenX sym) hs (by omega) (by have := lenX_le (sym := sym) (by omega); omega)
  have hyt := getBits_at s r (lenX sym) ha
  have hyl := getBits_lt s r (lenX sym)
  have hyo := getBits_out s r (lenX sym)
  have hxl := lenX_le (sym := sym) (by omega)
  have hxp : 2 ^ lenX sym ≤ 2 ^ 5 := Nat.pow_le_pow_right (by omega) hxl
  have eg : repGo s L most sym r = if (getBits s r (lenX sym)).2.code ≠ 0 then (getBits s r (lenX sym)).2 else repA s L most (lenF sym + (getBits s r (lenX sym)).1) (getBits s r (lenX sym)).2 := if_neg h285
  rw [eg]
  clear eg h77a
  simp only [rdB_def] at hy
  generalize getBits s r (lenX sym) = y at hy hyt hyl hyo ⊢
  simp only [go_sem, e1]
  refine act_callE (c131 sym h257 (by omega)) ?_
  simp only [go_sem]
  refine act_callE hy ?_
  have h169 := c169 sym y.1 h257 (by omega) (by omega)
  rw [span_in hyl] at h169
  simp only [go_sem]
  refine act_callE h169 ?_
  simp only [go_sem]
  by_cases hyc : y.2.code = 0
  rotate_left
  · have e2 : ((y.2.code : Int) != 0) = true := by simp; omega
    rw [if_pos hyc]
    simp only [go_sem, e2, bk_lit]
  have e2 : ((y.2.code : Int) != 0) = false := by simp [hyc]
  rw [if_neg (show ¬ y.2.code ≠ 0 by omega)]
  have hn3 := lenF_ge (sym := sym) h257 (by omega)
  have hn2 := lenF_le (sym := sym) h257 (by omega)
  generalize hn : lenF sym + y.1 = n
  have hz := c149 s most y.2 L hs hyt hyc hl
  have hzt := symGo_at s L 16 0 0 y.2 hyt
  have hzo := symGo_out s L 16 0 0 y.2
  simp only [rdB_def, hbook] at hz
  simp only [go_sem, e2, bk_lit]
  unfold repA
  generalize symGo s L 16 0 0 y.2 = z at hz hzt hzo ⊢
  refine act_callE hz ?_
  unfold repC
  by_cases hz0 : z.2.code = 0
  rotate_left
  · have e3 : ((z.2.code : Int) == 0) = false := by simp; omega
    have e5 : ((z.2.code : Int) != 0) = true := by simp; omega
    have er : z.2.failIf (decide (30 ≤ z.1)) 6 = z.2 := by unfold Rd.failIf; rw [if_neg (fun h => hz0 h.1)]
    rw [er, if_pos hz0]
    simp only [go_sem, e3, e5]
  have e3 : ((z.2.code : Int) == 0) = true := by simp [hz0]
  have e5 : ((z.2.code : Int) != 0) = false := by simp [hz0]
  by_cases h30 : 30 ≤ z.1
  · have e4 : decide ((z.1 : Int) ≥ 30) = true := by simp; omega
    have er : z.2.failIf (decide (30 ≤ z.1)) 6 = z.2.fail 6 := by rw [failIf_eq, if_pos ⟨hz0, decide_eq_true h30⟩]
    have hr : (z.2.fail 6).code ≠ 0 := by unfold Rd.fail; rw [if_pos hz0]; show (6 : Nat) ≠ 0; decide
    have h77 := c77 s most z.2 6
    simp only [rdB_def] at h77
    rw [er, if_pos hr]
    generalize z.2.fail 6 = r3 at hr h77 ⊢
    have e6 : ((r3.code : Int) != 0) = true := by simp; omega
    simp only [go_sem, e3, e4]
    refine act_callE h77 ?_
    simp only [go_sem, e6]
  have e4 : decide ((z.1 : Int) ≥ 30) = false := by simp; omega
  have er : z.2.failIf (decide (30 ≤ z.1)) 6 = z.2 := by unfold Rd.failIf; rw [if_neg (fun h => h30 (of_decide_eq_true h.2))]
  rw [er, if_neg (show ¬ z.2.code ≠ 0 by omega)]
  have hdx := disX_le (sym := z.1) (by omega)
  have hdp : 2 ^ disX z.1 ≤ 2 ^ 13 := Nat.pow_le_pow_right (by omega) hdx
  have hu := c112 s most z.2 (disX z.1) hs (by omega) (by omega)
  have hul := getBits_lt s z.2 (disX z.1)
  have huo := getBits_out s z.2 (disX z.1)
  simp only [rdB_def] at hu
  generalize getBits s z.2 (disX z.1) = u at hu hul huo ⊢
  have hd1 := disF_pos z.1
  have hd2 := disF_le (sym := z.1) (by omega)
  have h170 := c170 z.1 u.1 (by omega) (by omega)
  rw [span_in hul] at h170
  generalize hd : disF z.1 + u.1 = d at h170 ⊢
  simp only [go_sem, e3, e4, e5]
  refine act_callE (c132 z.1 (by omega)) ?_
  simp only [go_sem]
  refine act_callE hu ?_
  simp only [go_sem]
  refine act_callE h170 ?_
  have hol : u.2.out.length ≤ most := by rw [huo, hzo, hyo]; exact ho
  unfold repB
  have e6 : decide ((0 : Int) < n) = true := by simp; omega
  by_cases hu0 : u.2.code = 0
  rotate_left
  · have e7 : ((u.2.code : Int) == 0) = false := by simp; omega
    have er1 : ∀ b c, u.2.failIf b c = u.2 := fun b c => by unfold Rd.failIf; rw [if_neg (fun h => hu0 h.1)]
    simp only [er1, Rd.rep, if_neg hu0]
    simp only [go_sem, e7]
    refine act_draw_of tab_ok mix md ?_
    simp only [go_sem, e7]
    refine ⟨drawOk_of (by kernel_rfl), ?_⟩
    refine act_loop_of (md := md) tab_ok [0,8,11,13] [0,1,2,3,4] 2000 (ι := Unit) (fun _ => ⟨[(0, .a (.c (.ptr 0 0))), (8, .a (.c (.t (.int .i64 n)))), (11, .a (.c (.t (.int .i64 d)))), (13, .a (.c (.t (.int .i64 0))))], [(0, .box [.t (.str s), .t (.int .i64 u.2.at'), .t (.int .i64 most), .own 1 3 0 u.2.out.length, .own 2 3 0 u.2.ty.length, .t (.int .i64 u.2.code)]), (1, .arr 1 (ob u.2.out) 3), (2, .arr 1 (nv u.2.ty) 3), (3, .box (bk (fun k => cntL L k) (fun k => fstL L k) (.own 4 1 0 (symL L 15).length) (sumL L 15))), (4, .arr 1 (nv (symL L 15)) 1)], 2000, 139⟩) (fun _ => 0) () (Nat.le_of_ble_eq_true rfl) (by simp only [go_sem, bk_lit]) (by simp only [go_sem]; rfl) fun _ => ?_
    simp only [go_sem, e6, e7, bk_lit]
  have e7 : ((u.2.code : Int) == 0) = true := by simp [hu0]
  by_cases hf : u.2.out.length < d
  · have e8 : decide ((d : Int) > u.2.out.length) = true := by simp; omega
    have er1 : u.2.failIf (decide (u.2.out.length < d)) 7 = u.2.fail 7 := by rw [failIf_eq, if_pos ⟨hu0, decide_eq_true hf⟩]
    have hr : (u.2.fail 7).code ≠ 0 := by unfold Rd.fail; rw [if_pos hu0]; show (7 : Nat) ≠ 0; decide
    have h77 := c77 s most u.2 7
    simp only [rdB_def] at h77
    rw [er1]
    generalize u.2.fail 7 = r3 at hr h77 ⊢
    have er2 : ∀ b c, r3.failIf b c = r3 := fun b c => by unfold Rd.failIf; rw [if_neg (fun h => hr h.1)]
    simp only [er2, Rd.rep, if_neg hr]
    simp only [go_sem, e7, e8]
    refine act_callE h77 ?_
    have e7 : ((r3.code : Int) == 0) = false := by simp; omega
    simp only [go_sem]
    refine act_draw_of tab_ok mix md ?_
    simp only [go_sem, e7]
    refine ⟨drawOk_of (by kernel_rfl), ?_⟩
    refine act_loop_of (md := md) tab_ok [0,8,11,13] [0,1,2,3,4] 2000 (ι := Unit) (fun _ => ⟨[(0, .a (.c (.ptr 0 0))), (8, .a (.c (.t (.int .i64 n)))), (11, .a (.c (.t (.int .i64 d)))), (13, .a (.c (.t (.int .i64 0))))], [(0, .box [.t (.str s), .t (.int .i64 r3.at'), .t (.int .i64 most), .own 1 4 0 r3.out.length, .own 2 4 0 r3.ty.length, .t (.int .i64 r3.code)]), (1, .arr 1 (ob r3.out) 4), (2, .arr 1 (nv r3.ty) 4), (3, .box (bk (fun k => cntL L k) (fun k => fstL L k) (.own 4 1 0 (symL L 15).length) (sumL L 15))), (4, .arr 1 (nv (symL L 15)) 1)], 2000, 139⟩) (fun _ => 0) () (Nat.le_of_ble_eq_true rfl) (by simp only [go_sem, bk_lit]) (by simp only [go_sem]; rfl) fun _ => ?_
    simp only [go_sem, e6, e7, bk_lit]
  have e8 : decide ((d : Int) > u.2.out.length) = false := by simp; omega
  have er1 : u.2.failIf (decide (u.2.out.length < d)) 7 = u.2 := by unfold Rd.failIf; rw [if_neg (fun h => hf (of_decide_eq_true h.2))]
  rw [er1]
  simp only [go_sem, e7, e8]
  refine act_draw_of tab_ok mix md ?_
  simp only [go_sem, e7]
  rw [wrap64 (n := (u.2.out.length : Int) + n) (by omega) (by omega)]
  refine ⟨drawOk_of (by kernel_rfl), ?_⟩
  by_cases h8 : most < u.2.out.length + n
  · have e9 : decide ((u.2.out.length : Int) + n > most) = true := by simp; omega
    have er1 : u.2.failIf (decide (most < u.2.out.length + n)) 8 = u.2.fail 8 := by rw [failIf_eq, if_pos ⟨hu0, decide_eq_true h8⟩]
    have hr : (u.2.fail 8).code ≠ 0 := by unfold Rd.fail; rw [if_pos hu0]; show (8 : Nat) ≠ 0; decide
    have h77 := c77 s most u.2 8
    simp only [rdB_def] at h77
    rw [er1]
    generalize u.2.fail 8 = r3 at hr h77 ⊢
    simp only [Rd.rep, if_neg hr]
    simp only [go_sem, e9]
    refine act_callE h77 ?_
    have e7 : ((r3.code : Int) == 0) = false := by simp; omega
    simp only [go_sem]
    refine act_loop_of (md := md) tab_ok [0,8,11,13] [0,1,2,3,4] 2000 (ι := Unit) (fun _ => ⟨[(0, .a (.c (.ptr 0 0))), (8, .a (.c (.t (.int .i64 n)))), (11, .a (.c (.t (.int .i64 d)))), (13, .a (.c (.t (.int .i64 0))))], [(0, .box [.t (.str s), .t (.int .i64 r3.at'), .t (.int .i64 most), .own 1 4 0 r3.out.length, .own 2 4 0 r3.ty.length, .t (.int .i64 r3.code)]), (1, .arr 1 (ob r3.out) 4), (2, .arr 1 (nv r3.ty) 4), (3, .box (bk (fun k => cntL L k) (fun k => fstL L k) (.own 4 1 0 (symL L 15).length) (sumL L 15))), (4, .arr 1 (nv (symL L 15)) 1)], 2000, 139⟩) (fun _ => 0) () (Nat.le_of_ble_eq_true rfl) (by simp only [go_sem, bk_lit]) (by simp only [go_sem]; rfl) fun _ => ?_
    simp only [go_sem, e6, e7, bk_lit]
    simp only [if_neg hr]
  have e9 : decide ((u.2.out.length : Int) + n > most) = false := by simp; omega
  have er2 : u.2.failIf (decide (most < u.2.out.length + n)) 8 = u.2 := by unfold Rd.failIf; rw [if_neg (fun h => h8 (of_decide_eq_true h.2))]
  rw [er2]
  simp only [Rd.rep, if_pos hu0]
  simp only [go_sem, e9]
  refine act_loop_of (md := md) tab_ok [0,8,11,13] [0,1,2,3,4] 2000 (ι := {i : Nat // i ≤ n}) (fun i => ⟨[(0, .a (.c (.ptr 0 0))), (8, .a (.c (.t (.int .i64 n)))), (11, .a (.c (.t (.int .i64 d)))), (13, .a (.c (.t (.int .i64 i.1))))], [(0, .box [.t (.str s), .t (.int .i64 u.2.at'), .t (.int .i64 most), .own 1 (3 + i.1) 0 (repN d i.1 u.2.out).length, .own 2 3 0 u.2.ty.length, .t (.int .i64 u.2.code)]), (1, .arr 1 (ob (repN d i.1 u.2.out)) (3 + i.1)), (2, .arr 1 (nv u.2.ty) 3), (3, .box (bk (fun k => cntL L k) (fun k => fstL L k) (.own 4 1 0 (symL L 15).length) (sumL L 15))), (4, .arr 1 (nv (symL L 15)) 1)], 2000, 139⟩) (fun i => n - i.1) ⟨0, by omega⟩ (Nat.le_of_ble_eq_true rfl) (by simp only [go_sem, bk_lit]) (by simp only [go_sem]; rfl) fun i => ?_
  obtain ⟨i, hi⟩ := i
  simp only [go_sem]
  have hlen := repN_len d i u.2.out
  by_cases hin : i < n
  · have e6 : decide ((i : Int) < n) = true := by simp; omega
    simp only [go_sem, e6, e7]
    refine act_draw_of tab_ok mix md ?_
    have hsub : ((repN d i u.2.out).length : Int) - d = ((repN d i u.2.out).length - d : Nat) := by omega
    obtain ⟨x, hx⟩ : ∃ x, (repN d i u.2.out)[(repN d i u.2.out).length - d]? = some x := ⟨_, List.getElem?_eq_getElem (by omega)⟩
    have hsucc := repN_succ d i u.2.out
    rw [List.getD_eq_getElem?_getD, hx] at hsucc
    simp only [go_sem, hsub]
    rw [wrap64 (n := (((repN d i u.2.out).length - d : Nat) : Int)) (by omega) (by omega)]
    simp only [go_sem, ob_get hx]
    refine ⟨by omega, by omega, by omega, drawOk_of (by kernel_rfl), ?_⟩
    refine nextK_of ⟨i + 1, by omega⟩ (by simp only [go_sem, bk_lit]) ?_ (by dsimp only; omega)
    simp only [go_sem]
    rw [wrap64 (n := (i : Int) + 1) (by omega) (by omega), ob_one, hsucc]
    simp only [List.length_append, List.length_cons, List.length_nil, Option.getD_some]
    rfl
  · obtain rfl : i = n := by omega
    have e6 : decide ((i : Int) < i) = false := by simp
    simp only [go_sem, e6, bk_lit]
    simp only [if_pos hu0]
end Go.Proofs.YtikegeligblekaaGreat.M

/- Contracts for Inflate, part 11: symbols up to the end of a block. No condition. -/
namespace Go.Proofs.YtikegeligblekaaGreat.M
open Go Go.Proofs
set_option maxRecDepth 100000
set_option maxHeartbeats 2000000
set_option linter.unusedSimpArgs false
theorem getBits_ge (s : ByteArray) (r : Rd) (n : Nat) : r.at' ≤ (getBits s r n).2.at' := by
  unfold getBits; (repeat' split) <;> dsimp only <;> omega
theorem symGo_ge (s : ByteArray) (L : List Nat) : ∀ m n x r, r.at' ≤ (symGo s L m n x r).2.at'
  | 0, n, x, r => by simp only [symGo, fail_at]; exact Nat.le_refl _
  | m + 1, n, x, r => by
    have h2 := getBits_ge s r 1
    have h3 := symGo_ge s L m (n + 1) (2 * x + (getBits s r 1).1) (getBits s r 1).2
    simp only [symGo]
    (repeat' split) <;> first | exact Nat.le_refl _ | exact h2 | exact Nat.le_trans h2 h3 | (rw [fail_at]; exact Nat.le_refl _)
theorem symGo_gt {s : ByteArray} {L : List Nat} {r : Rd} (h : (symGo s L 16 0 0 r).2.code = 0) : r.at' < (symGo s L 16 0 0 r).2.at' := by
  have h3 := symGo_ge s L 15 1 (2 * 0 + (getBits s r 1).1) (getBits s r 1).2
  have hs : symGo s L 16 0 0 r = if sumL L 15 ≤ 0 then (0, r.fail 6) else if (getBits s r 1).2.code ≠ 0 then (0, (getBits s r 1).2) else symGo s L 15 1 (2 * 0 + (getBits s r 1).1) (getBits s r 1).2 := by
    rw [symGo, if_neg (by omega)]
    simp
  rw [hs] at h ⊢
  by_cases h0 : sumL L 15 ≤ 0
  · rw [if_pos h0] at h
    exact absurd h (by show ¬ (r.fail 6).code = 0; unfold Rd.fail; split <;> simp_all)
  · rw [if_neg h0] at h ⊢
    by_cases h1 : (getBits s r 1).2.code ≠ 0
    · rw [if_pos h1] at h; exact absurd h h1
    · rw [if_neg h1] at h ⊢
      have hc : (getBits s r 1).2.code = 0 := by omega
      have hr := getBits_code s r 1 hc
      have : (getBits s r 1).2.at' = r.at' + 1 := by
        unfold getBits at hc ⊢
        rw [if_neg (by omega)] at hc ⊢
        by_cases h2 : 8 * s.size < r.at' + 1
        · rw [if_pos h2] at hc; exact absurd hc (by show ¬ (2 : Nat) = 0; decide)
        · rw [if_neg h2]
      omega
theorem symGo_code (s : ByteArray) (L : List Nat) : ∀ m n x r, (symGo s L m n x r).2.code = 0 → r.code = 0
  | 0, n, x, r => fun h => by
    simp only [symGo] at h
    by_cases hc : r.code = 0
    · exact hc
    · unfold Rd.fail at h; rw [if_neg hc] at h; exact h
  | m + 1, n, x, r => fun h => by
    have hf : (r.fail 6).code = 0 → r.code = 0 := fun h => by
      by_cases hc : r.code = 0
      · exact hc
      · unfold Rd.fail at h; rw [if_neg hc] at h; exact h
    simp only [symGo] at h
    split at h
    · exact h
    · split at h
      · exact hf h
      · split at h
        · exact getBits_code s r 1 h
        · exact getBits_code s r 1 (symGo_code s L m _ _ _ h)
theorem failIf_le {r : Rd} {b : Bool} {c : Nat} (h : (r.failIf b c).code = 0) : r.code = 0 := by
  unfold Rd.failIf at h; split at h
  · rename_i hh; exact hh.1
  · exact h
theorem rep_at (r : Rd) (d n : Nat) : (r.rep d n).at' = r.at' := by unfold Rd.rep; split <;> rfl
theorem repB_at (most n d : Nat) (r : Rd) : (repB most n d r).at' = r.at' := by unfold repB; rw [rep_at, failIf_at, failIf_at]
theorem repC_at {s : ByteArray} {most n : Nat} {z : Nat × Rd} : z.2.at' ≤ (repC s most n z).at' := by
  unfold repC; split
  · rw [failIf_at]; exact Nat.le_refl _
  · rw [repB_at]; have := getBits_ge s (z.2.failIf (decide (30 ≤ z.1)) 6) (disX z.1); rw [failIf_at] at this; exact this
theorem repC_at' {s : ByteArray} {most n : Nat} {z : Nat × Rd} (h : z.2.at' ≤ 8 * s.size) : (repC s most n z).at' ≤ 8 * s.size := by
  unfold repC; split
  · rw [failIf_at]; exact h
  · rw [repB_at]; exact getBits_at s _ _ (by rw [failIf_at]; exact h)
theorem repGo_ge (s : ByteArray) (L : List Nat) (most sym : Nat) (r : Rd) : r.at' ≤ (repGo s L most sym r).at' := by
  have h1 := getBits_ge s r (lenX sym)
  unfold repGo; split
  · rw [fail_at]; exact Nat.le_refl _
  · split
    · exact h1
    · exact Nat.le_trans h1 (Nat.le_trans (symGo_ge s L 16 0 0 _) repC_at)
theorem repGo_at {s : ByteArray} {L : List Nat} {most sym : Nat} {r : Rd} (h : r.at' ≤ 8 * s.size) : (repGo s L most sym r).at' ≤ 8 * s.size := by
  have h1 := getBits_at s r (lenX sym) h
  unfold repGo; split
  · rw [fail_at]; exact h
  · split
    · exact h1
    · exact repC_at' (symGo_at s L 16 0 0 _ h1)
theorem repB_out {most n d : Nat} {r : Rd} (h : r.out.length ≤ most) : (repB most n d r).out.length ≤ most := by
  unfold repB Rd.rep
  split
  · rename_i hc
    have hc1 := failIf_le hc
    have he : (r.failIf (decide (r.out.length < d)) 7).out = r.out := failIf_out _ _ _
    have hn : ¬ most < r.out.length + n := fun hh => by
      have : ((r.failIf (decide (r.out.length < d)) 7).failIf (decide (most < r.out.length + n)) 8).code = 8 := by
        rw [Rd.failIf, if_pos ⟨hc1, decide_eq_true hh⟩]
      omega
    dsimp only
    rw [repN_len, failIf_out, failIf_out]; omega
  · rw [failIf_out, failIf_out]; exact h
theorem repGo_out {s : ByteArray} {L : List Nat} {most sym : Nat} {r : Rd} (h : r.out.length ≤ most) : (repGo s L most sym r).out.length ≤ most := by
  have h1 := getBits_out s r (lenX sym)
  unfold repGo; split
  · rw [fail_out]; exact h
  · split
    · rw [h1]; exact h
    · unfold repA repC; split
      · rw [failIf_out, symGo_out, h1]; exact h
      · exact repB_out (by rw [getBits_out, failIf_out, symGo_out, h1]; exact h)
def Rd.lit (r : Rd) (b : Nat) : Rd := { r with out := r.out ++ [b] }
def symsGo (s : ByteArray) (A B : List Nat) (most : Nat) : Nat → Rd → Rd
  | 0, r => r
  | m + 1, r =>
    if r.code ≠ 0 then r else
    if (symGo s A 16 0 0 r).2.code ≠ 0 ∨ (symGo s A 16 0 0 r).1 = 256 then (symGo s A 16 0 0 r).2
    else if 256 < (symGo s A 16 0 0 r).1 then symsGo s A B most m (repGo s B most (symGo s A 16 0 0 r).1 (symGo s A 16 0 0 r).2)
    else if (symGo s A 16 0 0 r).2.out.length = most then (symGo s A 16 0 0 r).2.fail 8
    else symsGo s A B most m ((symGo s A 16 0 0 r).2.lit (symGo s A 16 0 0 r).1)
theorem symsGo_stop {s : ByteArray} {A B : List Nat} {most : Nat} {f : Nat} {r : Rd} (h : r.code ≠ 0) : symsGo s A B most f r = r := by
  cases f with
  | zero => rfl
  | succ m => rw [symsGo, if_pos h]
structure SymI where
  r : Rd
  f : Nat
  k : Nat
  k2 : Nat
  ka : Nat
  kb : Nat
theorem c114 (s : ByteArray) (most : Nat) (r : Rd) (A B : List Nat) (hs : s.size ≤ 12000) (ha : r.at' ≤ 8 * s.size) (hA : A.length ≤ 1000) (hB : B.length ≤ 1000) (hm : most ≤ 12000) (ho : r.out.length ≤ most) :
    CS Tryz.prog false 111 [.mb (rdB s most r), .mb (bookB A), .mb (bookB B)] [] [rdB s most (symsGo s A B most (8 * s.size + 2) r), bookB A, bookB B] := by
  have hbA := bookB_lit A
  have hbB := bookB_lit B
  simp only [rdB_def, hbA, hbB]
  refine CS_act tab_ok md Tryz.func111 rfl rfl Tryz.ntmps111 (rl := []) rfl (Nat.le_of_ble_eq_true rfl) ?_
  simp only [go_sem, bk_book]
  refine act_loop_of (md := md) tab_ok [0,1,2] [0,1,2,3,4,5,6] 1000 (ι := {q : SymI // q.r.at' ≤ 8 * s.size ∧ q.r.out.length ≤ most ∧ (q.r.code = 0 → 8 * s.size + 2 - q.r.at' ≤ q.f) ∧ symsGo s A B most q.f q.r = symsGo s A B most (8 * s.size + 2) r})
    (fun q => ⟨[(0, .a (.c (.ptr 0 0))), (1, .a (.c (.ptr 3 0))), (2, .a (.c (.ptr 5 0)))],
      [(0, .box [.t (.str s), .t (.int .i64 q.1.r.at'), .t (.int .i64 most), .own 1 q.1.k 0 q.1.r.out.length, .own 2 q.1.k2 0 q.1.r.ty.length, .t (.int .i64 q.1.r.code)]), (1, .arr 1 (ob q.1.r.out) q.1.k), (2, .arr 1 (nv q.1.r.ty) q.1.k2), (3, .box (bk (fun k => cntL A k) (fun k => fstL A k) (.own 4 q.1.ka 0 (symL A 15).length) (sumL A 15))), (4, .arr 1 (nv (symL A 15)) q.1.ka), (5, .box (bk (fun k => cntL B k) (fun k => fstL B k) (.own 6 q.1.kb 0 (symL B 15).length) (sumL B 15))), (6, .arr 1 (nv (symL B 15)) q.1.kb)], 1000, 56⟩)
    (fun q => if q.1.r.code = 0 then 8 * s.size + 1 - q.1.r.at' else 0) ⟨⟨r, 8 * s.size + 2, 0, 0, 0, 0⟩, ha, ho, fun _ => by dsimp only; omega, rfl⟩ (Nat.le_of_ble_eq_true rfl) (by simp only [go_sem, bk_lit]) (by simp only [go_sem]) fun q => ?_
  obtain ⟨⟨r', f, k, k2, ka, kb⟩, hat, hol, hf, hgo⟩ := q
  dsimp only at hat hol hf hgo ⊢
  simp only [go_sem, bk_lit]
  by_cases hc : r'.code = 0
  rotate_left
  · have e1 : ((r'.code : Int) == 0) = false := by simp; omega
    rw [symsGo_stop hc] at hgo
    simp only [go_sem, e1, ← hgo]
  have e1 : ((r'.code : Int) == 0) = true := by simp [hc]
  have hf' := hf hc
  obtain ⟨m, rfl⟩ : ∃ m, f = m + 1 := ⟨f - 1, by omega⟩
  rw [symsGo, if_neg (show ¬ r'.code ≠ 0 by omega)] at hgo
  have hz := c149 s most r' A hs hat hc hA
  have hzt := symGo_at s A 16 0 0 r' hat
  have hzo := symGo_out s A 16 0 0 r'
  have hzg := symGo_gt (s := s) (L := A) (r := r')
  simp only [rdB_def, hbA] at hz
  generalize symGo s A 16 0 0 r' = z at hz hzt hzo hzg hgo
  simp only [go_sem, e1]
  refine act_callE hz ?_
  by_cases hz0 : z.2.code = 0
  rotate_left
  · have e2 : ((z.2.code : Int) != 0) = true := by simp; omega
    rw [if_pos (Or.inl hz0)] at hgo
    simp only [go_sem, e2, ← hgo]
  have e2 : ((z.2.code : Int) != 0) = false := by simp [hz0]
  have hzg' := hzg hz0
  by_cases h256 : z.1 = 256
  · have e3 : ((z.1 : Int) == 256) = true := by simp; omega
    rw [if_pos (Or.inr h256)] at hgo
    simp only [go_sem, e2, e3, ← hgo]
  have e3 : ((z.1 : Int) == 256) = false := by simp; omega
  rw [if_neg (fun h => h.elim (fun h => h hz0) h256)] at hgo
  by_cases hgt : 256 < z.1
  · have e4 : decide ((z.1 : Int) > 256) = true := by simp; omega
    rw [if_pos hgt] at hgo
    have hr := c150 s most z.2 B z.1 hs hzt hB (by omega) hm (by rw [hzo]; exact hol)
    have hrt := repGo_at (s := s) (L := B) (most := most) (sym := z.1) hzt
    have hrg := repGo_ge s B most z.1 z.2
    have hro := repGo_out (s := s) (L := B) (most := most) (sym := z.1) (r := z.2) (by rw [hzo]; exact hol)
    simp only [rdB_def, hbB] at hr
    generalize repGo s B most z.1 z.2 = r2 at hr hrt hrg hro hgo
    simp only [go_sem, e2, e3, e4]
    refine act_callE hr ?_
    simp only [go_sem]
    refine nextK_of ⟨⟨r2, m, k + 1 + 1, k2 + 1 + 1, ka + 1, kb + 1⟩, hrt, hro, fun _ => by dsimp only; omega, hgo⟩ (by simp only [go_sem, bk_lit]) ?_ ?_
    · simp only [go_sem, bk_lit]
    · dsimp only; rw [if_pos hc]; split <;> omega
  have e4 : decide ((z.1 : Int) > 256) = false := by simp; omega
  rw [if_neg hgt] at hgo
  simp only [go_sem, e2, e3, e4]
  refine act_draw_of tab_ok mix md ?_
  simp only [go_sem]
  refine ⟨drawOk_of (by kernel_rfl), ?_⟩
  by_cases hfull : z.2.out.length = most
  · have e5 : ((z.2.out.length : Int) == most) = true := by simp; omega
    rw [if_pos hfull] at hgo
    have h77 := c77 s most z.2 8
    have hr : (z.2.fail 8).code ≠ 0 := by unfold Rd.fail; rw [if_pos hz0]; show (8 : Nat) ≠ 0; decide
    have hrt : (z.2.fail 8).at' = z.2.at' := fail_at _ _
    have hro : (z.2.fail 8).out = z.2.out := fail_out _ _
    simp only [rdB_def] at h77
    generalize z.2.fail 8 = r2 at h77 hr hrt hro hgo
    simp only [go_sem, e5]
    refine act_callE h77 ?_
    simp only [go_sem]
    refine nextK_of ⟨⟨r2, m, k + 1 + 1, k2 + 1 + 1, ka + 1, kb⟩, by dsimp only; omega, by dsimp only; rw [hro, hzo]; exact hol, fun h => absurd h hr, by dsimp only; rw [symsGo_stop hr]; exact hgo⟩ (by simp only [go_sem, bk_lit]) ?_ ?_
    · simp only [go_sem, bk_lit]
    · dsimp only; rw [if_pos hc, if_neg hr]; omega
  · have e5 : ((z.2.out.length : Int) == most) = false := by simp; omega
    rw [if_neg hfull] at hgo
    have hol2 : z.2.out.length ≤ most := by rw [hzo]; exact hol
    have e6 : IntKind.wrap .u8 (z.1 : Int) = z.1 := wrap8 (by omega) (by omega)
    simp only [go_sem, e5, e6]
    refine ⟨by omega, ?_⟩
    refine nextK_of ⟨⟨z.2.lit z.1, m, k + 1 + 1, k2 + 1, ka + 1, kb⟩, hzt, by dsimp only [Rd.lit]; rw [List.length_append]; simp only [List.length_cons, List.length_nil]; omega, fun _ => by dsimp only [Rd.lit]; omega, hgo⟩ (by simp only [go_sem, bk_lit]) ?_ ?_
    · simp only [go_sem, bk_lit, Rd.lit, ob_one, List.length_append, List.length_cons, List.length_nil, Nat.zero_add]
    · dsimp only [Rd.lit]; rw [if_pos hc, if_pos hz0]; omega
end Go.Proofs.YtikegeligblekaaGreat.M

/- Contracts for Inflate, part 12: a block of type 0. No condition. -/
namespace Go.Proofs.YtikegeligblekaaGreat.M
open Go Go.Proofs
set_option maxRecDepth 100000
set_option maxHeartbeats 2000000
set_option linter.unusedSimpArgs false
/-- Bytes of a text, as numbers. -/
def byN (s : ByteArray) (a n : Nat) : List Nat := ((s.extract a (a + n)).data.toList).map (·.toNat)
theorem byN_T (s : ByteArray) (a n : Nat) : ofBytes (s.extract a (a + n)) = ob (byN s a n) := by unfold ofBytes ob byN; rw [List.map_map]; rfl
theorem byN_len {s : ByteArray} {a n : Nat} (h : a + n ≤ s.size) : (byN s a n).length = n := by
  have : (s.extract a (a + n)).size = n := by rw [ByteArray.size_extract]; omega
  simp only [byN, List.length_map, Array.length_toList]
  exact this
def Rd.setAt (r : Rd) (a : Nat) : Rd := { r with at' := a }
def stB (s : ByteArray) (n : Nat) (r : Rd) : Rd := if r.code = 0 then { r with out := r.out ++ byN s (r.at' / 8) n, at' := r.at' + 8 * n } else r
def stA (s : ByteArray) (most : Nat) (n m : Nat) (r : Rd) : Rd :=
  stB s n (((r.failIf (decide (n + m ≠ 65535)) 4).failIf (decide (most < r.out.length + n)) 8).failIf (decide (s.size < r.at' / 8 + n)) 2)
def stGo (s : ByteArray) (most : Nat) (r : Rd) : Rd :=
  stA s most (getBits s (r.setAt (8 * ((r.at' + 7) / 8))) 16).1 (getBits s (getBits s (r.setAt (8 * ((r.at' + 7) / 8))) 16).2 16).1 (getBits s (getBits s (r.setAt (8 * ((r.at' + 7) / 8))) 16).2 16).2
theorem failIf_no {r : Rd} {b : Bool} {c : Nat} (h : r.code ≠ 0 ∨ b = false) : r.failIf b c = r := by
  unfold Rd.failIf; rw [if_neg]
  rintro ⟨h1, h2⟩
  rcases h with h | h
  · exact h h1
  · rw [h] at h2; cases h2
theorem failIf_yes {r : Rd} {b : Bool} {c : Nat} (h1 : r.code = 0) (h2 : b = true) : r.failIf b c = r.fail c := by rw [failIf_eq, if_pos ⟨h1, h2⟩]
theorem fail_code {r : Rd} {c : Nat} (hc : c ≠ 0) : (r.fail c).code ≠ 0 := by unfold Rd.fail; split <;> assumption
theorem c113 (s : ByteArray) (most : Nat) (r : Rd) (hs : s.size ≤ 12000) (ha : r.at' ≤ 8 * s.size) (hm : most ≤ 12000) (ho : r.out.length ≤ most) :
    CS Tryz.prog false 109 [.mb (rdB s most r)] [] [rdB s most (stGo s most r)] := by
  have hr1 : (r.setAt (8 * ((r.at' + 7) / 8))).at' ≤ 8 * s.size := by show 8 * ((r.at' + 7) / 8) ≤ _; omega
  have hy := c112 s most (r.setAt (8 * ((r.at' + 7) / 8))) 16 hs (by omega) (by omega)
  have hyt := getBits_at s (r.setAt (8 * ((r.at' + 7) / 8))) 16 hr1
  have hyl := getBits_lt s (r.setAt (8 * ((r.at' + 7) / 8))) 16
  have hyo := getBits_out s (r.setAt (8 * ((r.at' + 7) / 8))) 16
  unfold stGo
  simp only [rdB_def] at hy ⊢
  refine CS_act tab_ok md Tryz.func109 rfl rfl Tryz.ntmps109 (rl := []) rfl (Nat.le_of_ble_eq_true rfl) ?_
  simp only [go_sem]
  refine act_callE (c37 r.at' (by omega)) ?_
  have e1 : (8 : Int) * ((r.at' + 7) / 8 : Nat) = (8 * ((r.at' + 7) / 8) : Nat) := by omega
  simp only [go_sem, e1]
  rw [wrap64 (n := ((8 * ((r.at' + 7) / 8) : Nat) : Int)) (by omega) (by omega)]
  simp only [Rd.setAt] at hy hyt hyl hyo ⊢
  generalize getBits s ⟨8 * ((r.at' + 7) / 8), r.out, r.ty, r.code⟩ 16 = y at hy hyt hyl hyo ⊢
  refine act_callE hy ?_
  have hz := c112 s most y.2 16 hs (by omega) (by omega)
  have hzt := getBits_at s y.2 16 hyt
  have hzl := getBits_lt s y.2 16
  have hzo := getBits_out s y.2 16
  simp only [rdB_def] at hz
  generalize getBits s y.2 16 = z at hz hzt hzl hzo ⊢
  simp only [go_sem]
  refine act_callE hz ?_
  generalize hn : y.1 = n at hyl ⊢
  generalize hmm : z.1 = m at hzl ⊢
  generalize hR : stA s most n m z.2 = R
  unfold stA at hR
  have ew : IntKind.wrap .i64 ((65535 : Int) - m) = 65535 - m := wrap64 (by omega) (by omega)
  by_cases hz0 : z.2.code = 0
  rotate_left
  · have e7 : ((z.2.code : Int) == 0) = false := by simp; omega
    simp only [failIf_no (r := z.2) (.inl hz0), stB, if_neg hz0] at hR
    subst hR
    simp only [go_sem, e7]
    refine act_draw_of tab_ok mix md ?_
    simp only [go_sem, e7]
    exact ⟨drawOk_of (by kernel_rfl), by decide⟩
  have e7' : ((z.2.code : Int) == 0) = true := by simp [hz0]
  by_cases h4 : n + m ≠ 65535
  · have e4 : ((n : Int) != 65535 - m) = true := by simp; omega
    have er : z.2.failIf (decide (n + m ≠ 65535)) 4 = z.2.fail 4 := failIf_yes hz0 (decide_eq_true h4)
    have hr : (z.2.fail 4).code ≠ 0 := fail_code (by decide)
    have h77 := c77 s most z.2 4
    have hrt : (z.2.fail 4).at' = z.2.at' := fail_at _ _
    simp only [rdB_def] at h77
    rw [er] at hR
    generalize z.2.fail 4 = r3 at hr h77 hrt hR
    simp only [failIf_no (r := r3) (.inl hr), stB, if_neg hr] at hR
    subst hR
    have e7 : ((r3.code : Int) == 0) = false := by simp; omega
    simp only [go_sem, e7', ew, e4]
    refine act_callE h77 ?_
    simp only [go_sem]
    refine act_draw_of tab_ok mix md ?_
    simp only [go_sem, e7]
    exact ⟨drawOk_of (by kernel_rfl), by decide⟩
  have e4 : ((n : Int) != 65535 - m) = false := by simp; omega
  rw [failIf_no (r := z.2) (b := decide (n + m ≠ 65535)) (.inr (decide_eq_false h4))] at hR
  simp only [go_sem, e7', ew, e4]
  refine act_draw_of tab_ok mix md ?_
  have hol : z.2.out.length ≤ most := by rw [hzo, hyo]; exact ho
  simp only [go_sem, e7']
  rw [wrap64 (n := (z.2.out.length : Int) + n) (by omega) (by omega)]
  refine ⟨drawOk_of (by kernel_rfl), ?_⟩
  by_cases h8 : most < z.2.out.length + n
  · have e8 : decide ((z.2.out.length : Int) + n > most) = true := by simp; omega
    have er : z.2.failIf (decide (most < z.2.out.length + n)) 8 = z.2.fail 8 := failIf_yes hz0 (decide_eq_true h8)
    have hr : (z.2.fail 8).code ≠ 0 := fail_code (by decide)
    have h77 := c77 s most z.2 8
    have hrt : (z.2.fail 8).at' = z.2.at' := fail_at _ _
    simp only [rdB_def] at h77
    rw [er] at hR
    generalize z.2.fail 8 = r3 at hr h77 hrt hR
    simp only [failIf_no (r := r3) (.inl hr), stB, if_neg hr] at hR
    subst hR
    have e7 : ((r3.code : Int) == 0) = false := by simp; omega
    simp only [go_sem, e8]
    refine act_callE h77 ?_
    simp only [go_sem]
    simp only [go_sem, e7]
    decide
  have e8 : decide ((z.2.out.length : Int) + n > most) = false := by simp; omega
  rw [failIf_no (r := z.2) (b := decide (most < z.2.out.length + n)) (.inr (decide_eq_false h8))] at hR
  have ed : (z.2.at' : Int).tdiv 8 = (z.2.at' / 8 : Nat) := tdivN _ 8
  simp only [go_sem, e8, ed, e7']
  rw [wrap64 (n := ((z.2.at' / 8 : Nat) : Int)) (by omega) (by omega), wrap64 (n := (s.size : Int) - (z.2.at' / 8 : Nat)) (by omega) (by omega)]
  refine ⟨by decide, ?_⟩
  by_cases h2 : s.size < z.2.at' / 8 + n
  · have e2 : decide ((n : Int) > (s.size : Int) - (z.2.at' / 8 : Nat)) = true := by simp; omega
    have er : z.2.failIf (decide (s.size < z.2.at' / 8 + n)) 2 = z.2.fail 2 := failIf_yes hz0 (decide_eq_true h2)
    have hr : (z.2.fail 2).code ≠ 0 := fail_code (by decide)
    have h77 := c77 s most z.2 2
    have hrt : (z.2.fail 2).at' = z.2.at' := fail_at _ _
    simp only [rdB_def] at h77
    rw [er] at hR
    generalize z.2.fail 2 = r3 at hr h77 hrt hR
    simp only [failIf_no (r := r3) (.inl hr), stB, if_neg hr] at hR
    subst hR
    have e7 : ((r3.code : Int) == 0) = false := by simp; omega
    simp only [go_sem, e2]
    refine act_callE h77 ?_
    simp only [go_sem]
    simp only [go_sem, e7]
  have e2 : decide ((n : Int) > (s.size : Int) - (z.2.at' / 8 : Nat)) = false := by simp; omega
  rw [failIf_no (r := z.2) (b := decide (s.size < z.2.at' / 8 + n)) (.inr (decide_eq_false h2))] at hR
  simp only [stB, if_pos hz0] at hR
  subst hR
  simp only [go_sem, e2, e7']
  refine act_draw_of tab_ok mix md ?_
  simp only [go_sem]
  rw [wrap64 (n := ((z.2.at' / 8 : Nat) : Int) + n) (by omega) (by omega), wrap64 (n := 8 * (n : Int)) (by omega) (by omega), wrap64 (n := (z.2.at' : Int) + 8 * n) (by omega) (by omega)]
  have et : (((z.2.at' / 8 : Nat) : Int) + n).toNat = z.2.at' / 8 + n := by omega
  have hbl := byN_len (s := s) (a := z.2.at' / 8) (n := n) (by omega)
  rw [et, byN_T, len_ob, hbl, ob_app, len_ob, List.length_append, hbl]
  exact ⟨by omega, by omega, by omega, by omega, drawOk_of (by kernel_rfl), rfl, sc_ob _, rfl⟩
end Go.Proofs.YtikegeligblekaaGreat.M

/- Contracts for Inflate, part 8: kinds of codes. No condition. -/
namespace Go.Proofs.YtikegeligblekaaGreat.M
open Go Go.Proofs
set_option maxRecDepth 100000
set_option maxHeartbeats 2000000
set_option linter.unusedSimpArgs false
def wL (x : Nat) : Nat := if 0 < x then 2 ^ (15 - x) else 0
def roomL (L : List Nat) : Nat := (L.map wL).sum
def nzL (L : List Nat) : Nat := L.countP fun x => decide (0 < x)
theorem sumL_cons (x : Nat) (L : List Nat) : ∀ n, sumL (x :: L) n = sumL L n + (if 0 < x ∧ x ≤ n then 2 ^ (15 - x) else 0)
  | 0 => by simp [sumL]; omega
  | n + 1 => by
    have ih := sumL_cons x L n
    simp only [sumL, ih, List.count_cons]
    by_cases h1 : x = n + 1
    · subst h1
      have e1 : (if 0 < n + 1 ∧ n + 1 ≤ n then 2 ^ (15 - (n + 1)) else 0) = 0 := if_neg (by omega)
      have e2 : (if 0 < n + 1 ∧ n + 1 ≤ n + 1 then 2 ^ (15 - (n + 1)) else 0) = 2 ^ (15 - (n + 1)) := if_pos (by omega)
      have e3 : (if (n + 1 == n + 1) = true then 1 else 0) = 1 := if_pos (by simp)
      rw [e1, e2, e3, Nat.succ_mul]; omega
    · have hb : (x == n + 1) = false := by simp [h1]
      have e3 : (if (x == n + 1) = true then 1 else 0) = 0 := if_neg (by simp [hb])
      rw [e3]
      by_cases h2 : 0 < x ∧ x ≤ n
      · have e1 : (if 0 < x ∧ x ≤ n then 2 ^ (15 - x) else 0) = 2 ^ (15 - x) := if_pos h2
        have e2 : (if 0 < x ∧ x ≤ n + 1 then 2 ^ (15 - x) else 0) = 2 ^ (15 - x) := if_pos (by omega)
        simp only [e1, e2, Nat.add_zero]; omega
      · have e1 : (if 0 < x ∧ x ≤ n then 2 ^ (15 - x) else 0) = 0 := if_neg h2
        have e2 : (if 0 < x ∧ x ≤ n + 1 then 2 ^ (15 - x) else 0) = 0 := if_neg (by omega)
        simp only [e1, e2, Nat.add_zero]
theorem sumL_room {L : List Nat} (h : ∀ x ∈ L, x ≤ 15) : sumL L 15 = roomL L := by
  induction L with
  | nil => simp [sumL, roomL]
  | cons x r ih =>
    rw [sumL_cons, ih fun y hy => h y (by simp [hy])]
    have hx := h x (by simp)
    simp only [roomL, List.map_cons, List.sum_cons, wL]
    by_cases h2 : 0 < x
    · rw [if_pos ⟨h2, hx⟩, if_pos h2]; omega
    · rw [if_neg (by omega), if_neg h2]; omega
theorem bef_cons (x : Nat) (L : List Nat) : ∀ n, bef (x :: L) n = bef L n + (if 0 < x ∧ x < n then 1 else 0)
  | 0 => by simp [bef]
  | n + 1 => by
    have ih := bef_cons x L n
    simp only [bef, ih, cntL, List.count_cons]
    by_cases h0 : n = 0
    · subst h0; simp; omega
    · rw [if_neg h0, if_neg h0]
      by_cases h1 : x = n
      · subst h1
        have e1 : (if 0 < x ∧ x < x then 1 else 0) = 0 := if_neg (by omega)
        have e2 : (if 0 < x ∧ x < x + 1 then 1 else 0) = 1 := if_pos (by omega)
        have e3 : (if (x == x) = true then 1 else 0) = 1 := if_pos (by simp)
        rw [e1, e2, e3]; omega
      · have hb : (x == n) = false := by simp [h1]
        have e3 : (if (x == n) = true then 1 else 0) = 0 := if_neg (by simp [hb])
        rw [e3]
        by_cases h2 : 0 < x ∧ x < n
        · have e1 : (if 0 < x ∧ x < n then 1 else 0) = 1 := if_pos h2
          have e2 : (if 0 < x ∧ x < n + 1 then 1 else 0) = 1 := if_pos (by omega)
          rw [e1, e2]; omega
        · have e1 : (if 0 < x ∧ x < n then 1 else 0) = 0 := if_neg h2
          have e2 : (if 0 < x ∧ x < n + 1 then 1 else 0) = 0 := if_neg (by omega)
          rw [e1, e2]; omega
theorem symL_nz {L : List Nat} (h : ∀ x ∈ L, x ≤ 15) : (symL L 15).length = nzL L := by
  rw [symL_bef]
  induction L with
  | nil => simp [bef, nzL, cntL]
  | cons x r ih =>
    rw [bef_cons, ih fun y hy => h y (by simp [hy])]
    have hx := h x (by simp)
    simp only [nzL, List.countP_cons]
    by_cases h2 : 0 < x
    · rw [if_pos ⟨h2, by omega⟩]; simp [h2]
    · rw [if_neg (by omega)]; simp [h2]
theorem room_nz {L : List Nat} : (roomL L = 0 ↔ nzL L = 0) := by
  induction L with
  | nil => simp [roomL, nzL]
  | cons x r ih =>
    simp only [roomL, nzL, List.map_cons, List.sum_cons, List.countP_cons] at ih ⊢
    have := Nat.two_pow_pos (15 - x)
    by_cases h2 : 0 < x
    · simp only [wL, h2, if_true, decide_true]; omega
    · simp only [wL, h2, if_false, decide_false, Bool.false_eq_true]; omega
theorem nz_one {L : List Nat} (h : ∀ x ∈ L, x ≤ 15) (h1 : nzL L = 1) : (roomL L = 16384 ↔ cntL L 1 = 1) := by
  induction L with
  | nil => simp [nzL] at h1
  | cons x r ih =>
    have hx := h x (by simp)
    have ih' := ih fun y hy => h y (by simp [hy])
    simp only [cntL, nzL, roomL, List.countP_cons, List.map_cons, List.sum_cons, List.count_cons] at h1 ih' ⊢
    by_cases h2 : 0 < x
    · simp only [h2, decide_true, if_true] at h1
      have h3 : nzL r = 0 := by unfold nzL; omega
      have h4 : roomL r = 0 := room_nz.2 h3
      unfold roomL at h4
      have h5 : List.count 1 r = 0 := by
        refine List.count_eq_zero.2 fun hm => ?_
        have : 0 < nzL r := List.countP_pos_iff.2 ⟨1, hm, by decide⟩
        omega
      rw [h4, h5]
      simp only [wL, h2, if_true]
      have : ∀ k : Fin 16, 0 < k.1 → (2 ^ (15 - k.1) + 0 = 16384 ↔ (0 + if (k.1 == 1) = true then 1 else 0) = 1) := by decide
      have := this ⟨x, by omega⟩ h2
      simpa using this
    · simp only [h2, decide_false] at h1
      have hb : (x == 1) = false := by simp; omega
      simp only [wL, h2, if_false, hb]
      have := ih' (by simpa using h1)
      simpa using this
def kindS (L : List Nat) : Nat := if nzL L = 0 then 1 else if roomL L = 32768 then 2 else if roomL L > 32768 then 5 else if nzL L = 1 ∧ roomL L = 16384 then 3 else 4
theorem kind_eq {L : List Nat} (h : ∀ x ∈ L, x ≤ 15) : kindS L = kindL L := by
  unfold kindS kindL
  rw [sumL_room h, symL_nz h]
  by_cases h0 : nzL L = 0
  · rw [if_pos h0, if_pos (room_nz.2 h0)]
  · rw [if_neg h0, if_neg (fun h => h0 (room_nz.1 h))]
    by_cases h1 : nzL L = 1
    · simp only [h1, nz_one h h1]
    · simp only [h1, false_and]
theorem room_take {L : List Nat} {i x : Nat} (h : L[i]? = some x) : roomL (L.take (i + 1)) = roomL (L.take i) + wL x := by
  simp [roomL, List.take_add_one, h]
theorem nz_take {L : List Nat} {i x : Nat} (h : L[i]? = some x) : nzL (L.take (i + 1)) = nzL (L.take i) + (if 0 < x then 1 else 0) := by
  rw [nzL, List.take_add_one, h, List.countP_append, ← nzL, Option.toList_some, List.countP_singleton]
  by_cases h2 : 0 < x <;> simp [h2]
theorem room_le (L : List Nat) : roomL L ≤ L.length * 32768 := by
  induction L with
  | nil => simp [roomL]
  | cons x r ih =>
    have : wL x ≤ 32768 := by
      unfold wL; split
      · show 2 ^ (15 - x) ≤ 2 ^ 15
        exact Nat.pow_le_pow_right (by omega) (by omega)
      · omega
    simp only [roomL, List.map_cons, List.sum_cons, List.length_cons] at ih ⊢
    omega
theorem c154 (L : List Nat) (m : Nat) (hl : L.length ≤ 1000) (hm : L.length ≤ m) (hm2 : m ≤ 1000) (hx : ∀ x ∈ L, x ≤ 15) : CS Tryz.prog false 106 [.v (.list 1 (nv L)), .v (.int .i64 m)] [.int .i64 (roomL L), .bool true] [] := by
  refine CS_act tab_ok md Tryz.func106 rfl rfl Tryz.ntmps106 (rl := [.tmp 4, .tmp 5]) rfl (Nat.le_of_ble_eq_true rfl) ?_
  have e : decide ((L.length : Int) > m) = false := by simp; omega
  simp only [go_sem, e]
  refine act_loop_of (md := md) tab_ok [0,4,5,6,7] [] 1000 (ι := {i : Nat // i ≤ L.length}) (fun i => ⟨[(0, .a (.c (.t (.list 1 (nv L))))), (4, .a (.c (.t (.int .i64 0)))), (5, .a (.c (.t (.bool false)))), (6, .a (.c (.t (.int .i64 (roomL (L.take i.1)))))), (7, .a (.c (.t (.int .i64 i.1))))], [], 1000, 38⟩) (fun i => L.length - i.1) ⟨0, by omega⟩ (Nat.le_of_ble_eq_true rfl) (by simp only [go_sem]) (by simp only [go_sem]; rfl) fun i => ?_
  obtain ⟨i, hi⟩ := i
  simp only [go_sem]
  refine act_split (fun h2 => ?_) (fun h2 => ?_) <;> simp only [decide_eq_true_eq, decide_eq_false_iff_not] at h2
  · obtain ⟨x, hxi⟩ : ∃ x, L[i]? = some x := ⟨_, List.getElem?_eq_getElem (by omega)⟩
    have hx15 := hx x (List.mem_of_getElem? hxi)
    have hrt := room_take hxi
    have hrl := room_le (L.take (i + 1))
    have htl : (L.take (i + 1)).length ≤ 1000 := by rw [List.length_take]; omega
    simp only [go_sem, nv_get hxi]
    refine ⟨by omega, by omega, ?_⟩
    refine act_callE (c39 _ _ _) ?_
    simp only [go_sem, nv_get hxi, inB_true (x := (x : Int)) (l := 0) (m := 15) (by omega) (by omega)]
    refine ⟨by omega, by omega, ?_⟩
    refine act_split (fun h3 => ?_) (fun h3 => ?_) <;> simp only [decide_eq_true_eq, decide_eq_false_iff_not] at h3
    · have ew : wL x = 2 ^ (15 - x) := if_pos (by omega)
      have e15 : (15 : Int) - x = (15 - x : Nat) := by omega
      simp only [go_sem, nv_get hxi, e15]
      refine ⟨by omega, by omega, ?_⟩
      rw [wrap64 (n := ((15 - x : Nat) : Int)) (by omega) (by omega)]
      refine act_callE (c105 _ (by omega)) ?_
      simp only [go_sem, pow_cast]
      have e6 : (roomL (L.take i) : Int) + (2 ^ (15 - x) : Nat) = (roomL (L.take (i + 1)) : Nat) := by omega
      refine nextK_of ⟨i+1, by omega⟩ (by simp only [go_sem]) ?_ (by dsimp only; omega)
      simp only [go_sem]
      rw [e6, wrap64 (n := (i : Int) + 1) (by omega) (by omega), wrap64 (by omega) (by omega)]; rfl
    · have ew : wL x = 0 := if_neg (by omega)
      simp only [go_sem]
      refine nextK_of ⟨i+1, by omega⟩ (by simp only [go_sem]) ?_ (by dsimp only; omega)
      simp only [go_sem]
      rw [wrap64 (n := (i : Int) + 1) (by omega) (by omega), hrt, ew]; rfl
  · obtain rfl : i = L.length := by omega
    simp only [go_sem, List.take_length]
theorem c125 (L : List Nat) (hl : L.length ≤ 288) (hx : ∀ x ∈ L, x ≤ 15) : CS Tryz.prog false 95 [.v (.list 1 (nv L))] [.int .i64 (kindL L)] [] := by
  rw [← kind_eq hx]
  refine CS_act tab_ok md Tryz.func95 rfl rfl Tryz.ntmps95 (rl := [.tmp 2]) rfl (Nat.le_of_ble_eq_true rfl) ?_
  simp only [go_sem]
  refine act_callE (c154 L 288 (by omega) hl (by omega) hx) ?_
  simp only [go_sem]
  refine act_loop_of (md := md) tab_ok [0,3,5,6] [] 1000 (ι := {i : Nat // i ≤ L.length}) (fun i => ⟨[(0, .a (.c (.t (.list 1 (nv L))))), (3, .a (.c (.t (.int .i64 (roomL L))))), (5, .a (.c (.t (.int .i64 (nzL (L.take i.1)))))), (6, .a (.c (.t (.int .i64 i.1))))], [], 1000, 39⟩) (fun i => L.length - i.1) ⟨0, by omega⟩ (Nat.le_of_ble_eq_true rfl) (by simp only [go_sem]) (by simp only [go_sem]; rfl) fun i => ?_
  obtain ⟨i, hi⟩ := i
  simp only [go_sem]
  refine act_split (fun h2 => ?_) (fun h2 => ?_) <;> simp only [decide_eq_true_eq, decide_eq_false_iff_not] at h2
  · obtain ⟨x, hxi⟩ : ∃ x, L[i]? = some x := ⟨_, List.getElem?_eq_getElem (by omega)⟩
    have hnt := nz_take hxi
    have hnl : nzL (L.take i) ≤ (L.take i).length := List.countP_le_length
    have htl : (L.take i).length ≤ 1000 := by rw [List.length_take]; omega
    simp only [go_sem, nv_get hxi]
    refine ⟨by omega, by omega, ?_⟩
    refine act_split (fun h3 => ?_) (fun h3 => ?_) <;> simp only [decide_eq_true_eq, decide_eq_false_iff_not] at h3
    · rw [if_pos (by omega)] at hnt
      simp only [go_sem]
      refine nextK_of ⟨i+1, by omega⟩ (by simp only [go_sem]) ?_ (by dsimp only; omega)
      simp only [go_sem]
      rw [wrap64 (n := (i : Int) + 1) (by omega) (by omega), wrap64 (by omega) (by omega), hnt]; rfl
    · rw [if_neg (by omega)] at hnt
      simp only [go_sem]
      refine nextK_of ⟨i+1, by omega⟩ (by simp only [go_sem]) ?_ (by dsimp only; omega)
      simp only [go_sem]
      rw [wrap64 (n := (i : Int) + 1) (by omega) (by omega), hnt]; rfl
  obtain rfl : i = L.length := by omega
  simp only [go_sem, List.take_length]
  refine act_split (fun h => ?_) (fun h => ?_) <;> simp only [beq_iff_eq, beq_eq_false_iff_ne, ne_eq] at h
  · simp only [go_sem, kindS]
    rw [if_pos (by omega)]; rfl
  simp only [go_sem]
  refine act_split (fun h2 => ?_) (fun h2 => ?_) <;> simp only [beq_iff_eq, beq_eq_false_iff_ne, ne_eq] at h2
  · simp only [go_sem, kindS]
    rw [if_neg (by omega), if_pos (by omega)]; rfl
  simp only [go_sem]
  refine act_split (fun h3 => ?_) (fun h3 => ?_) <;> simp only [decide_eq_true_eq, decide_eq_false_iff_not] at h3
  · simp only [go_sem, kindS]
    rw [if_neg (by omega), if_neg (by omega), if_pos (by omega)]; rfl
  simp only [go_sem]
  refine act_split (fun h4 => ?_) (fun h4 => ?_)
  · have g4 : nzL L = 1 := by simp at h4; omega
    simp only [go_sem, h4]
    refine act_split (fun h5 => ?_) (fun h5 => ?_)
    · have g5 : roomL L = 16384 := by simp at h5; omega
      simp only [go_sem, h5, kindS]
      rw [if_neg (by omega), if_neg (by omega), if_neg (by omega), if_pos (And.intro g4 g5)]; rfl
    · have g5 : ¬ roomL L = 16384 := by simp at h5; omega
      simp only [go_sem, h5, kindS]
      rw [if_neg (by omega), if_neg (by omega), if_neg (by omega), if_neg (fun h => g5 h.2)]; rfl
  · have g4 : ¬ nzL L = 1 := by simp at h4; omega
    simp only [go_sem, h4, kindS]
    rw [if_neg (by omega), if_neg (by omega), if_neg (by omega), if_neg (fun h => g4 h.1)]; rfl
def rightL (A B : List Nat) : Bool := (kindL A == 2 || kindL A == 3) && decide (0 < A.getD 256 0) && (kindL B == 2 || kindL B == 3 || kindL B == 1)
theorem c152 (A B : List Nat) (ha : A.length ≤ 288) (hb : B.length ≤ 288) (h256 : 256 < A.length) (hxa : ∀ x ∈ A, x ≤ 15) (hxb : ∀ x ∈ B, x ≤ 15) : CS Tryz.prog false 123 [.v (.list 1 (nv A)), .v (.list 1 (nv B))] [.bool (rightL A B)] [] := by
  obtain ⟨y, hy⟩ : ∃ y, A[256]? = some y := ⟨_, List.getElem?_eq_getElem h256⟩
  have hg : A.getD 256 0 = y := by rw [List.getD_eq_getElem?_getD, hy]; rfl
  refine CS_act tab_ok md Tryz.func123 rfl rfl Tryz.ntmps123 (rl := [.tmp 4]) rfl (Nat.le_of_ble_eq_true rfl) ?_
  simp only [go_sem]
  refine act_callE (c98 A ha hxa) ?_
  simp only [go_sem]
  refine act_callE (c98 B hb hxb) ?_
  simp only [go_sem]
  unfold rightL
  rw [hg]
  generalize kindL A = a
  generalize kindL B = b
  have eqB : ∀ (n : Nat) (k : Nat), ((n : Int) == (k : Int)) = (n == k) := fun n k => by
    by_cases h : n = k
    · subst h; simp
    · have h' : ¬ (n : Int) = k := by omega
      rw [beq_eq_false_iff_ne.2 h', beq_eq_false_iff_ne.2 h]
  have ea2 : ((a : Int) == 2) = (a == 2) := eqB a 2
  have ea3 : ((a : Int) == 3) = (a == 3) := eqB a 3
  have eb2 : ((b : Int) == 2) = (b == 2) := eqB b 2
  have eb3 : ((b : Int) == 3) = (b == 3) := eqB b 3
  have eb1 : ((b : Int) == 1) = (b == 1) := eqB b 1
  have ey : decide ((y : Int) > 0) = decide (0 < y) := by
    by_cases h : 0 < y
    · rw [decide_eq_true h, decide_eq_true (by omega)]
    · rw [decide_eq_false h, decide_eq_false (by omega)]
  rw [← ea2, ← ea3, ← eb2, ← eb3, ← eb1, ← ey]
  clear ea2 ea3 eb2 eb3 eb1 ey eqB
  repeat' (first
    | (refine ⟨by omega, by omega, ?_⟩; simp only [go_sem, Int.reduceToNat, nv_get hy])
    | (refine act_split_not (fun h => ?_) (fun h => ?_) <;> simp only [go_sem, h])
    | (refine act_split (fun h => ?_) (fun h => ?_) <;> simp only [go_sem, h]))
end Go.Proofs.YtikegeligblekaaGreat.M

/- Contracts for Inflate, part 13: the codes of a block of type 2. No condition. -/
namespace Go.Proofs.YtikegeligblekaaGreat.M
open Go Go.Proofs
set_option maxRecDepth 100000
set_option maxHeartbeats 2000000
set_option linter.unusedSimpArgs false
theorem symN_lt {L : List Nat} {n i y : Nat} (h : y ∈ symN L n i) : y < i := by
  simp only [symN, List.mem_filter, List.mem_range] at h; exact h.1
theorem symL_lt {L : List Nat} : ∀ {n y : Nat}, y ∈ symL L n → y < L.length
  | 0, y, h => by simp [symL] at h
  | n + 1, y, h => by
    simp only [symL, List.mem_append] at h
    rcases h with h | h
    · exact symL_lt h
    · exact symN_lt h
theorem getD_lt {l : List Nat} {i n : Nat} (hn : 0 < n) (h : ∀ y ∈ l, y < n) : l.getD i 0 < n := by
  rw [List.getD_eq_getElem?_getD]
  cases hx : l[i]? with
  | none => exact hn
  | some x => exact h x (List.mem_of_getElem? hx)
theorem symGo_lt (s : ByteArray) {L : List Nat} (hL : 0 < L.length) : ∀ m n x r, (symGo s L m n x r).1 < L.length
  | 0, n, x, r => by simp only [symGo]; exact hL
  | m + 1, n, x, r => by
    have h3 := symGo_lt s hL m (n + 1) (2 * x + (getBits s r 1).1) (getBits s r 1).2
    rw [symGo]
    split
    · exact getD_lt hL fun y hy => symL_lt hy
    · split
      · exact hL
      · split
        · exact hL
        · exact h3
theorem toldL_le {A : List Nat} {sym ex : Nat} (hA : ∀ x ∈ A, x ≤ 15) (hs : sym < 19) : ∀ x ∈ toldL A sym ex, x ≤ 15 := by
  intro x hx
  simp only [toldL, List.mem_append] at hx
  rcases hx with hx | hx
  · exact hA x hx
  · obtain rfl := List.eq_of_mem_replicate hx
    unfold tellN
    split
    · have : A.getD (A.length - 1) 0 < 16 := getD_lt (by omega) fun y hy => by have := hA y hy; omega
      omega
    · split <;> omega
theorem runsGo_ok (s : ByteArray) {L : List Nat} (hL : L.length = 19) (size : Nat) : ∀ f A r, (∀ x ∈ A, x ≤ 15) → A.length ≤ size → size + 1 - A.length ≤ f → (runsGo s L size f A r).2.code = 0 →
    (runsGo s L size f A r).1.length = size ∧ ∀ x ∈ (runsGo s L size f A r).1, x ≤ 15
  | 0, A, r, _, hl, hf, _ => by omega
  | f + 1, A, r, hA, hl, hf, hc => by
    rw [runsGo] at hc ⊢
    by_cases hin : A.length < size ∧ r.code = 0
    · rw [if_pos hin] at hc ⊢
      by_cases hz : (getBits s (runStep (symGo s L 16 0 0 r) A) (exB (symGo s L 16 0 0 r).1)).2.code ≠ 0
      · rw [if_pos hz] at hc; exact absurd hc hz
      · rw [if_neg hz] at hc ⊢
        have hlt := symGo_lt s (L := L) (by omega) 16 0 0 r
        have htl := toldL_len A (symGo s L 16 0 0 r).1 (getBits s (runStep (symGo s L 16 0 0 r) A) (exB (symGo s L 16 0 0 r).1)).1
        have htp := tellC_pos (symGo s L 16 0 0 r).1 (getBits s (runStep (symGo s L 16 0 0 r) A) (exB (symGo s L 16 0 0 r).1)).1
        have hle := toldL_le (ex := (getBits s (runStep (symGo s L 16 0 0 r) A) (exB (symGo s L 16 0 0 r).1)).1) hA (hL ▸ hlt)
        generalize toldL A (symGo s L 16 0 0 r).1 (getBits s (runStep (symGo s L 16 0 0 r) A) (exB (symGo s L 16 0 0 r).1)).1 = B at hc htl hle ⊢
        by_cases hB : size < B.length
        · have hcode : ((getBits s (runStep (symGo s L 16 0 0 r) A) (exB (symGo s L 16 0 0 r).1)).2.fail 5).code ≠ 0 := fail_code (by decide)
          rw [if_pos hB, runsGo_stop (fun h => hcode h.2)] at hc
          exact absurd hc hcode
        · rw [if_neg hB] at hc ⊢
          exact runsGo_ok s hL size f B _ hle (by omega) (by omega) hc
    · rw [if_neg hin] at hc ⊢
      exact ⟨by dsimp only at hc ⊢; by_cases h : A.length < size; (· exact absurd ⟨h, hc⟩ hin); (· omega), hA⟩
theorem runStep_out {y : Nat × Rd} {A : List Nat} : (runStep y A).out = y.2.out := by
  unfold runStep; split
  · exact fail_out _ _
  · rfl
theorem runsGo_out (s : ByteArray) (L : List Nat) (size : Nat) : ∀ f A r, (runsGo s L size f A r).2.out = r.out
  | 0, A, r => rfl
  | f + 1, A, r => by
    rw [runsGo]
    split
    · split
      · rw [getBits_out, runStep_out, symGo_out]
      · rw [runsGo_out]
        split
        · rw [fail_out, getBits_out, runStep_out, symGo_out]
        · rw [getBits_out, runStep_out, symGo_out]
    · rfl
theorem runsGo_at {s : ByteArray} {L : List Nat} {size : Nat} : ∀ {f A r}, r.at' ≤ 8 * s.size → (runsGo s L size f A r).2.at' ≤ 8 * s.size
  | 0, A, r, h => h
  | f + 1, A, r, h => by
    have h1 := symGo_at s L 16 0 0 r h
    have h2 := getBits_at s (runStep (symGo s L 16 0 0 r) A) (exB (symGo s L 16 0 0 r).1) (runStep_at h1)
    rw [runsGo]
    split
    · split
      · exact h2
      · refine runsGo_at ?_
        split
        · rw [fail_at]; exact h2
        · exact h2
    · exact h
theorem runsGo_ge {s : ByteArray} {L : List Nat} {size : Nat} : ∀ {f A r}, r.at' ≤ (runsGo s L size f A r).2.at'
  | 0, A, r => Nat.le_refl _
  | f + 1, A, r => by
    have h1 := symGo_ge s L 16 0 0 r
    have h2 := getBits_ge s (runStep (symGo s L 16 0 0 r) A) (exB (symGo s L 16 0 0 r).1)
    have h3 : (runStep (symGo s L 16 0 0 r) A).at' = (symGo s L 16 0 0 r).2.at' := by unfold runStep; split; (· exact fail_at _ _); (· rfl)
    rw [runsGo]
    split
    · split
      · show r.at' ≤ (getBits s (runStep (symGo s L 16 0 0 r) A) (exB (symGo s L 16 0 0 r).1)).2.at'
        omega
      · refine Nat.le_trans ?_ runsGo_ge
        split
        · rw [fail_at]; omega
        · omega
    · exact Nat.le_refl _
/-- The third code's lengths, after so many of them. -/
def thG (s : ByteArray) (r : Rd) : Nat → List Nat × Rd
  | 0 => (List.replicate 19 0, r)
  | i + 1 => ((thG s r i).1.set (ordL.getD i 0) (getBits s (thG s r i).2 3).1, (getBits s (thG s r i).2 3).2)
theorem thG_len (s : ByteArray) (r : Rd) : ∀ i, (thG s r i).1.length = 19
  | 0 => by simp [thG]
  | i + 1 => by rw [thG]; simp [thG_len s r i]
theorem thG_le (s : ByteArray) (r : Rd) : ∀ i, ∀ x ∈ (thG s r i).1, x ≤ 15
  | 0 => fun x hx => by obtain rfl := List.eq_of_mem_replicate hx; omega
  | i + 1 => fun x hx => by
    rw [thG] at hx
    rcases List.mem_or_eq_of_mem_set hx with hx | rfl
    · exact thG_le s r i x hx
    · have := getBits_lt s (thG s r i).2 3; omega
theorem thG_at {s : ByteArray} {r : Rd} (h : r.at' ≤ 8 * s.size) : ∀ i, (thG s r i).2.at' ≤ 8 * s.size
  | 0 => h
  | i + 1 => by rw [thG]; exact getBits_at s _ _ (thG_at h i)
theorem thG_ge {s : ByteArray} {r : Rd} : ∀ i, r.at' ≤ (thG s r i).2.at'
  | 0 => Nat.le_refl _
  | i + 1 => by rw [thG]; exact Nat.le_trans (thG_ge i) (getBits_ge s _ _)
theorem thG_out {s : ByteArray} {r : Rd} : ∀ i, (thG s r i).2.out = r.out
  | 0 => rfl
  | i + 1 => by rw [thG]; exact (getBits_out s _ _).trans (thG_out i)
/-- Behind the third code's lengths: its kind. -/
def wv2 (q : List Nat × Rd) : Rd := q.2.failIf (decide (kindL q.1 ≠ 2)) 5
def wv4 (a : Nat) (q : List Nat × Rd) : Rd := q.2.failIf (!rightL (q.1.take a) (q.1.drop a)) 5
def wvQ (s : ByteArray) (a b : Nat) (q : List Nat × Rd) : List Nat × Rd := runsGo s q.1 (a + b) (a + b + 1) [] (wv2 q)
def wv1 (a b : Nat) (r : Rd) : Rd := r.failIf (decide (286 < a) || decide (30 < b)) 5
/-- The two codes' lengths, one behind the other, and the reader. -/
def wvB (s : ByteArray) (a b : Nat) (q : List Nat × Rd) : List Nat × Rd := if (wv2 q).code ≠ 0 then ([], wv2 q) else ((wvQ s a b q).1, wv4 a (wvQ s a b q))
def wvA (s : ByteArray) (r : Rd) (a b c : Nat) : List Nat × Rd := wvB s a b (thG s (wv1 a b r) c)
def wvGo (s : ByteArray) (r : Rd) : Nat × List Nat × Rd :=
  ((getBits s r 5).1 + 257, wvA s (getBits s (getBits s (getBits s r 5).2 5).2 4).2 ((getBits s r 5).1 + 257) ((getBits s (getBits s r 5).2 5).1 + 1) ((getBits s (getBits s (getBits s r 5).2 5).2 4).1 + 4))
def wvT (q : Nat × List Nat × Rd) : List T := if q.2.2.code ≠ 0 then [.nilp, .nilp] else [.bx (bookT (q.2.1.take q.1)), .bx (bookT (q.2.1.drop q.1))]
theorem wvT_no {q : Nat × List Nat × Rd} (h : q.2.2.code ≠ 0) : wvT q = [.nilp, .nilp] := if_pos h
theorem wvT_yes {q : Nat × List Nat × Rd} (h : q.2.2.code = 0) : wvT q = [.bx (bookT (q.2.1.take q.1)), .bx (bookT (q.2.1.drop q.1))] := if_neg (by omega)
theorem ord_get {i : Nat} (h : i < 19) : ∃ o, ordL[i]? = some o ∧ o < 19 := by
  have : ∀ i : Fin 19, ∃ o, ordL[i.1]? = some o ∧ o < 19 := by decide
  exact this ⟨i, h⟩
end Go.Proofs.YtikegeligblekaaGreat.M

/- Canonical codes: the search through all codes and the search by first codes find the same. No condition. -/
namespace Go.Proofs.YtikegeligblekaaGreat.M
open Go Go.Proofs
set_option linter.unusedSimpArgs false
/-- A symbol's code. -/
def codL (L : List Nat) (i : Nat) : Nat := if L.getD i 0 = 0 then 0 else fstL L (L.getD i 0) + (L.take i).count (L.getD i 0)
def codesL (L : List Nat) : List Nat := (List.range L.length).map (codL L)
theorem getD_of {L : List Nat} {i n : Nat} (h : L[i]? = some n) : L.getD i 0 = n := by rw [List.getD_eq_getElem?_getD, h]; rfl
theorem codL_of {L : List Nat} {i n : Nat} (h : L[i]? = some n) (hn : n ≠ 0) : codL L i = fstL L n + (L.take i).count n := by
  unfold codL; rw [getD_of h, if_neg hn]
theorem symN_pre (L : List Nat) (n : Nat) : ∀ (d i : Nat), ∃ R, symN L n (i + d) = symN L n i ++ R
  | 0, i => ⟨[], by simp⟩
  | d + 1, i => by
    obtain ⟨R, h⟩ := symN_pre L n d i
    rw [← Nat.add_assoc, symN_succ, h, List.append_assoc]
    exact ⟨_, rfl⟩
theorem symN_get {L : List Nat} {n i : Nat} (h : L[i]? = some n) : (symN L n L.length)[(L.take i).count n]? = some i := by
  have hi : i < L.length := (List.getElem?_eq_some_iff.1 h).1
  obtain ⟨R, hR⟩ := symN_pre L n (L.length - (i + 1)) (i + 1)
  rw [show i + 1 + (L.length - (i + 1)) = L.length by omega, symN_succ, h] at hR
  have hc := symN_count L n i (by omega)
  rw [hR, List.append_assoc, ← hc, List.getElem?_append_right (Nat.le_refl _), Nat.sub_self]
  simp
theorem count_ex (L : List Nat) (n k : Nat) : ∀ i, i ≤ L.length → k < (L.take i).count n → ∃ j, j < i ∧ L[j]? = some n ∧ (L.take j).count n = k
  | 0, _, h => by simp at h
  | i + 1, hi, h => by
    obtain ⟨x, hx⟩ : ∃ x, L[i]? = some x := ⟨_, List.getElem?_eq_getElem (by omega)⟩
    rw [List.take_add_one, hx, List.count_append, Option.toList_some] at h
    by_cases h2 : k < (L.take i).count n
    · obtain ⟨j, a, b, c⟩ := count_ex L n k i (by omega) h2
      exact ⟨j, by omega, b, c⟩
    · by_cases hxn : x = n
      · subst hxn
        rw [List.count_singleton_self] at h
        exact ⟨i, by omega, hx, by omega⟩
      · have h0 : List.count n [x] = 0 := List.count_eq_zero.2 (by simp; omega)
        rw [h0] at h; omega
theorem count_lt {L : List Nat} {n i : Nat} (h : L[i]? = some n) : (L.take i).count n < L.count n := by
  have hi : i < L.length := (List.getElem?_eq_some_iff.1 h).1
  have e : L = L.take i ++ n :: L.drop (i + 1) := by
    have := List.getElem_cons_drop hi
    rw [show L[i] = n from (List.getElem?_eq_some_iff.1 h).2] at this
    rw [this, List.take_append_drop]
  have : L.count n = (L.take i).count n + (n :: L.drop (i + 1)).count n := by
    conv => lhs; rw [e]
    rw [List.count_append]
  rw [List.count_cons_self] at this
  omega
theorem symL_pre (L : List Nat) : ∀ (d n : Nat), ∃ R, symL L (n + d) = symL L n ++ R
  | 0, n => ⟨[], by simp⟩
  | d + 1, n => by
    obtain ⟨R, h⟩ := symL_pre L d n
    rw [← Nat.add_assoc, symL, h, List.append_assoc]
    exact ⟨_, rfl⟩
theorem symL_get {L : List Nat} {n k : Nat} (h0 : 0 < n) (h15 : n ≤ 15) (hk : k < (symN L n L.length).length) : (symL L 15)[bef L n + k]? = (symN L n L.length)[k]? := by
  obtain ⟨m, rfl⟩ : ∃ m, n = m + 1 := ⟨n - 1, by omega⟩
  obtain ⟨R, hR⟩ := symL_pre L (15 - (m + 1)) (m + 1)
  rw [show m + 1 + (15 - (m + 1)) = 15 by omega] at hR
  have hb := symL_bef L m
  rw [hR, symL, ← hb, List.append_assoc, List.getElem?_append_right (by omega), List.getElem?_append_left (by omega)]
  congr 1; omega
theorem cntL_pos {L : List Nat} {n : Nat} (h : 0 < n) : cntL L n = L.count n := if_neg (by omega)
/-- A code of a length is some symbol's, that which the book tells. -/
theorem code_hit {L : List Nat} {n x : Nat} (h0 : 0 < n) (h15 : n ≤ 15) (h1 : fstL L n ≤ x) (h2 : x < fstL L n + cntL L n) :
    ∃ i, L[i]? = some n ∧ codL L i = x ∧ (symL L 15).getD (bef L n + (x - fstL L n)) 0 = i := by
  rw [cntL_pos h0] at h2
  obtain ⟨i, hi, hL, hc⟩ := count_ex L n (x - fstL L n) L.length (Nat.le_refl _) (by rw [List.take_length]; omega)
  refine ⟨i, hL, by rw [codL_of hL (by omega), hc]; omega, ?_⟩
  have hlen : (symN L n L.length).length = L.count n := by rw [symN_count L n L.length (Nat.le_refl _), List.take_length]
  have hg := symN_get hL
  rw [hc] at hg
  rw [List.getD_eq_getElem?_getD, symL_get h0 h15 (by omega), hg]; rfl
theorem code_one {L : List Nat} {n i j : Nat} (h0 : 0 < n) (hi : L[i]? = some n) (hj : L[j]? = some n) (h : codL L i = codL L j) : i = j := by
  rw [codL_of hi (by omega), codL_of hj (by omega)] at h
  have a := symN_get hi
  have b := symN_get hj
  rw [show (L.take i).count n = (L.take j).count n by omega] at a
  exact Option.some.inj (a.symm.trans b)
theorem code_in {L : List Nat} {n i : Nat} (h0 : 0 < n) (hi : L[i]? = some n) : fstL L n ≤ codL L i ∧ codL L i < fstL L n + cntL L n := by
  rw [codL_of hi (by omega), cntL_pos h0]
  have := count_lt hi
  omega
theorem sum_end (L : List Nat) : ∀ n, n ≤ 15 → sumL L n = (fstL L n + cntL L n) * 2 ^ (15 - n)
  | 0, _ => by simp [sumL, fstL, cntL]
  | n + 1, h => by
    have ih := sum_end L n (by omega)
    rw [sumL, ih, cntL_pos (n := n + 1) (by omega), fstL, show 15 - n = 15 - (n + 1) + 1 by omega, Nat.pow_succ]
    generalize 2 ^ (15 - (n + 1)) = p
    generalize fstL L n + cntL L n = e
    rw [Nat.add_mul, Nat.mul_comm p 2, ← Nat.mul_assoc, Nat.mul_comm e 2]
theorem sum_mono (L : List Nat) : ∀ {m n : Nat}, m ≤ n → sumL L m ≤ sumL L n := by
  intro m n h
  induction h with
  | refl => exact Nat.le_refl _
  | step h ih => rw [sumL]; omega
theorem fst_sum (L : List Nat) (n : Nat) (h : n + 1 ≤ 15) : fstL L (n + 1) * 2 ^ (15 - (n + 1)) = sumL L n := by
  rw [sum_end L n (by omega), fstL, show 15 - n = 15 - (n + 1) + 1 by omega, Nat.pow_succ, Nat.mul_comm (2 ^ (15 - (n + 1))) 2, ← Nat.mul_assoc, Nat.mul_comm (fstL L n + cntL L n) 2]
/-- Does a symbol's code begin with n bits that are x? -/
def hitL (L : List Nat) (n x i : Nat) : Prop := ∃ m, L[i]? = some m ∧ m ≠ 0 ∧ n ≤ m ∧ codL L i / 2 ^ (m - n) = x
theorem begins_iff {L : List Nat} {n x : Nat} (hx : ∀ y ∈ L, y ≤ 15) (hn : n ≤ 15) (h1 : fstL L n + cntL L n ≤ x) : (∃ i, hitL L n x i) ↔ x * 2 ^ (15 - n) < sumL L 15 := by
  constructor
  · rintro ⟨i, m, hL, hm, hnm, hc⟩
    have hm15 := hx m (List.mem_of_getElem? hL)
    have hin := code_in (by omega) hL
    have hne : n ≠ m := fun e => by
      subst e
      rw [Nat.sub_self, Nat.pow_zero, Nat.div_one] at hc
      omega
    have hle : x * 2 ^ (m - n) ≤ codL L i := by rw [← hc]; exact Nat.div_mul_le_self _ _
    have h2 : x * 2 ^ (m - n) < fstL L m + cntL L m := by omega
    have h3 : x * 2 ^ (15 - n) < (fstL L m + cntL L m) * 2 ^ (15 - m) := by
      have e : x * 2 ^ (15 - n) = x * 2 ^ (m - n) * 2 ^ (15 - m) := by rw [Nat.mul_assoc, ← Nat.pow_add]; congr 2; omega
      rw [e]
      exact Nat.mul_lt_mul_of_pos_right h2 (Nat.two_pow_pos _)
    rw [← sum_end L m hm15] at h3
    exact Nat.lt_of_lt_of_le h3 (sum_mono L hm15)
  · intro h
    have hs : sumL L n ≤ x * 2 ^ (15 - n) := by rw [sum_end L n hn]; exact Nat.mul_le_mul_right _ h1
    -- the first length at which the sum passes x
    have key : ∀ d, n + d ≤ 15 → x * 2 ^ (15 - n) < sumL L (n + d) → ∃ m, n ≤ m ∧ m + 1 ≤ 15 ∧ sumL L m ≤ x * 2 ^ (15 - n) ∧ x * 2 ^ (15 - n) < sumL L (m + 1) := by
      intro d
      induction d with
      | zero => intro _ h; exact absurd h (by rw [Nat.add_zero]; omega)
      | succ d ih =>
        intro hd h
        by_cases h' : x * 2 ^ (15 - n) < sumL L (n + d)
        · exact ih (by omega) h'
        · exact ⟨n + d, by omega, by omega, by omega, h⟩
    obtain ⟨m, a, b, c, d⟩ := key (15 - n) (by omega) (by rw [show n + (15 - n) = 15 by omega]; exact h)
    have e : x * 2 ^ (15 - n) = x * 2 ^ (m + 1 - n) * 2 ^ (15 - (m + 1)) := by rw [Nat.mul_assoc, ← Nat.pow_add]; congr 2; omega
    rw [← fst_sum L m b, e] at c
    rw [sum_end L (m + 1) b, e] at d
    have c' : fstL L (m + 1) ≤ x * 2 ^ (m + 1 - n) := Nat.le_of_mul_le_mul_right c (Nat.two_pow_pos _)
    have d' : x * 2 ^ (m + 1 - n) < fstL L (m + 1) + cntL L (m + 1) := Nat.lt_of_mul_lt_mul_right d
    obtain ⟨i, hL, hc, _⟩ := code_hit (by omega) b c' d'
    exact ⟨i, m + 1, hL, by omega, by omega, by rw [hc]; exact Nat.mul_div_cancel _ (Nat.two_pow_pos _)⟩
end Go.Proofs.YtikegeligblekaaGreat.M

/- Contracts for Inflate, part 19: the reference's codes. No condition. -/
namespace Go.Proofs.YtikegeligblekaaGreat.M
open Go Go.Proofs
set_option maxRecDepth 100000
set_option maxHeartbeats 2000000
set_option linter.unusedSimpArgs false
def codS (L : List Nat) (m i j : Nat) : Nat := if L.getD j 0 = 0 then 0 else if L.getD j 0 < m ∨ (L.getD j 0 = m ∧ j < i) then codL L j else 0
def cs (L : List Nat) (m i : Nat) : List Nat := (List.range L.length).map (codS L m i)
theorem cs_len (L : List Nat) (m i : Nat) : (cs L m i).length = L.length := by simp [cs]
theorem cs_get {L : List Nat} {m i j : Nat} (h : j < L.length) : (cs L m i)[j]? = some (codS L m i j) := by simp [cs, h]
theorem cs_congr {L : List Nat} {m i m' i' : Nat} (h : ∀ j, j < L.length → codS L m i j = codS L m' i' j) : cs L m i = cs L m' i' :=
  List.map_congr_left fun j hj => h j (List.mem_range.1 hj)
theorem cs_start (L : List Nat) : cs L 1 0 = List.replicate L.length 0 := by
  refine List.ext_getElem? fun j => ?_
  by_cases h : j < L.length
  · rw [cs_get h, List.getElem?_replicate_of_lt h]
    unfold codS
    split
    · rfl
    · rw [if_neg (by omega)]
  · rw [List.getElem?_eq_none (by rw [cs_len]; omega), List.getElem?_eq_none (by simp; omega)]
theorem cs_set {L : List Nat} {m i : Nat} (h : L[i]? = some m) (hm : m ≠ 0) : (cs L m i).set i (codL L i) = cs L m (i + 1) := by
  have hi : i < L.length := (List.getElem?_eq_some_iff.1 h).1
  refine List.ext_getElem? fun j => ?_
  by_cases hj : j < L.length
  · rw [cs_get hj]
    by_cases hij : i = j
    · subst hij
      rw [List.getElem?_set_self (by rw [cs_len]; exact hi)]
      unfold codS
      rw [getD_of h, if_neg hm, if_pos (.inr ⟨rfl, by omega⟩)]
    · rw [List.getElem?_set_ne hij, cs_get hj]
      unfold codS
      by_cases h0 : L.getD j 0 = 0
      · rw [if_pos h0, if_pos h0]
      · rw [if_neg h0, if_neg h0]
        by_cases h1 : L.getD j 0 < m ∨ (L.getD j 0 = m ∧ j < i)
        · rw [if_pos h1, if_pos (by omega)]
        · rw [if_neg h1, if_neg (by omega)]
  · rw [List.getElem?_eq_none (by rw [List.length_set, cs_len]; omega), List.getElem?_eq_none (by rw [cs_len]; omega)]
theorem cs_skip {L : List Nat} {m i x : Nat} (h : L[i]? = some x) (hm : x ≠ m) : cs L m (i + 1) = cs L m i := by
  refine cs_congr fun j hj => ?_
  unfold codS
  by_cases h0 : L.getD j 0 = 0
  · rw [if_pos h0, if_pos h0]
  · rw [if_neg h0, if_neg h0]
    by_cases hij : j = i
    · subst hij
      rw [getD_of h]
      by_cases h1 : x < m
      · rw [if_pos (.inl h1), if_pos (.inl h1)]
      · rw [if_neg (by omega), if_neg (by omega)]
    · by_cases h1 : L.getD j 0 < m ∨ (L.getD j 0 = m ∧ j < i)
      · rw [if_pos h1, if_pos (by omega)]
      · rw [if_neg h1, if_neg (by omega)]
theorem cs_end (L : List Nat) (m : Nat) : cs L m L.length = cs L (m + 1) 0 := by
  refine cs_congr fun j hj => ?_
  unfold codS
  by_cases h0 : L.getD j 0 = 0
  · rw [if_pos h0, if_pos h0]
  · rw [if_neg h0, if_neg h0]
    by_cases h1 : L.getD j 0 ≤ m
    · rw [if_pos (by omega), if_pos (by omega)]
    · rw [if_neg (by omega), if_neg (by omega)]
theorem cs_all {L : List Nat} (h : ∀ x ∈ L, x ≤ 15) : cs L 16 0 = codesL L := by
  refine List.map_congr_left fun j hj => ?_
  have hj' := List.mem_range.1 hj
  unfold codS
  by_cases h0 : L.getD j 0 = 0
  · rw [if_pos h0]; unfold codL; rw [if_pos h0]
  · rw [if_neg h0]
    have : L.getD j 0 ≤ 15 := by
      rw [List.getD_eq_getElem?_getD, List.getElem?_eq_getElem hj']
      exact h _ (List.getElem_mem hj')
    rw [if_pos (by omega)]
theorem nv_setS (L : List Nat) (i x : Nat) : (nv L).set i (.int .i64 x) = nv (L.set i x) := by simp [nv, List.map_set]
def codT (L : List Nat) : List T := if kindL L = 5 then [.list 1 [], .bool false] else [.list 1 (nv (codesL L)), .bool true]
theorem kind_pos (L : List Nat) : kindL L ≠ 0 := by unfold kindL; (repeat' split) <;> omega
theorem c118 (L : List Nat) (hl : L.length ≤ 288) (hx : ∀ x ∈ L, x ≤ 15) : CS Tryz.prog false 88 [.v (.list 1 (nv L))] (codT L) [] := by
  refine CS_act tab_ok md Tryz.func88 rfl rfl Tryz.ntmps88 (rl := [.tmp 2, .tmp 3]) rfl (Nat.le_of_ble_eq_true rfl) ?_
  simp only [go_sem]
  refine act_callE (c125 L hl hx) ?_
  have hk := kind_pos L
  have e1 : ((kindL L : Int) == 0) = false := by simp; omega
  by_cases h5 : kindL L = 5
  · have e2 : ((kindL L : Int) == 5) = true := by simp; omega
    simp only [go_sem, e1, e2, codT, if_pos h5]
  have e2 : ((kindL L : Int) == 5) = false := by simp; omega
  simp only [go_sem, e1, e2, codT, if_neg h5]
  refine ⟨by omega, by omega, by omega, by omega, ?_⟩
  have h0 : List.replicate L.length (T.int .i64 0) = nv (cs L 1 0) := by rw [cs_start]; simp [nv]
  rw [h0]
  refine act_loop_of (md := md) tab_ok [0,5,6,7] [208] 1000 (ι := {m : Nat // m ≤ 15}) (fun m => ⟨[(0, .a (.c (.t (.list 1 (nv L))))), (5, .a (.c (.own 208 0 0 L.length))), (6, .a (.c (.t (.int .i64 ((fstL L m.1 + cntL L m.1 : Nat) : Int))))), (7, .a (.c (.t (.int .i64 ((m.1 + 1 : Nat) : Int)))))], [(208, .arr 1 (nv (cs L (m.1 + 1) 0)) 0)], 1000, 46⟩) (fun m => 15 - m.1) ⟨0, by omega⟩ (Nat.le_of_ble_eq_true rfl) (by simp only [go_sem]) (by simp only [go_sem]; rfl) fun m => ?_
  obtain ⟨m, hm⟩ := m
  have hf := fstL_le L m
  have hp : 2 ^ (m + 1) ≤ 2 ^ 16 := Nat.pow_le_pow_right (by omega) (by omega)
  have hp2 : L.length * 2 ^ (m + 1) ≤ 288 * 65536 := Nat.mul_le_mul hl hp
  have hcl := cntL_le L m
  simp only [go_sem]
  by_cases hin : m < 15
  · have e3 : decide (((m + 1 : Nat) : Int) ≤ 15) = true := by simp; omega
    have e4 : (2 : Int) * (fstL L m + cntL L m : Nat) = (fstL L (m + 1) : Nat) := by simp only [fstL]; omega
    have hfl : fstL L (m + 1) ≤ 2 * (288 * 65536) := by simp only [fstL]; omega
    simp only [go_sem, e3, e4]
    rw [wrap64 (n := ((fstL L (m + 1) : Nat) : Int)) (by omega) (by omega)]
    refine act_loop_of (md := md) tab_ok [0,5,6,7,8] [208] 2000 (ι := {i : Nat // i ≤ L.length}) (fun i => ⟨[(0, .a (.c (.t (.list 1 (nv L))))), (5, .a (.c (.own 208 0 0 L.length))), (6, .a (.c (.t (.int .i64 ((fstL L (m + 1) + (L.take i.1).count (m + 1) : Nat) : Int))))), (7, .a (.c (.t (.int .i64 ((m + 1 : Nat) : Int))))), (8, .a (.c (.t (.int .i64 i.1))))], [(208, .arr 1 (nv (cs L (m + 1) i.1)) 0)], 2000, 46⟩) (fun i => L.length - i.1) ⟨0, by omega⟩ (Nat.le_of_ble_eq_true rfl) (by simp only [go_sem]) (by simp only [go_sem, List.take_zero, List.count_nil, Nat.add_zero]; rfl) fun i => ?_
    obtain ⟨i, hi⟩ := i
    simp only [go_sem]
    by_cases hil : i < L.length
    · have e5 : decide ((i : Int) < L.length) = true := by simp; omega
      obtain ⟨x, hxi⟩ : ∃ x, L[i]? = some x := ⟨_, List.getElem?_eq_getElem hil⟩
      have hcl2 : (L.take i).count (m + 1) ≤ (L.take i).length := List.count_le_length
      have hcl3 : (L.take i).length ≤ i := by rw [List.length_take]; omega
      simp only [go_sem, e5, nv_get hxi]
      refine ⟨by omega, by omega, ?_⟩
      by_cases hxm : x = m + 1
      · subst hxm
        have e6 : (((m + 1 : Nat) : Int) == ((m + 1 : Nat) : Int)) = true := by simp
        have hcod := codL_of hxi (by omega)
        have hset := cs_set hxi (by omega)
        have hct : (L.take (i + 1)).count (m + 1) = (L.take i).count (m + 1) + 1 := by
          rw [List.take_add_one, hxi, List.count_append, Option.toList_some, List.count_singleton_self]
        simp only [go_sem, e6, nv_get (cs_get hil)]
        refine ⟨by omega, by omega, ?_⟩
        refine nextK_of ⟨i + 1, by omega⟩ (by simp only [go_sem]) ?_ (by dsimp only; omega)
        simp only [go_sem, hct, ← hset, hcod, nv_setS]
        rw [wrap64 (n := (i : Int) + 1) (by omega) (by omega), wrap64 (by omega) (by omega)]
        rfl
      · have e6 : ((x : Int) == ((m + 1 : Nat) : Int)) = false := by simp; omega
        have hskip := cs_skip hxi hxm
        have hct : (L.take (i + 1)).count (m + 1) = (L.take i).count (m + 1) := by
          have h0 : List.count (m + 1) [x] = 0 := List.count_eq_zero.2 (by simp; omega)
          rw [List.take_add_one, hxi, List.count_append, Option.toList_some, h0]; rfl
        simp only [go_sem, e6]
        refine nextK_of ⟨i + 1, by omega⟩ (by simp only [go_sem]) ?_ (by dsimp only; omega)
        simp only [go_sem, hct, hskip]
        rw [wrap64 (n := (i : Int) + 1) (by omega) (by omega)]
        rfl
    · obtain rfl : i = L.length := by omega
      have e5 : decide ((L.length : Int) < L.length) = false := by simp
      have hce : cntL L (m + 1) = L.count (m + 1) := cntL_pos (by omega)
      simp only [go_sem, e5]
      refine nextK_of ⟨m + 1, by omega⟩ (by simp only [go_sem]) ?_ (by dsimp only; omega)
      simp only [go_sem, List.take_length, cs_end, hce]
      rw [wrap64 (n := ((m + 1 : Nat) : Int) + 1) (by omega) (by omega)]
      rfl
  · obtain rfl : m = 15 := by omega
    have e3 : decide (((15 + 1 : Nat) : Int) ≤ 15) = false := by simp
    have hall := cs_all hx
    have ht := take_nv (cs L 16 0)
    rw [cs_len, hall] at ht
    simp only [go_sem, e3, hall, ht]
end Go.Proofs.YtikegeligblekaaGreat.M
