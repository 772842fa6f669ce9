/- The table of types of the seat. Made by tab.py. -/
import Derived.Test.YtjpcicjkbbbpiaaProg
import Derived.Test.YtjpcicjkbbbpiaaKExactWithEntry4
/- The table of types of the seat. Made by tab.py. -/
namespace Go.Proofs.Ytjpcicjkbbbpiaa.M
open Go Go.Proofs
set_option maxRecDepth 100000
def tab : Tab := [
 (2, ⟨1, 8, [.t (.int .i64 0)], .int .i64⟩),
 (3, ⟨1, 8, [.t (.int .i64 0)], .int .i64⟩),
 (4, ⟨1, 1, [.t (.bool false)], .bool⟩),
 (5, ⟨1, 1, [.t (.int .u8 0)], .int .u8⟩),
 (6, ⟨1, 1, [.t (.int .u8 0)], .int .u8⟩),
 (7, ⟨4, 24, [.t (.int .i64 0), .t (.int .i64 0), .t (.bool false), .t (.int .u8 0)], .struct [(0, 2), (1, 3), (2, 4), (3, 6)]⟩),
 (8, ⟨4, 24, [.t (.int .i64 0), .t (.int .i64 0), .t (.bool false), .t (.int .u8 0)], .struct [(0, 2), (1, 3), (2, 4), (3, 6)]⟩),
 (9, ⟨1, 16, [.t (.str ⟨#[]⟩)], .str⟩),
 (10, ⟨1, 16, [.t (.str ⟨#[]⟩)], .str⟩),
 (11, ⟨1, 16, [.t (.str ⟨#[]⟩)], .str⟩),
 (12, ⟨1, 8, [.t (.int .u64 0)], .int .u64⟩),
 (13, ⟨2, 24, [.t (.str ⟨#[]⟩), .t (.int .u64 0)], .struct [(0, 9), (1, 12)]⟩),
 (14, ⟨2, 24, [.t (.str ⟨#[]⟩), .t (.int .u64 0)], .struct [(0, 9), (1, 12)]⟩),
 (15, ⟨1, 8, [.nilp], .ptr 99⟩),
 (16, ⟨1, 8, [.nilp], .ptr 102⟩),
 (17, ⟨1, 8, [.nilp], .ptr 112⟩),
 (18, ⟨1, 8, [.nilp], .struct [(0, 17)]⟩),
 (19, ⟨1, 8, [.nilp], .struct [(0, 17)]⟩),
 (21, ⟨1, 4, [.t (.int .i32 0)], .int .i32⟩),
 (22, ⟨1, 24, [.nil 1], .slice 9⟩),
 (23, ⟨1, 24, [.nil 5], .slice 25⟩),
 (24, ⟨5, 80, [.t (.int .i64 0), .t (.int .i64 0), .t (.str ⟨#[]⟩), .nil 1, .nil 5], .struct [(0, 3), (1, 3), (2, 9), (3, 22), (4, 23)]⟩),
 (25, ⟨5, 80, [.t (.int .i64 0), .t (.int .i64 0), .t (.str ⟨#[]⟩), .nil 1, .nil 5], .struct [(0, 3), (1, 3), (2, 9), (3, 22), (4, 23)]⟩),
 (27, ⟨1, 24, [.nil 5], .slice 29⟩),
 (28, ⟨5, 80, [.t (.int .i64 0), .t (.int .i64 0), .t (.str ⟨#[]⟩), .nil 1, .nil 5], .struct [(0, 3), (1, 3), (2, 9), (3, 22), (4, 27)]⟩),
 (29, ⟨5, 80, [.t (.int .i64 0), .t (.int .i64 0), .t (.str ⟨#[]⟩), .nil 1, .nil 5], .struct [(0, 3), (1, 3), (2, 9), (3, 22), (4, 27)]⟩),
 (38, ⟨1, 24, [.nil 8], .slice 84⟩),
 (39, ⟨2, 32, [.nil 8, .t (.int .i64 0)], .struct [(0, 38), (1, 3)]⟩),
 (40, ⟨2, 32, [.nil 8, .t (.int .i64 0)], .struct [(0, 38), (1, 3)]⟩),
 (42, ⟨8, 112, [.t (.int .i64 0), .t (.int .i64 0), .t (.int .i64 0), .t (.str ⟨#[]⟩), .nil 1, .nil 5, .t (.bool false), .t (.str ⟨#[]⟩)], .struct [(0, 3), (1, 29), (6, 4), (7, 9)]⟩),
 (43, ⟨8, 112, [.t (.int .i64 0), .t (.int .i64 0), .t (.int .i64 0), .t (.str ⟨#[]⟩), .nil 1, .nil 5, .t (.bool false), .t (.str ⟨#[]⟩)], .struct [(0, 3), (1, 29), (6, 4), (7, 9)]⟩),
 (46, ⟨1, 24, [.nil 8], .slice 43⟩),
 (47, ⟨2, 32, [.nil 8, .t (.int .i64 0)], .struct [(0, 46), (1, 3)]⟩),
 (48, ⟨2, 32, [.nil 8, .t (.int .i64 0)], .struct [(0, 46), (1, 3)]⟩),
 (77, ⟨1, 8, [.nilp], .ptr 3⟩),
 (83, ⟨8, 112, [.t (.int .i64 0), .t (.int .i64 0), .t (.int .i64 0), .t (.str ⟨#[]⟩), .nil 1, .nil 5, .t (.bool false), .t (.str ⟨#[]⟩)], .struct [(0, 3), (1, 25), (6, 4), (7, 9)]⟩),
 (84, ⟨8, 112, [.t (.int .i64 0), .t (.int .i64 0), .t (.int .i64 0), .t (.str ⟨#[]⟩), .nil 1, .nil 5, .t (.bool false), .t (.str ⟨#[]⟩)], .struct [(0, 3), (1, 25), (6, 4), (7, 9)]⟩),
 (90, ⟨1, 24, [.nil 1], .slice 5⟩),
 (98, ⟨4, 40, [.nilp, .nilp, .nilp, .t (.str ⟨#[]⟩)], .struct [(0, 17), (1, 17), (2, 17), (3, 9)]⟩),
 (99, ⟨4, 40, [.nilp, .nilp, .nilp, .t (.str ⟨#[]⟩)], .struct [(0, 17), (1, 17), (2, 17), (3, 9)]⟩),
 (100, ⟨0, 0, [], .array 0 16⟩),
 (101, ⟨0, 0, [], .struct [(0, 100)]⟩),
 (102, ⟨0, 0, [], .struct [(0, 100)]⟩),
 (104, ⟨1, 4, [.t (.int .u32 0)], .int .u32⟩),
 (105, ⟨1, 1, [.t (.int .u8 0)], .int .u8⟩),
 (106, ⟨1, 1, [.t (.int .u8 0)], .int .u8⟩),
 (108, ⟨1, 8, [.nilp], .ptr 5⟩),
 (109, ⟨1, 4, [.t (.int .i32 0)], .int .i32⟩),
 (110, ⟨1, 4, [.t (.int .i32 0)], .int .i32⟩)
]
theorem mix : Try.prog.follows .mixedOrders = true := by kernel_rfl
theorem tab_ok : TOk Try.prog tab := tabB_ok (by kernel_rfl)
@[go_sem] theorem f2 : find tab 2 = some ⟨1, 8, [.t (.int .i64 0)], .int .i64⟩ := rfl
@[go_sem] theorem t2 : tg tab 2 = ⟨1, 8, [.t (.int .i64 0)], .int .i64⟩ := rfl
@[go_sem] theorem f3 : find tab 3 = some ⟨1, 8, [.t (.int .i64 0)], .int .i64⟩ := rfl
@[go_sem] theorem t3 : tg tab 3 = ⟨1, 8, [.t (.int .i64 0)], .int .i64⟩ := rfl
@[go_sem] theorem f4 : find tab 4 = some ⟨1, 1, [.t (.bool false)], .bool⟩ := rfl
@[go_sem] theorem t4 : tg tab 4 = ⟨1, 1, [.t (.bool false)], .bool⟩ := rfl
@[go_sem] theorem f5 : find tab 5 = some ⟨1, 1, [.t (.int .u8 0)], .int .u8⟩ := rfl
@[go_sem] theorem t5 : tg tab 5 = ⟨1, 1, [.t (.int .u8 0)], .int .u8⟩ := rfl
@[go_sem] theorem f6 : find tab 6 = some ⟨1, 1, [.t (.int .u8 0)], .int .u8⟩ := rfl
@[go_sem] theorem t6 : tg tab 6 = ⟨1, 1, [.t (.int .u8 0)], .int .u8⟩ := rfl
@[go_sem] theorem f7 : find tab 7 = some ⟨4, 24, [.t (.int .i64 0), .t (.int .i64 0), .t (.bool false), .t (.int .u8 0)], .struct [(0, 2), (1, 3), (2, 4), (3, 6)]⟩ := rfl
@[go_sem] theorem t7 : tg tab 7 = ⟨4, 24, [.t (.int .i64 0), .t (.int .i64 0), .t (.bool false), .t (.int .u8 0)], .struct [(0, 2), (1, 3), (2, 4), (3, 6)]⟩ := rfl
@[go_sem] theorem f8 : find tab 8 = some ⟨4, 24, [.t (.int .i64 0), .t (.int .i64 0), .t (.bool false), .t (.int .u8 0)], .struct [(0, 2), (1, 3), (2, 4), (3, 6)]⟩ := rfl
@[go_sem] theorem t8 : tg tab 8 = ⟨4, 24, [.t (.int .i64 0), .t (.int .i64 0), .t (.bool false), .t (.int .u8 0)], .struct [(0, 2), (1, 3), (2, 4), (3, 6)]⟩ := rfl
@[go_sem] theorem f9 : find tab 9 = some ⟨1, 16, [.t (.str ⟨#[]⟩)], .str⟩ := rfl
@[go_sem] theorem t9 : tg tab 9 = ⟨1, 16, [.t (.str ⟨#[]⟩)], .str⟩ := rfl
@[go_sem] theorem f10 : find tab 10 = some ⟨1, 16, [.t (.str ⟨#[]⟩)], .str⟩ := rfl
@[go_sem] theorem t10 : tg tab 10 = ⟨1, 16, [.t (.str ⟨#[]⟩)], .str⟩ := rfl
@[go_sem] theorem f11 : find tab 11 = some ⟨1, 16, [.t (.str ⟨#[]⟩)], .str⟩ := rfl
@[go_sem] theorem t11 : tg tab 11 = ⟨1, 16, [.t (.str ⟨#[]⟩)], .str⟩ := rfl
@[go_sem] theorem f12 : find tab 12 = some ⟨1, 8, [.t (.int .u64 0)], .int .u64⟩ := rfl
@[go_sem] theorem t12 : tg tab 12 = ⟨1, 8, [.t (.int .u64 0)], .int .u64⟩ := rfl
@[go_sem] theorem f13 : find tab 13 = some ⟨2, 24, [.t (.str ⟨#[]⟩), .t (.int .u64 0)], .struct [(0, 9), (1, 12)]⟩ := rfl
@[go_sem] theorem t13 : tg tab 13 = ⟨2, 24, [.t (.str ⟨#[]⟩), .t (.int .u64 0)], .struct [(0, 9), (1, 12)]⟩ := rfl
@[go_sem] theorem f14 : find tab 14 = some ⟨2, 24, [.t (.str ⟨#[]⟩), .t (.int .u64 0)], .struct [(0, 9), (1, 12)]⟩ := rfl
@[go_sem] theorem t14 : tg tab 14 = ⟨2, 24, [.t (.str ⟨#[]⟩), .t (.int .u64 0)], .struct [(0, 9), (1, 12)]⟩ := rfl
@[go_sem] theorem f15 : find tab 15 = some ⟨1, 8, [.nilp], .ptr 99⟩ := rfl
@[go_sem] theorem t15 : tg tab 15 = ⟨1, 8, [.nilp], .ptr 99⟩ := rfl
@[go_sem] theorem f16 : find tab 16 = some ⟨1, 8, [.nilp], .ptr 102⟩ := rfl
@[go_sem] theorem t16 : tg tab 16 = ⟨1, 8, [.nilp], .ptr 102⟩ := rfl
@[go_sem] theorem f17 : find tab 17 = some ⟨1, 8, [.nilp], .ptr 112⟩ := rfl
@[go_sem] theorem t17 : tg tab 17 = ⟨1, 8, [.nilp], .ptr 112⟩ := rfl
@[go_sem] theorem f18 : find tab 18 = some ⟨1, 8, [.nilp], .struct [(0, 17)]⟩ := rfl
@[go_sem] theorem t18 : tg tab 18 = ⟨1, 8, [.nilp], .struct [(0, 17)]⟩ := rfl
@[go_sem] theorem f19 : find tab 19 = some ⟨1, 8, [.nilp], .struct [(0, 17)]⟩ := rfl
@[go_sem] theorem t19 : tg tab 19 = ⟨1, 8, [.nilp], .struct [(0, 17)]⟩ := rfl
@[go_sem] theorem f21 : find tab 21 = some ⟨1, 4, [.t (.int .i32 0)], .int .i32⟩ := rfl
@[go_sem] theorem t21 : tg tab 21 = ⟨1, 4, [.t (.int .i32 0)], .int .i32⟩ := rfl
@[go_sem] theorem f22 : find tab 22 = some ⟨1, 24, [.nil 1], .slice 9⟩ := rfl
@[go_sem] theorem t22 : tg tab 22 = ⟨1, 24, [.nil 1], .slice 9⟩ := rfl
@[go_sem] theorem f23 : find tab 23 = some ⟨1, 24, [.nil 5], .slice 25⟩ := rfl
@[go_sem] theorem t23 : tg tab 23 = ⟨1, 24, [.nil 5], .slice 25⟩ := rfl
@[go_sem] theorem f24 : find tab 24 = some ⟨5, 80, [.t (.int .i64 0), .t (.int .i64 0), .t (.str ⟨#[]⟩), .nil 1, .nil 5], .struct [(0, 3), (1, 3), (2, 9), (3, 22), (4, 23)]⟩ := rfl
@[go_sem] theorem t24 : tg tab 24 = ⟨5, 80, [.t (.int .i64 0), .t (.int .i64 0), .t (.str ⟨#[]⟩), .nil 1, .nil 5], .struct [(0, 3), (1, 3), (2, 9), (3, 22), (4, 23)]⟩ := rfl
@[go_sem] theorem f25 : find tab 25 = some ⟨5, 80, [.t (.int .i64 0), .t (.int .i64 0), .t (.str ⟨#[]⟩), .nil 1, .nil 5], .struct [(0, 3), (1, 3), (2, 9), (3, 22), (4, 23)]⟩ := rfl
@[go_sem] theorem t25 : tg tab 25 = ⟨5, 80, [.t (.int .i64 0), .t (.int .i64 0), .t (.str ⟨#[]⟩), .nil 1, .nil 5], .struct [(0, 3), (1, 3), (2, 9), (3, 22), (4, 23)]⟩ := rfl
@[go_sem] theorem f27 : find tab 27 = some ⟨1, 24, [.nil 5], .slice 29⟩ := rfl
@[go_sem] theorem t27 : tg tab 27 = ⟨1, 24, [.nil 5], .slice 29⟩ := rfl
@[go_sem] theorem f28 : find tab 28 = some ⟨5, 80, [.t (.int .i64 0), .t (.int .i64 0), .t (.str ⟨#[]⟩), .nil 1, .nil 5], .struct [(0, 3), (1, 3), (2, 9), (3, 22), (4, 27)]⟩ := rfl
@[go_sem] theorem t28 : tg tab 28 = ⟨5, 80, [.t (.int .i64 0), .t (.int .i64 0), .t (.str ⟨#[]⟩), .nil 1, .nil 5], .struct [(0, 3), (1, 3), (2, 9), (3, 22), (4, 27)]⟩ := rfl
@[go_sem] theorem f29 : find tab 29 = some ⟨5, 80, [.t (.int .i64 0), .t (.int .i64 0), .t (.str ⟨#[]⟩), .nil 1, .nil 5], .struct [(0, 3), (1, 3), (2, 9), (3, 22), (4, 27)]⟩ := rfl
@[go_sem] theorem t29 : tg tab 29 = ⟨5, 80, [.t (.int .i64 0), .t (.int .i64 0), .t (.str ⟨#[]⟩), .nil 1, .nil 5], .struct [(0, 3), (1, 3), (2, 9), (3, 22), (4, 27)]⟩ := rfl
@[go_sem] theorem f38 : find tab 38 = some ⟨1, 24, [.nil 8], .slice 84⟩ := rfl
@[go_sem] theorem t38 : tg tab 38 = ⟨1, 24, [.nil 8], .slice 84⟩ := rfl
@[go_sem] theorem f39 : find tab 39 = some ⟨2, 32, [.nil 8, .t (.int .i64 0)], .struct [(0, 38), (1, 3)]⟩ := rfl
@[go_sem] theorem t39 : tg tab 39 = ⟨2, 32, [.nil 8, .t (.int .i64 0)], .struct [(0, 38), (1, 3)]⟩ := rfl
@[go_sem] theorem f40 : find tab 40 = some ⟨2, 32, [.nil 8, .t (.int .i64 0)], .struct [(0, 38), (1, 3)]⟩ := rfl
@[go_sem] theorem t40 : tg tab 40 = ⟨2, 32, [.nil 8, .t (.int .i64 0)], .struct [(0, 38), (1, 3)]⟩ := rfl
@[go_sem] theorem f42 : find tab 42 = some ⟨8, 112, [.t (.int .i64 0), .t (.int .i64 0), .t (.int .i64 0), .t (.str ⟨#[]⟩), .nil 1, .nil 5, .t (.bool false), .t (.str ⟨#[]⟩)], .struct [(0, 3), (1, 29), (6, 4), (7, 9)]⟩ := rfl
@[go_sem] theorem t42 : tg tab 42 = ⟨8, 112, [.t (.int .i64 0), .t (.int .i64 0), .t (.int .i64 0), .t (.str ⟨#[]⟩), .nil 1, .nil 5, .t (.bool false), .t (.str ⟨#[]⟩)], .struct [(0, 3), (1, 29), (6, 4), (7, 9)]⟩ := rfl
@[go_sem] theorem f43 : find tab 43 = some ⟨8, 112, [.t (.int .i64 0), .t (.int .i64 0), .t (.int .i64 0), .t (.str ⟨#[]⟩), .nil 1, .nil 5, .t (.bool false), .t (.str ⟨#[]⟩)], .struct [(0, 3), (1, 29), (6, 4), (7, 9)]⟩ := rfl
@[go_sem] theorem t43 : tg tab 43 = ⟨8, 112, [.t (.int .i64 0), .t (.int .i64 0), .t (.int .i64 0), .t (.str ⟨#[]⟩), .nil 1, .nil 5, .t (.bool false), .t (.str ⟨#[]⟩)], .struct [(0, 3), (1, 29), (6, 4), (7, 9)]⟩ := rfl
@[go_sem] theorem f46 : find tab 46 = some ⟨1, 24, [.nil 8], .slice 43⟩ := rfl
@[go_sem] theorem t46 : tg tab 46 = ⟨1, 24, [.nil 8], .slice 43⟩ := rfl
@[go_sem] theorem f47 : find tab 47 = some ⟨2, 32, [.nil 8, .t (.int .i64 0)], .struct [(0, 46), (1, 3)]⟩ := rfl
@[go_sem] theorem t47 : tg tab 47 = ⟨2, 32, [.nil 8, .t (.int .i64 0)], .struct [(0, 46), (1, 3)]⟩ := rfl
@[go_sem] theorem f48 : find tab 48 = some ⟨2, 32, [.nil 8, .t (.int .i64 0)], .struct [(0, 46), (1, 3)]⟩ := rfl
@[go_sem] theorem t48 : tg tab 48 = ⟨2, 32, [.nil 8, .t (.int .i64 0)], .struct [(0, 46), (1, 3)]⟩ := rfl
@[go_sem] theorem f77 : find tab 77 = some ⟨1, 8, [.nilp], .ptr 3⟩ := rfl
@[go_sem] theorem t77 : tg tab 77 = ⟨1, 8, [.nilp], .ptr 3⟩ := rfl
@[go_sem] theorem f83 : find tab 83 = some ⟨8, 112, [.t (.int .i64 0), .t (.int .i64 0), .t (.int .i64 0), .t (.str ⟨#[]⟩), .nil 1, .nil 5, .t (.bool false), .t (.str ⟨#[]⟩)], .struct [(0, 3), (1, 25), (6, 4), (7, 9)]⟩ := rfl
@[go_sem] theorem t83 : tg tab 83 = ⟨8, 112, [.t (.int .i64 0), .t (.int .i64 0), .t (.int .i64 0), .t (.str ⟨#[]⟩), .nil 1, .nil 5, .t (.bool false), .t (.str ⟨#[]⟩)], .struct [(0, 3), (1, 25), (6, 4), (7, 9)]⟩ := rfl
@[go_sem] theorem f84 : find tab 84 = some ⟨8, 112, [.t (.int .i64 0), .t (.int .i64 0), .t (.int .i64 0), .t (.str ⟨#[]⟩), .nil 1, .nil 5, .t (.bool false), .t (.str ⟨#[]⟩)], .struct [(0, 3), (1, 25), (6, 4), (7, 9)]⟩ := rfl
@[go_sem] theorem t84 : tg tab 84 = ⟨8, 112, [.t (.int .i64 0), .t (.int .i64 0), .t (.int .i64 0), .t (.str ⟨#[]⟩), .nil 1, .nil 5, .t (.bool false), .t (.str ⟨#[]⟩)], .struct [(0, 3), (1, 25), (6, 4), (7, 9)]⟩ := rfl
@[go_sem] theorem f90 : find tab 90 = some ⟨1, 24, [.nil 1], .slice 5⟩ := rfl
@[go_sem] theorem t90 : tg tab 90 = ⟨1, 24, [.nil 1], .slice 5⟩ := rfl
@[go_sem] theorem f98 : find tab 98 = some ⟨4, 40, [.nilp, .nilp, .nilp, .t (.str ⟨#[]⟩)], .struct [(0, 17), (1, 17), (2, 17), (3, 9)]⟩ := rfl
@[go_sem] theorem t98 : tg tab 98 = ⟨4, 40, [.nilp, .nilp, .nilp, .t (.str ⟨#[]⟩)], .struct [(0, 17), (1, 17), (2, 17), (3, 9)]⟩ := rfl
@[go_sem] theorem f99 : find tab 99 = some ⟨4, 40, [.nilp, .nilp, .nilp, .t (.str ⟨#[]⟩)], .struct [(0, 17), (1, 17), (2, 17), (3, 9)]⟩ := rfl
@[go_sem] theorem t99 : tg tab 99 = ⟨4, 40, [.nilp, .nilp, .nilp, .t (.str ⟨#[]⟩)], .struct [(0, 17), (1, 17), (2, 17), (3, 9)]⟩ := rfl
@[go_sem] theorem f100 : find tab 100 = some ⟨0, 0, [], .array 0 16⟩ := rfl
@[go_sem] theorem t100 : tg tab 100 = ⟨0, 0, [], .array 0 16⟩ := rfl
@[go_sem] theorem f101 : find tab 101 = some ⟨0, 0, [], .struct [(0, 100)]⟩ := rfl
@[go_sem] theorem t101 : tg tab 101 = ⟨0, 0, [], .struct [(0, 100)]⟩ := rfl
@[go_sem] theorem f102 : find tab 102 = some ⟨0, 0, [], .struct [(0, 100)]⟩ := rfl
@[go_sem] theorem t102 : tg tab 102 = ⟨0, 0, [], .struct [(0, 100)]⟩ := rfl
@[go_sem] theorem f104 : find tab 104 = some ⟨1, 4, [.t (.int .u32 0)], .int .u32⟩ := rfl
@[go_sem] theorem t104 : tg tab 104 = ⟨1, 4, [.t (.int .u32 0)], .int .u32⟩ := rfl
@[go_sem] theorem f105 : find tab 105 = some ⟨1, 1, [.t (.int .u8 0)], .int .u8⟩ := rfl
@[go_sem] theorem t105 : tg tab 105 = ⟨1, 1, [.t (.int .u8 0)], .int .u8⟩ := rfl
@[go_sem] theorem f106 : find tab 106 = some ⟨1, 1, [.t (.int .u8 0)], .int .u8⟩ := rfl
@[go_sem] theorem t106 : tg tab 106 = ⟨1, 1, [.t (.int .u8 0)], .int .u8⟩ := rfl
@[go_sem] theorem f108 : find tab 108 = some ⟨1, 8, [.nilp], .ptr 5⟩ := rfl
@[go_sem] theorem t108 : tg tab 108 = ⟨1, 8, [.nilp], .ptr 5⟩ := rfl
@[go_sem] theorem f109 : find tab 109 = some ⟨1, 4, [.t (.int .i32 0)], .int .i32⟩ := rfl
@[go_sem] theorem t109 : tg tab 109 = ⟨1, 4, [.t (.int .i32 0)], .int .i32⟩ := rfl
@[go_sem] theorem f110 : find tab 110 = some ⟨1, 4, [.t (.int .i32 0)], .int .i32⟩ := rfl
@[go_sem] theorem t110 : tg tab 110 = ⟨1, 4, [.t (.int .i32 0)], .int .i32⟩ := rfl
end Go.Proofs.Ytjpcicjkbbbpiaa.M

/- Contracts for ObjOk, part 1: lists of strings (mdO: no results of one's own). No condition. -/
namespace Go.Proofs.Ytjpcicjkbbbpiaa.M
open Go Go.Proofs
set_option maxRecDepth 100000
set_option maxHeartbeats 2000000
@[go_sem] def mdO : Nat → Md := fun _ => ⟨false, []⟩
attribute [go_sem] List.getD_cons_zero Int.toNat_natCast Nat.zero_add
set_option linter.unusedSimpArgs false
theorem wrap64O {n : Int} (h0 : -9223372036854775808 ≤ n) (h1 : n < 9223372036854775808) : IntKind.wrap .i64 n = n := by
  simp only [IntKind.wrap, IntKind.bits, IntKind.signed]; simp; split <;> omega
theorem fill_set {α β : Type} (f : α → β) (z : β) (a : List α) (i : Nat) (x : α) (hx : a[i]? = some x) :
    ((a.take i).map f ++ List.replicate (a.length - i) z).set i (f x) = (a.take (i + 1)).map f ++ List.replicate (a.length - (i + 1)) z := by
  have hi : i < a.length := (List.getElem?_eq_some_iff.1 hx).1
  obtain ⟨k, hk⟩ : ∃ k, a.length - i = k + 1 := ⟨a.length - i - 1, by omega⟩
  have hk2 : a.length - (i + 1) = k := by omega
  rw [hk, hk2, List.set_append_right _ _ (by simp; omega), List.take_add_one, hx]
  have : i - ((a.take i).map f).length = 0 := by simp; omega
  rw [this, List.replicate_succ, List.set_cons_zero]
  simp
theorem fill_get {α β : Type} (f : α → β) (z : β) (a : List α) (i : Nat) (hi : i < a.length) : ((a.take i).map f ++ List.replicate (a.length - i) z)[i]? = some z := by
  rw [List.getElem?_append_right (by simp; omega)]
  rw [List.getElem?_replicate]
  simp; omega
def strs (l : List ByteArray) : T := .list 1 (l.map T.str)
theorem oc55 (a : List ByteArray) (ha : a.length ≤ 1048576) : CS Try.prog false 28 [.v (strs a)] [strs a] [] := by
  refine CS_act tab_ok mdO Try.func28 rfl rfl Try.ntmps28 (rl := [.tmp 2]) rfl (Nat.le_of_ble_eq_true rfl) ?_
  simp only [go_sem, strs, List.length_map]
  refine ⟨by omega, by omega, by omega, by omega, ?_⟩
  refine act_loop_of (md := mdO) tab_ok [0,3,4] [48] 1000 (ι := {i : Nat // i ≤ a.length}) (fun i => ⟨[(0, .a (.c (.t (.list 1 (a.map T.str))))), (3, .a (.c (.own 48 0 0 a.length))), (4, .a (.c (.t (.int .i64 i.1))))], [(48, .arr 1 ((a.take i.1).map T.str ++ List.replicate (a.length - i.1) (.str ⟨#[]⟩)) 0)], 1000, 22⟩) (fun i => a.length - i.1) ⟨0, by omega⟩ (Nat.le_of_ble_eq_true rfl) (by simp only [go_sem]) (by simp only [go_sem]; simp) fun i => ?_
  obtain ⟨i, hi⟩ := i
  simp only [go_sem, List.length_map]
  refine act_split (fun h => ?_) (fun h => ?_) <;> simp only [go_sem] <;> simp only [decide_eq_true_eq, decide_eq_false_iff_not] at h
  · obtain ⟨x, hx⟩ : ∃ x, a[i]? = some x := ⟨_, List.getElem?_eq_getElem (by omega)⟩
    have hg := fill_get T.str (.str ⟨#[]⟩) a i (by omega)
    simp only [go_sem, List.getElem?_map, hx, List.length_map, hg]
    refine ⟨by omega, by omega, by omega, by omega, ?_⟩
    refine nextK_of ⟨i + 1, by omega⟩ (by simp only [go_sem]) ?_ (by dsimp only; omega)
    simp only [go_sem]
    rw [wrap64O (by omega) (by omega), fill_set T.str _ a i x hx]; rfl
  · have : i = a.length := by omega
    subst this
    simp
    exact List.take_of_length_le (by simp)
end Go.Proofs.Ytjpcicjkbbbpiaa.M

/- Contracts for Entry, part 1: the marks' texts, lists of strings with memory of their own, marked, held. No condition. -/
namespace Go.Proofs.Ytjpcicjkbbbpiaa.M
open Go Go.Proofs
set_option maxRecDepth 100000
set_option maxHeartbeats 2000000
set_option linter.unusedSimpArgs false
set_option linter.unusedVariables false
@[go_sem] def mdE : Nat → Md := fun f => if f == 28 then ⟨true, []⟩ else ⟨false, []⟩
/-- The figures of a mark. -/
def mkD (k : Nat) (out : ByteArray) : ByteArray := if h : k = 0 then out else mkD (k / 10) (bytes [.int .u8 ((48 + k % 10 : Nat) : Int)] ++ out)
termination_by k
decreasing_by omega
def mkS (k : Nat) : ByteArray := (⟨#[109]⟩ : ByteArray) ++ mkD k ⟨#[]⟩
theorem mkD_size : ∀ (k : Nat) (out : ByteArray), (mkD k out).size ≤ out.size + k := fun k => by
  induction k using Nat.strongRecOn with
  | _ k ih =>
    intro out
    rw [mkD]
    split
    · omega
    · have := ih (k / 10) (by omega) (bytes [.int .u8 ((48 + k % 10 : Nat) : Int)] ++ out)
      rw [ByteArray.size_append] at this
      have e : (bytes [.int .u8 ((48 + k % 10 : Nat) : Int)]).size = 1 := rfl
      omega
theorem mkS_size (k : Nat) : (mkS k).size ≤ k + 1 := by
  have := mkD_size k ⟨#[]⟩
  unfold mkS
  rw [ByteArray.size_append]
  have e : (⟨#[109]⟩ : ByteArray).size = 1 := rfl
  have e2 : (⟨#[]⟩ : ByteArray).size = 0 := rfl
  omega
theorem e55 (k : Nat) (h0 : 0 < k) (h1 : k ≤ 1099511627776) : CS Try.prog false 55 [.v (.int .i64 k)] [.str (mkS k)] [] := by
  refine CS_act tab_ok mdE Try.func55 rfl rfl Try.ntmps55 (rl := [.tmp 2]) rfl (Nat.le_of_ble_eq_true rfl) ?_
  have e0 : decide ((k : Int) ≤ 0) = false := by simp; omega
  simp only [go_sem, e0]
  refine act_loop_of (md := mdE) tab_ok [0,3] [] 1000 (ι := {q : Nat × ByteArray // mkD q.1 q.2 = mkD k ⟨#[]⟩ ∧ q.1 + q.2.size ≤ k}) (fun q => ⟨[(0, .a (.c (.t (.int .i64 q.1.1)))), (3, .a (.c (.t (.str q.1.2))))], [], 1000, 20⟩) (fun q => q.1.1) ⟨(k, ⟨#[]⟩), rfl, Nat.le_refl _⟩ (Nat.le_of_ble_eq_true rfl) (by simp only [go_sem]) (by simp only [go_sem]) fun q => ?_
  obtain ⟨⟨q, out⟩, hq, hs⟩ := q
  dsimp only at hq hs
  simp only [go_sem]
  by_cases hz : q = 0
  · subst hz
    have e1 : decide (((0 : Nat) : Int) > 0) = false := rfl
    rw [mkD, dif_pos rfl] at hq
    simp only [go_sem, e1]
    have e : (⟨#[109]⟩ : ByteArray).size = 1 := rfl
    unfold mkS
    rw [← hq]
    exact ⟨by omega, rfl⟩
  · have e1 : decide ((q : Int) > 0) = true := by simp; omega
    have e2 : (q : Int).tmod 10 = (q % 10 : Nat) := by rw [Int.tmod_eq_emod_of_nonneg (by omega)]; omega
    have e3 : (q : Int).tdiv 10 = (q / 10 : Nat) := by rw [Int.tdiv_eq_ediv_of_nonneg (by omega)]; omega
    have e4 : IntKind.wrap .i64 ((48 : Int) + (q % 10 : Nat)) = (48 + q % 10 : Nat) := by rw [wrap64O (by omega) (by omega)]; omega
    have e5 : IntKind.wrap .u8 ((48 + q % 10 : Nat) : Int) = (48 + q % 10 : Nat) := by
      show ((48 + q % 10 : Nat) : Int) % 256 = _
      omega
    have e6 : IntKind.wrap .i64 ((q / 10 : Nat) : Int) = (q / 10 : Nat) := wrap64O (by omega) (by omega)
    simp only [go_sem, e1, e2, e3, e4, e5, e6]
    have e7 : (bytes [.int .u8 ((48 + q % 10 : Nat) : Int)]).size = 1 := rfl
    have hq2 : mkD (q / 10) (bytes [.int .u8 ((48 + q % 10 : Nat) : Int)] ++ out) = mkD k ⟨#[]⟩ := by
      rw [← hq]; conv => rhs; rw [mkD, dif_neg hz]
    refine ⟨by decide, by simp [isByte], by omega, by decide, ?_⟩
    exact nextK_of ⟨(q / 10, bytes [.int .u8 ((48 + q % 10 : Nat) : Int)] ++ out), hq2, by rw [ByteArray.size_append]; dsimp only; omega⟩ (by simp only [go_sem]) (by simp only [go_sem]) (by dsimp only; omega)
/-- Marked strings. -/
def mkL (k n : Nat) : List ByteArray := (List.range n).map fun i => mkS (k + i)
theorem mkL_len (k n : Nat) : (mkL k n).length = n := by simp [mkL]
theorem mkL_get {k n i : Nat} (h : i < n) : (mkL k n)[i]? = some (mkS (k + i)) := by simp [mkL, h]
def mkLD (k : Nat) (a : List ByteArray) (i : Nat) : List ByteArray := mkL k i ++ a.drop i
theorem mkLD_len {k : Nat} {a : List ByteArray} {i : Nat} (h : i ≤ a.length) : (mkLD k a i).length = a.length := by simp [mkLD, mkL_len]; omega
theorem mkLD_set {k : Nat} {a : List ByteArray} {i : Nat} (h : i < a.length) : (mkLD k a i).set i (mkS (k + i)) = mkLD k a (i + 1) := by
  unfold mkLD
  have e0 : (mkL k i ++ a.drop i).set i (mkS (k + i)) = mkL k i ++ (a.drop i).set 0 (mkS (k + i)) := by simp [List.set_append, mkL_len]
  rw [e0]
  have e : mkL k (i + 1) = mkL k i ++ [mkS (k + i)] := by simp [mkL, List.range_succ]
  rw [e, List.append_assoc, List.drop_eq_getElem_cons h]
  rfl
theorem flat_strs (l : List ByteArray) : flat (l.map T.str) = l.map T.str := by
  induction l with
  | nil => rfl
  | cons x r ih =>
    have e : flat (T.str x :: r.map T.str) = T.str x :: flat (r.map T.str) := rfl
    rw [List.map_cons, e, ih]
theorem sc_strs (l : List ByteArray) : Sc (l.map T.str) := by
  unfold Sc
  rw [flat_strs]
  intro t ht
  obtain ⟨s, _, rfl⟩ := List.mem_map.1 ht
  rfl
theorem e34 (a : List ByteArray) (k : Nat) (ha : a.length ≤ 1048576) (h0 : 0 < k) (hk : k ≤ 549755813888) : CS Try.prog true 34 [.ln 1 (a.map T.str), .v (.int .i64 k)] [.int .i64 (k + a.length : Nat)] [[.arr 1 ((mkL k a.length).map T.str)]] := by
  refine CS_act tab_ok mdE Try.func34 rfl rfl Try.ntmps34 (rl := [.tmp 4]) rfl (Nat.le_of_ble_eq_true rfl) ?_
  simp only [go_sem, List.length_map]
  refine act_loop_of (md := mdE) tab_ok [0,1,5] [0] 1000 (ι := {i : Nat // i ≤ a.length}) (fun i => ⟨[(0, .a (.c (.own 0 0 0 a.length))), (1, .a (.c (.t (.int .i64 (k + i.1 : Nat))))), (5, .a (.c (.t (.int .i64 i.1))))], [(0, .arr 1 ((mkLD k a i.1).map T.str) 0)], 1000, 20⟩) (fun i => a.length - i.1) ⟨0, by omega⟩ (Nat.le_of_ble_eq_true rfl) (by simp only [go_sem]) (by simp only [go_sem]; rfl) fun i => ?_
  obtain ⟨i, hi⟩ := i
  have hl := mkLD_len (k := k) hi
  simp only [go_sem]
  by_cases hil : i < a.length
  · have e1 : decide ((i : Int) < a.length) = true := by simp; omega
    obtain ⟨x, hx⟩ : ∃ x, (mkLD k a i)[i]? = some x := ⟨_, List.getElem?_eq_getElem (by omega)⟩
    have hx' : ((mkLD k a i).map T.str)[i]? = some (.str x) := by rw [List.getElem?_map, hx]; rfl
    simp only [go_sem, e1]
    refine act_callE (e55 (k + i) (by omega) (by omega)) ?_
    simp only [go_sem, hx']
    refine ⟨by omega, by omega, ?_⟩
    refine nextK_of ⟨i + 1, by omega⟩ (by simp only [go_sem]) ?_ (by dsimp only; omega)
    simp only [go_sem]
    rw [wrap64O (n := (i : Int) + 1) (by omega) (by omega), wrap64O (n := ((k + i : Nat) : Int) + 1) (by omega) (by omega), ← mkLD_set hil, List.map_set]
    rfl
  · obtain rfl : i = a.length := by omega
    have e1 : decide ((a.length : Int) < a.length) = false := by simp
    have e2 : mkLD k a a.length = mkL k a.length := by simp [mkLD]
    simp only [go_sem, e1, e2, List.length_map, mkL_len]
    exact sc_strs _
theorem e34e (k : Nat) : CS Try.prog true 34 [.v (.list 1 []), .v (.int .i64 k)] [.int .i64 k] [] := by
  refine CS_act tab_ok mdE Try.func34 rfl rfl Try.ntmps34 (rl := [.tmp 4]) rfl (Nat.le_of_ble_eq_true rfl) ?_
  simp only [go_sem]
  refine act_loop_of (md := mdE) tab_ok [0,1,5] [] 1000 (ι := Unit) (fun _ => ⟨[(0, .a (.c (.t (.list 1 [])))), (1, .a (.c (.t (.int .i64 k)))), (5, .a (.c (.t (.int .i64 0))))], [], 1000, 20⟩) (fun _ => 0) () (Nat.le_of_ble_eq_true rfl) (by simp only [go_sem]) (by simp only [go_sem]) fun _ => ?_
  have e1 : decide ((0 : Int) < (0 : Nat)) = false := rfl
  simp only [go_sem, e1]
theorem e36 (k n : Nat) (hn : n ≤ 1048576) (h0 : 0 < k) (hk : k ≤ 549755813888) : CS Try.prog false 36 [.v (strs (mkL k n)), .v (.int .i64 k)] [.int .i64 (k + n : Nat)] [] := by
  refine CS_act tab_ok mdE Try.func36 rfl rfl Try.ntmps36 (rl := [.tmp 4]) rfl (Nat.le_of_ble_eq_true rfl) ?_
  simp only [go_sem, strs]
  refine act_loop_of (md := mdE) tab_ok [0,1,5] [] 1000 (ι := {i : Nat // i ≤ n}) (fun i => ⟨[(0, .a (.c (.t (.list 1 ((mkL k n).map T.str))))), (1, .a (.c (.t (.int .i64 (k + i.1 : Nat))))), (5, .a (.c (.t (.int .i64 i.1))))], [], 1000, 22⟩) (fun i => n - i.1) ⟨0, by omega⟩ (Nat.le_of_ble_eq_true rfl) (by simp only [go_sem]) (by simp only [go_sem]; rfl) fun i => ?_
  obtain ⟨i, hi⟩ := i
  simp only [go_sem, List.length_map, mkL_len]
  by_cases hil : i < n
  · have e1 : decide ((i : Int) < n) = true := by simp; omega
    have hx : ((mkL k n).map T.str)[i]? = some (.str (mkS (k + i))) := by rw [List.getElem?_map, mkL_get hil]; rfl
    simp only [go_sem, e1]
    refine act_draw_of tab_ok mix mdE ?_
    simp only [go_sem, hx, List.length_map, mkL_len]
    refine ⟨by omega, by omega, ?_⟩
    refine act_callE (e55 (k + i) (by omega) (by omega)) ?_
    simp only [go_sem, beq_self_eq_true]
    refine ⟨drawOk_of (by kernel_rfl), ?_⟩
    refine nextK_of ⟨i + 1, by omega⟩ (by simp only [go_sem]) ?_ (by dsimp only; omega)
    simp only [go_sem]
    rw [wrap64O (n := (i : Int) + 1) (by omega) (by omega), wrap64O (n := ((k + i : Nat) : Int) + 1) (by omega) (by omega)]
    rfl
  · obtain rfl : i = n := by omega
    have e1 : decide ((i : Int) < i) = false := by simp
    simp only [go_sem, e1]
theorem e28 (a : List ByteArray) (ha : a.length ≤ 1048576) : CS Try.prog true 28 [.v (strs a)] [strs a] [] := by
  refine CS_act tab_ok mdE Try.func28 rfl rfl Try.ntmps28 (rl := [.tmp 2]) rfl (Nat.le_of_ble_eq_true rfl) ?_
  simp only [go_sem, strs, List.length_map]
  refine ⟨by omega, by omega, by omega, by omega, ?_⟩
  refine act_loop_of (md := mdE) tab_ok [0,3,4] [48] 1000 (ι := {i : Nat // i ≤ a.length}) (fun i => ⟨[(0, .a (.c (.t (.list 1 (a.map T.str))))), (3, .a (.c (.own 48 0 0 a.length))), (4, .a (.c (.t (.int .i64 i.1))))], [(48, .arr 1 ((a.take i.1).map T.str ++ List.replicate (a.length - i.1) (.str ⟨#[]⟩)) 0)], 1000, 22⟩) (fun i => a.length - i.1) ⟨0, by omega⟩ (Nat.le_of_ble_eq_true rfl) (by simp only [go_sem]) (by simp only [go_sem]; simp) fun i => ?_
  obtain ⟨i, hi⟩ := i
  simp only [go_sem, List.length_map]
  refine act_split (fun h => ?_) (fun h => ?_) <;> simp only [go_sem] <;> simp only [decide_eq_true_eq, decide_eq_false_iff_not] at h
  · obtain ⟨x, hx⟩ : ∃ x, a[i]? = some x := ⟨_, List.getElem?_eq_getElem (by omega)⟩
    have hg := fill_get T.str (.str ⟨#[]⟩) a i (by omega)
    simp only [go_sem, List.getElem?_map, hx, List.length_map, hg]
    refine ⟨by omega, by omega, by omega, by omega, ?_⟩
    refine nextK_of ⟨i + 1, by omega⟩ (by simp only [go_sem]) ?_ (by dsimp only; omega)
    simp only [go_sem]
    rw [wrap64O (by omega) (by omega), fill_set T.str _ a i x hx]; rfl
  · have : i = a.length := by omega
    subst this
    simp
    rw [List.take_of_length_le (by simp)]
    exact ⟨sc_strs _, rfl⟩
end Go.Proofs.Ytjpcicjkbbbpiaa.M

/- Contracts for ObjOk, part 2: the size of lists of strings. No condition. -/
namespace Go.Proofs.Ytjpcicjkbbbpiaa.M
open Go Go.Proofs
set_option maxRecDepth 100000
set_option maxHeartbeats 2000000
set_option linter.unusedSimpArgs false
/-- What is left of a measure, or -1. -/
def szF : Int → List Nat → Int
  | left, [] => left
  | left, n :: r => if left - n < 0 then -1 else szF (left - n) r
theorem oc51 (a : List ByteArray) (left : Int) (h0 : 0 ≤ left) (h1 : left ≤ 1048576) (hl : a.length ≤ 9223372036854775807) (hs : ∀ s ∈ a, s.size ≤ 9223372036854775807) :
    CS Try.prog false 24 [.v (strs a), .v (.int .i64 left)] [.int .i64 (szF left (a.length :: a.map (·.size)))] [] := by
  refine CS_act tab_ok mdO Try.func24 rfl rfl Try.ntmps24 (rl := [.tmp 4]) rfl (Nat.le_of_ble_eq_true rfl) ?_
  simp only [go_sem, strs, List.length_map, wrap64O (n := left - a.length) (by omega) (by omega)]
  refine act_split (fun h => ?_) (fun h => ?_) <;> simp only [go_sem] <;> simp only [decide_eq_true_eq, decide_eq_false_iff_not] at h
  · simp [szF, h]
  refine act_loop_of (md := mdO) tab_ok [0,1,5] [] 1000 (ι := {p : Nat × Int // p.1 ≤ a.length ∧ 0 ≤ p.2 ∧ p.2 ≤ 1048576 ∧ szF p.2 ((a.map (·.size)).drop p.1) = szF (left - a.length) (a.map (·.size))})
    (fun p => ⟨[(0, .a (.c (.t (.list 1 (a.map T.str))))), (1, .a (.c (.t (.int .i64 p.1.2)))), (5, .a (.c (.t (.int .i64 p.1.1))))], [], 1000, 28⟩) (fun p => a.length - p.1.1) ⟨(0, left - a.length), by omega, by omega, by omega, rfl⟩ (Nat.le_of_ble_eq_true rfl) (by simp only [go_sem]) (by simp only [go_sem]; rfl) fun p => ?_
  obtain ⟨⟨i, l⟩, hi, hl0, hl1, hz⟩ := p
  simp only [go_sem, List.length_map]
  refine act_split (fun h2 => ?_) (fun h2 => ?_) <;> simp only [go_sem] <;> simp only [decide_eq_true_eq, decide_eq_false_iff_not] at h2
  · obtain ⟨x, hx⟩ : ∃ x, a[i]? = some x := ⟨_, List.getElem?_eq_getElem (by omega)⟩
    have hxs := hs x (List.mem_of_getElem? hx)
    have hd : (a.map (·.size)).drop i = x.size :: (a.map (·.size)).drop (i + 1) := by
      rw [List.drop_eq_getElem_cons (by simp; omega)]
      have : a[i]'(by omega) = x := by
        rw [List.getElem?_eq_getElem (by omega)] at hx; exact Option.some.inj hx
      simp [this]
    rw [hd, szF] at hz
    simp only [go_sem, List.getElem?_map, hx, List.length_map]
    refine ⟨by omega, by omega, ?_⟩
    rw [wrap64O (n := l - x.size) (by omega) (by omega)]
    refine act_split (fun h3 => ?_) (fun h3 => ?_) <;> simp only [go_sem] <;> simp only [decide_eq_true_eq, decide_eq_false_iff_not] at h3
    · rw [if_pos h3] at hz
      simp only [szF, if_neg h, ← hz]
    · rw [if_neg h3] at hz
      refine nextK_of ⟨(i + 1, l - x.size), by omega, by omega, by omega, hz⟩ (by simp only [go_sem]) ?_ (by dsimp only; omega)
      simp only [go_sem]
      rw [wrap64O (by omega) (by omega)]; rfl
  · have : i = a.length := by omega
    subst this
    rw [List.drop_of_length_le (by simp), szF] at hz
    simp only [szF, if_neg h, ← hz]
end Go.Proofs.Ytjpcicjkbbbpiaa.M

/- Contracts for ObjOk, part 3: a list of strings against itself. No condition. -/
namespace Go.Proofs.Ytjpcicjkbbbpiaa.M
open Go Go.Proofs
set_option maxRecDepth 100000
set_option maxHeartbeats 2000000
set_option linter.unusedSimpArgs false
theorem oc59 (a : List ByteArray) (ha : a.length ≤ 1048576) : CS Try.prog false 32 [.v (strs a), .v (strs a)] [.bool true] [] := by
  refine CS_act tab_ok mdO Try.func32 rfl rfl Try.ntmps32 (rl := [.tmp 4]) rfl (Nat.le_of_ble_eq_true rfl) ?_
  simp only [go_sem, strs, List.length_map, bne_self_eq_false]
  refine act_loop_of (md := mdO) tab_ok [0,1,5] [] 1000 (ι := {i : Nat // i ≤ a.length}) (fun i => ⟨[(0, .a (.c (.t (.list 1 (a.map T.str))))), (1, .a (.c (.t (.list 1 (a.map T.str))))), (5, .a (.c (.t (.int .i64 i.1))))], [], 1000, 26⟩) (fun i => a.length - i.1) ⟨0, by omega⟩ (Nat.le_of_ble_eq_true rfl) (by simp only [go_sem]) (by simp only [go_sem]; rfl) fun i => ?_
  obtain ⟨i, hi⟩ := i
  simp only [go_sem, List.length_map]
  refine act_split (fun h => ?_) (fun h => ?_) <;> simp only [go_sem] <;> simp only [decide_eq_true_eq, decide_eq_false_iff_not] at h
  obtain ⟨x, hx⟩ : ∃ x, a[i]? = some x := ⟨_, List.getElem?_eq_getElem (by omega)⟩
  refine act_draw_of tab_ok mix mdO ?_
  simp only [go_sem, List.getElem?_map, hx, List.length_map, beq_self_eq_true]
  refine ⟨by omega, by omega, by omega, by omega, drawOk_of (by kernel_rfl), ?_⟩
  refine nextK_of ⟨i + 1, by omega⟩ (by simp only [go_sem]) ?_ (by dsimp only; omega)
  simp only [go_sem]
  rw [wrap64O (by omega) (by omega)]; rfl
end Go.Proofs.Ytjpcicjkbbbpiaa.M

/- Contracts for ObjOk, part 4: trees, and their copies. No condition. -/
namespace Go.Proofs.Ytjpcicjkbbbpiaa.M
open Go Go.Proofs
set_option maxRecDepth 100000
set_option maxHeartbeats 2000000
set_option linter.unusedSimpArgs false
inductive Ob where
  | mk (kind num : Int) (text : ByteArray) (keys : List ByteArray) (kids : List Ob)
def Ob.t : Ob → T
  | .mk k n s ks kids => .agg [.int .i64 k, .int .i64 n, .str s, strs ks, .list 5 (kids.map Ob.t)]
def obs (l : List Ob) : T := .list 5 (l.map Ob.t)
theorem oc21 (k n : Int) (s : ByteArray) (ks : List ByteArray) (kids : List Ob) (h1 : ks.length ≤ 1048576) (h : CS Try.prog false 29 [.v (obs kids)] [obs kids] []) :
    CS Try.prog false 8 [.v (Ob.mk k n s ks kids).t] [(Ob.mk k n s ks kids).t] [] := by
  have e : (Ob.mk k n s ks kids).t = .agg [.int .i64 k, .int .i64 n, .str s, strs ks, obs kids] := by rw [Ob.t]; rfl
  rw [e]
  refine CS_act tab_ok mdO Try.func8 rfl rfl Try.ntmps8 (rl := [.cell 2 29]) rfl (Nat.le_of_ble_eq_true rfl) ?_
  simp only [go_sem, strs, obs]
  refine act_callE (oc55 ks h1) ?_
  simp only [go_sem, strs, obs]
  refine act_callE h ?_
  simp only [go_sem, strs, obs]
end Go.Proofs.Ytjpcicjkbbbpiaa.M

/- Contracts for ObjOk, part 5: copies of lists of trees. No condition. -/
namespace Go.Proofs.Ytjpcicjkbbbpiaa.M
open Go Go.Proofs
set_option maxRecDepth 100000
set_option maxHeartbeats 2000000
set_option linter.unusedSimpArgs false
theorem Ob.t_mk (k n : Int) (s : ByteArray) (ks : List ByteArray) (kids : List Ob) : (Ob.mk k n s ks kids).t = .agg [.int .i64 k, .int .i64 n, .str s, .list 1 (ks.map T.str), .list 5 (kids.map Ob.t)] := by rw [Ob.t]; rfl
abbrev ob0 : T := .agg [.int .i64 0, .int .i64 0, .str ⟨#[]⟩, .list 1 [], .list 5 []]
theorem oc56 (a : List Ob) (ha : a.length ≤ 1048576) (h : ∀ o ∈ a, CS Try.prog false 8 [.v o.t] [o.t] []) : CS Try.prog false 29 [.v (obs a)] [obs a] [] := by
  refine CS_act tab_ok mdO Try.func29 rfl rfl Try.ntmps29 (rl := [.tmp 2]) rfl (Nat.le_of_ble_eq_true rfl) ?_
  simp only [go_sem, obs, List.length_map]
  refine ⟨by omega, by omega, by omega, by omega, ?_⟩
  refine act_loop_of (md := mdO) tab_ok [0,3,4] [48] 1000 (ι := {i : Nat // i ≤ a.length}) (fun i => ⟨[(0, .a (.c (.t (.list 5 (a.map Ob.t))))), (3, .a (.c (.own 48 0 0 a.length))), (4, .a (.c (.t (.int .i64 i.1))))], [(48, .arr 5 ((a.take i.1).map Ob.t ++ List.replicate (a.length - i.1) ob0) 0)], 1000, 23⟩) (fun i => a.length - i.1) ⟨0, by omega⟩ (Nat.le_of_ble_eq_true rfl) (by simp only [go_sem]) (by simp only [go_sem]; simp) fun i => ?_
  obtain ⟨i, hi⟩ := i
  simp only [go_sem, List.length_map]
  refine act_split (fun h2 => ?_) (fun h2 => ?_) <;> simp only [go_sem] <;> simp only [decide_eq_true_eq, decide_eq_false_iff_not] at h2
  · obtain ⟨x, hx⟩ : ∃ x, a[i]? = some x := ⟨_, List.getElem?_eq_getElem (by omega)⟩
    have hc := h x (List.mem_of_getElem? hx)
    have hg := fill_get Ob.t ob0 a i (by omega)
    have hf := fill_set Ob.t ob0 a i x hx
    obtain ⟨k, n, s, ks, kids⟩ := x
    rw [Ob.t_mk] at hc hf
    simp only [go_sem, List.getElem?_map, hx, List.length_map, hg, Ob.t_mk]
    refine ⟨by omega, by omega, ?_⟩
    refine act_callE hc ?_
    simp only [go_sem, List.length_append, List.length_map, hg]
    refine ⟨by omega, by omega, ?_⟩
    refine nextK_of ⟨i + 1, by omega⟩ (by simp only [go_sem]) ?_ (by dsimp only; omega)
    simp only [go_sem]
    rw [wrap64O (by omega) (by omega), hf]; rfl
  · have : i = a.length := by omega
    subst this
    simp
    exact List.take_of_length_le (by simp)
end Go.Proofs.Ytjpcicjkbbbpiaa.M

/- Contracts for ObjOk, part 6: copies of trees. No condition. -/
namespace Go.Proofs.Ytjpcicjkbbbpiaa.M
open Go Go.Proofs
set_option linter.unusedSimpArgs false
/-- A tree whose lists are not long. -/
inductive Sm : Ob → Prop where
  | mk (k n : Int) (s : ByteArray) (ks : List ByteArray) (kids : List Ob) (h1 : ks.length ≤ 1048576) (h2 : kids.length ≤ 1048576) (h3 : ∀ o ∈ kids, Sm o) : Sm (.mk k n s ks kids)
theorem oc21' : ∀ o : Ob, Sm o → CS Try.prog false 8 [.v o.t] [o.t] []
  | .mk k n s ks kids, h => by
    cases h with
    | mk _ _ _ _ _ h1 h2 h3 => exact oc21 k n s ks kids h1 (oc56 kids h2 fun o ho => oc21' o (h3 o ho))
  decreasing_by
  have := List.sizeOf_lt_of_mem ho
  simp only [Ob.mk.sizeOf_spec]
  omega
end Go.Proofs.Ytjpcicjkbbbpiaa.M

/- Contracts for ObjOk, part 7: a tree against itself. No condition. -/
namespace Go.Proofs.Ytjpcicjkbbbpiaa.M
open Go Go.Proofs
set_option maxRecDepth 100000
set_option maxHeartbeats 2000000
set_option linter.unusedSimpArgs false
theorem oc23 (k n : Int) (s : ByteArray) (ks : List ByteArray) (kids : List Ob) (h1 : ks.length ≤ 1048576) (h : CS Try.prog false 33 [.v (obs kids), .v (obs kids)] [.bool true] []) :
    CS Try.prog false 10 [.v (Ob.mk k n s ks kids).t, .v (Ob.mk k n s ks kids).t] [.bool true] [] := by
  rw [Ob.t_mk]
  refine CS_act tab_ok mdO Try.func10 rfl rfl Try.ntmps10 (rl := [.tmp 4]) rfl (Nat.le_of_ble_eq_true rfl) ?_
  simp only [go_sem, bne_self_eq_false, beq_self_eq_true]
  refine act_callE (oc59 ks h1) ?_
  simp only [go_sem]
  refine act_callE h ?_
  simp only [go_sem]
end Go.Proofs.Ytjpcicjkbbbpiaa.M

/- Contracts for ObjOk, part 8: lists of trees against themselves. No condition. -/
namespace Go.Proofs.Ytjpcicjkbbbpiaa.M
open Go Go.Proofs
set_option maxRecDepth 100000
set_option maxHeartbeats 2000000
set_option linter.unusedSimpArgs false
theorem oc60 (a : List Ob) (ha : a.length ≤ 1048576) (hh : ∀ o ∈ a, CS Try.prog false 10 [.v o.t, .v o.t] [.bool true] []) : CS Try.prog false 33 [.v (obs a), .v (obs a)] [.bool true] [] := by
  refine CS_act tab_ok mdO Try.func33 rfl rfl Try.ntmps33 (rl := [.tmp 4]) rfl (Nat.le_of_ble_eq_true rfl) ?_
  simp only [go_sem, obs, List.length_map, bne_self_eq_false]
  refine act_loop_of (md := mdO) tab_ok [0,1,5] [] 1000 (ι := {i : Nat // i ≤ a.length}) (fun i => ⟨[(0, .a (.c (.t (.list 5 (a.map Ob.t))))), (1, .a (.c (.t (.list 5 (a.map Ob.t))))), (5, .a (.c (.t (.int .i64 i.1))))], [], 1000, 27⟩) (fun i => a.length - i.1) ⟨0, by omega⟩ (Nat.le_of_ble_eq_true rfl) (by simp only [go_sem]) (by simp only [go_sem]; rfl) fun i => ?_
  obtain ⟨i, hi⟩ := i
  simp only [go_sem, List.length_map]
  refine act_split (fun h => ?_) (fun h => ?_) <;> simp only [go_sem] <;> simp only [decide_eq_true_eq, decide_eq_false_iff_not] at h
  obtain ⟨x, hx⟩ : ∃ x, a[i]? = some x := ⟨_, List.getElem?_eq_getElem (by omega)⟩
  have hc := hh x (List.mem_of_getElem? hx)
  obtain ⟨k, n, s, ks, kids⟩ := x
  rw [Ob.t_mk] at hc
  refine act_draw_of tab_ok mix mdO ?_
  simp only [go_sem, List.getElem?_map, hx, List.length_map, Ob.t_mk]
  refine ⟨by omega, by omega, by omega, by omega, ?_⟩
  refine act_callE hc ?_
  simp only [go_sem]
  refine ⟨drawOk_of (by kernel_rfl), ?_⟩
  refine nextK_of ⟨i + 1, by omega⟩ (by simp only [go_sem]) ?_ (by dsimp only; omega)
  simp only [go_sem]
  rw [wrap64O (by omega) (by omega)]; rfl
theorem oc23' : ∀ o : Ob, Sm o → CS Try.prog false 10 [.v o.t, .v o.t] [.bool true] []
  | .mk k n s ks kids, h => by
    cases h with
    | mk _ _ _ _ _ h1 h2 h3 => exact oc23 k n s ks kids h1 (oc60 kids h2 fun o ho => oc23' o (h3 o ho))
  decreasing_by
  have := List.sizeOf_lt_of_mem ho
  simp only [Ob.mk.sizeOf_spec]
  omega
end Go.Proofs.Ytjpcicjkbbbpiaa.M

/- Contracts for ObjOk, part 9: the size of trees. No condition. -/
namespace Go.Proofs.Ytjpcicjkbbbpiaa.M
open Go Go.Proofs
set_option maxRecDepth 100000
set_option maxHeartbeats 2000000
set_option linter.unusedSimpArgs false
mutual
def szO : Ob → Int → Int
  | .mk _ _ s ks kids, left => if left - s.size < 0 then -1 else if szF (left - s.size) (ks.length :: ks.map (·.size)) < 0 then -1 else
    if szF (left - s.size) (ks.length :: ks.map (·.size)) - kids.length < 0 then -1 else szL kids (szF (left - s.size) (ks.length :: ks.map (·.size)) - kids.length)
def szL : List Ob → Int → Int
  | [], left => left
  | o :: r, left => if szO o left < 0 then -1 else szL r (szO o left)
end
theorem szF_le : ∀ (l : List Nat) (left : Int), 0 ≤ left → szF left l ≤ left
  | [], left, _ => by simp [szF]
  | n :: r, left, h => by
    rw [szF]
    split
    · omega
    · have := szF_le r (left - n) (by omega); omega
def szS (l : List Ob) (left : Int) : Int := if left - l.length < 0 then -1 else szL l (left - l.length)
theorem szO_mk (k n : Int) (s : ByteArray) (ks : List ByteArray) (kids : List Ob) (left : Int) : szO (.mk k n s ks kids) left = if left - s.size < 0 then -1 else if szF (left - s.size) (ks.length :: ks.map (·.size)) < 0 then -1 else szS kids (szF (left - s.size) (ks.length :: ks.map (·.size))) := by rw [szO, szS]
theorem szL_neg : ∀ (l : List Ob) (left : Int), 0 ≤ left → szL l left = -1 ∨ 0 ≤ szL l left
  | [], left, h => by rw [szL]; exact .inr h
  | o :: r, left, h => by
    rw [szL]
    split
    · exact .inl rfl
    · exact szL_neg r _ (by omega)
theorem szS_neg (l : List Ob) (left : Int) (h : szS l left < 0) : szS l left = -1 := by
  unfold szS at h ⊢
  split
  · rfl
  · rename_i h2
    rw [if_neg h2] at h
    rcases szL_neg l (left - l.length) (by omega) with h3 | h3
    · exact h3
    · omega
theorem oc19 (k n : Int) (s : ByteArray) (ks : List ByteArray) (kids : List Ob) (left : Int) (h0 : 0 ≤ left) (h1 : left ≤ 1048576) (hs : s.size ≤ 9223372036854775807) (hl : ks.length ≤ 9223372036854775807) (hk : ∀ s ∈ ks, s.size ≤ 9223372036854775807)
    (h : ∀ l : Int, 0 ≤ l → l ≤ 1048576 → CS Try.prog false 25 [.v (obs kids), .v (.int .i64 l)] [.int .i64 (szS kids l)] []) :
    CS Try.prog false 6 [.v (Ob.mk k n s ks kids).t, .v (.int .i64 left)] [.int .i64 (szO (.mk k n s ks kids) left)] [] := by
  rw [Ob.t_mk, szO_mk]
  refine CS_act tab_ok mdO Try.func6 rfl rfl Try.ntmps6 (rl := [.tmp 4]) rfl (Nat.le_of_ble_eq_true rfl) ?_
  simp only [go_sem, wrap64O (n := left - s.size) (by omega) (by omega)]
  refine act_split (fun h2 => ?_) (fun h2 => ?_) <;> simp only [go_sem] <;> simp only [decide_eq_true_eq, decide_eq_false_iff_not] at h2
  · rw [if_pos h2]
  rw [if_neg h2]
  have hle := szF_le (ks.length :: ks.map (·.size)) (left - s.size) (by omega)
  refine act_callE (oc51 ks _ (by omega) (by omega) hl hk) ?_
  simp only [go_sem]
  refine act_split (fun h3 => ?_) (fun h3 => ?_) <;> simp only [go_sem] <;> simp only [decide_eq_true_eq, decide_eq_false_iff_not] at h3
  · rw [if_pos h3]
  rw [if_neg h3]
  refine act_callE (h _ (by omega) (by omega)) ?_
  simp only [go_sem]
  refine act_split (fun h4 => ?_) (fun h4 => ?_) <;> simp only [go_sem] <;> simp only [decide_eq_true_eq, decide_eq_false_iff_not] at h4
  rw [szS_neg _ _ h4]
end Go.Proofs.Ytjpcicjkbbbpiaa.M

/- Contracts for ObjOk, part 10: the size of lists of trees. No condition. -/
namespace Go.Proofs.Ytjpcicjkbbbpiaa.M
open Go Go.Proofs
set_option maxRecDepth 100000
set_option maxHeartbeats 2000000
set_option linter.unusedSimpArgs false
theorem szO_le : ∀ (l : List Ob) (left : Int), 0 ≤ left → (∀ o ∈ l, ∀ x : Int, 0 ≤ x → szO o x ≤ x) → szL l left ≤ left
  | [], left, h, _ => by rw [szL]; omega
  | o :: r, left, h, ho => by
    rw [szL]
    split
    · omega
    · have h1 := ho o (by simp) left h
      have := szO_le r (szO o left) (by omega) fun o' h' => ho o' (by simp [h'])
      omega
theorem oc52 (a : List Ob) (left : Int) (h0 : 0 ≤ left) (h1 : left ≤ 1048576) (hl : a.length ≤ 9223372036854775807) (hle : ∀ o ∈ a, ∀ x : Int, 0 ≤ x → szO o x ≤ x)
    (hh : ∀ o ∈ a, ∀ x : Int, 0 ≤ x → x ≤ 1048576 → CS Try.prog false 6 [.v o.t, .v (.int .i64 x)] [.int .i64 (szO o x)] []) :
    CS Try.prog false 25 [.v (obs a), .v (.int .i64 left)] [.int .i64 (szS a left)] [] := by
  refine CS_act tab_ok mdO Try.func25 rfl rfl Try.ntmps25 (rl := [.tmp 4]) rfl (Nat.le_of_ble_eq_true rfl) ?_
  simp only [go_sem, obs, List.length_map, wrap64O (n := left - a.length) (by omega) (by omega)]
  refine act_split (fun h => ?_) (fun h => ?_) <;> simp only [go_sem] <;> simp only [decide_eq_true_eq, decide_eq_false_iff_not] at h
  · simp [szS, h]
  refine act_loop_of (md := mdO) tab_ok [0,1,5] [] 1000 (ι := {p : Nat × Int // p.1 ≤ a.length ∧ 0 ≤ p.2 ∧ p.2 ≤ 1048576 ∧ szL (a.drop p.1) p.2 = szS a left})
    (fun p => ⟨[(0, .a (.c (.t (.list 5 (a.map Ob.t))))), (1, .a (.c (.t (.int .i64 p.1.2)))), (5, .a (.c (.t (.int .i64 p.1.1))))], [], 1000, 27⟩) (fun p => a.length - p.1.1) ⟨(0, left - a.length), by omega, by omega, by omega, by simp [szS, h]⟩ (Nat.le_of_ble_eq_true rfl) (by simp only [go_sem]) (by simp only [go_sem]; rfl) fun p => ?_
  obtain ⟨⟨i, l⟩, hi, hl0, hl1, hz⟩ := p
  simp only [go_sem, List.length_map]
  refine act_split (fun h2 => ?_) (fun h2 => ?_) <;> simp only [go_sem] <;> simp only [decide_eq_true_eq, decide_eq_false_iff_not] at h2
  · obtain ⟨x, hx⟩ : ∃ x, a[i]? = some x := ⟨_, List.getElem?_eq_getElem (by omega)⟩
    have hc := hh x (List.mem_of_getElem? hx) l hl0 hl1
    have hxl := hle x (List.mem_of_getElem? hx) l hl0
    have hd : a.drop i = x :: a.drop (i + 1) := by
      rw [List.drop_eq_getElem_cons (by omega)]
      rw [List.getElem?_eq_getElem (by omega)] at hx; rw [Option.some.inj hx]
    dsimp only at hz
    rw [hd, szL] at hz
    generalize szO x l = y at hc hxl hz
    obtain ⟨k, n, s, ks, kids⟩ := x
    rw [Ob.t_mk] at hc
    simp only [go_sem, List.getElem?_map, hx, List.length_map, Ob.t_mk]
    refine ⟨by omega, by omega, ?_⟩
    refine act_callE hc ?_
    simp only [go_sem]
    refine act_split (fun h3 => ?_) (fun h3 => ?_) <;> simp only [go_sem] <;> simp only [decide_eq_true_eq, decide_eq_false_iff_not] at h3
    · rw [if_pos h3] at hz
      rw [← hz]
    · rw [if_neg h3] at hz
      refine nextK_of ⟨(i + 1, y), by omega, by omega, by omega, hz⟩ (by simp only [go_sem]) ?_ (by dsimp only; omega)
      simp only [go_sem]
      rw [wrap64O (by omega) (by omega)]; rfl
  · have : i = a.length := by omega
    subst this
    dsimp only at hz
    rw [List.drop_length, szL] at hz
    rw [← hz]
end Go.Proofs.Ytjpcicjkbbbpiaa.M

/- Contracts: WordOk and what it calls (results as views). No condition. -/
namespace Go.Proofs.Ytjpcicjkbbbpiaa.M
open Go Go.Proofs
set_option maxRecDepth 100000
set_option maxHeartbeats 2000000
set_option linter.unusedSimpArgs false
attribute [go_sem] beq_false
theorem act_split_notO {c : Bool} {A B : Prop} {a : Shut A} {b : Shut B} (h1 : c = false → act A) (h2 : c = true → act B) : act (brK (!c) A B a b) :=
  ⟨fun h => h1 (by simpa using h), fun h => h2 (by simpa using h)⟩
def inBO (x l m : Int) : Bool := decide (x ≥ l) && decide (x ≤ m)
theorem oc44 (x l m : Int) : CS Try.prog false 65 [.v (.int .i64 x), .v (.int .i64 l), .v (.int .i64 m)] [.bool (inBO x l m)] [] := by
  refine CS_act tab_ok mdO Try.func65 rfl rfl Try.ntmps65 (rl := [.tmp 6]) rfl (Nat.le_of_ble_eq_true rfl) ?_
  simp only [go_sem]
  refine act_split (fun h => ?_) (fun h => ?_) <;> simp only [go_sem, h, inBO]
theorem oc45 (x l m : Int) : CS Try.prog false 75 [.v (.int .i64 x), .v (.int .i64 l), .v (.int .i64 m)] [.bool (inBO x l m)] [] := by
  refine CS_act tab_ok mdO Try.func75 rfl rfl Try.ntmps75 (rl := [.tmp 6]) rfl (Nat.le_of_ble_eq_true rfl) ?_
  simp only [go_sem]
  refine act_split (fun h => ?_) (fun h => ?_) <;> simp only [go_sem, h, inBO]
  all_goals simp_all [inBO]
def markB (x : Int) : Bool := x == 40 || x == 41 || x == 60 || x == 62 || x == 91 || x == 93 || x == 123 || x == 125 || x == 47 || x == 37
theorem oc90 (x : Int) : CS Try.prog false 81 [.v (.int .u8 x)] [.bool (markB x)] [] := by
  refine CS_act tab_ok mdO Try.func81 rfl rfl Try.ntmps81 (rl := [.tmp 2]) rfl (Nat.le_of_ble_eq_true rfl) ?_
  simp only [go_sem]
  repeat' (first | (refine act_split_notO (fun h => ?_) (fun h => ?_) <;> simp only [go_sem, h]) | (refine act_split (fun h => ?_) (fun h => ?_) <;> simp only [go_sem, h]))
  all_goals simp_all [markB]
theorem oc116 (s : ByteArray) (c : Int) : CS Try.prog false 85 [.v (.str s), .v (.int .u8 c)] [.int .i64 (Lib.indexByte s.data.toList c.toNat.toUInt8)] [] :=
  CS_indexByteString Try.func85 (by kernel_rfl) (by kernel_rfl) (by kernel_rfl) (by kernel_rfl) s c
theorem oc110 (s : ByteArray) (c : Int) : CS Try.prog false 84 [.v (.str s), .v (.int .u8 c)] [.int .i64 (Lib.indexByte s.data.toList c.toNat.toUInt8)] [] := by
  refine CS_act tab_ok mdO Try.func84 rfl rfl Try.ntmps84 (rl := [.tmp 4]) rfl (Nat.le_of_ble_eq_true rfl) ?_
  simp only [go_sem]
  refine act_callE (oc116 _ _) ?_
  simp only [go_sem]
theorem oc91 (s : ByteArray) (c : Int) : CS Try.prog false 83 [.v (.str s), .v (.int .u8 c)] [.int .i64 (Lib.indexByte s.data.toList c.toNat.toUInt8)] [] := by
  refine CS_act tab_ok mdO Try.func83 rfl rfl Try.ntmps83 (rl := [.tmp 4]) rfl (Nat.le_of_ble_eq_true rfl) ?_
  simp only [go_sem]
  refine act_callE (oc110 _ _) ?_
  simp only [go_sem]
def plainB (x : Int) : Bool := inBO x 33 126 && !markB x
theorem oc49 (x : Int) : CS Try.prog false 76 [.v (.int .u8 x)] [.bool (plainB x)] [] := by
  refine CS_act tab_ok mdO Try.func76 rfl rfl Try.ntmps76 (rl := [.tmp 2]) rfl (Nat.le_of_ble_eq_true rfl) ?_
  simp only [go_sem]
  refine act_split (fun h => ?_) (fun h => ?_) <;> simp only [go_sem, h]
  · refine act_split (fun h2 => ?_) (fun h2 => ?_) <;> simp only [go_sem, h2]
    · refine act_callE (oc90 _) ?_
      simp only [go_sem]
      simp_all [plainB, inBO]
    · simp_all [plainB, inBO]; intros; omega
  · simp_all [plainB, inBO]; intros; omega
theorem mark_eq (x : Int) (h0 : 0 ≤ x) (h1 : x < 256) : decide (Lib.indexByte [40, 41, 60, 62, 91, 93, 123, 125, 47, 37] x.toNat.toUInt8 < 0) = !markB x := by
  obtain ⟨n, rfl⟩ : ∃ n : Nat, x = n := ⟨x.toNat, by omega⟩
  have hn : n < 256 := by omega
  have key : ∀ m : Fin 256, decide (Lib.indexByte [40, 41, 60, 62, 91, 93, 123, 125, 47, 37] (m.val : Int).toNat.toUInt8 < 0) = !markB (m.val : Int) := by decide +kernel
  exact key ⟨n, hn⟩
theorem oc50 (x : Int) (h0 : 0 ≤ x) (h1 : x < 256) : CS Try.prog false 82 [.v (.int .u8 x)] [.bool (plainB x)] [] := by
  refine CS_act tab_ok mdO Try.func82 rfl rfl Try.ntmps82 (rl := [.tmp 2]) rfl (Nat.le_of_ble_eq_true rfl) ?_
  simp only [go_sem, wrap64O (n := x) (by omega) (by omega)]
  refine act_callE (oc45 _ _ _) ?_
  simp only [go_sem]
  refine act_split (fun h => ?_) (fun h => ?_) <;> simp only [go_sem, h]
  · refine act_callE (oc91 _ _) ?_
    simp only [go_sem]
    have := mark_eq x h0 h1
    simp_all [plainB]
  · simp_all [plainB]
attribute [go_sem] Bool.not_not
def bt (s : ByteArray) (j : Nat) : Int := ((s.data.getD j 0).toNat : Int)
theorem bt_lt (s : ByteArray) (j : Nat) : 0 ≤ bt s j ∧ bt s j < 256 := by
  unfold bt; have := (s.data.getD j 0).toNat_lt; omega
def okB (x : Int) : Bool := plainB x && !(x == 35)
def wordB (s : ByteArray) : Bool := inBO s.size 1 40 && (List.range s.size).all fun j => okB (bt s j)
theorem wordB_no {s : ByteArray} {i : Nat} (hi : i < s.size) (h : okB (bt s i) = false) : wordB s = false := by
  unfold wordB
  rw [Bool.and_eq_false_iff]
  right
  rw [List.all_eq_false]
  exact ⟨i, List.mem_range.2 hi, by simp [h]⟩
theorem wordB_yes {s : ByteArray} (h : ∀ j, j < s.size → okB (bt s j) = true) : wordB s = inBO s.size 1 40 := by
  unfold wordB
  rw [List.all_eq_true.2 fun j hj => h j (List.mem_range.1 hj), Bool.and_true]
theorem wordB_long {s : ByteArray} (h : 40 < s.size) : wordB s = inBO s.size 1 40 := by
  have : inBO s.size 1 40 = false := by simp [inBO]; omega
  unfold wordB
  rw [this, Bool.false_and]
theorem oc18 (s : ByteArray) (hs : s.size ≤ 1048576) : CS Try.prog false 77 [.v (.str s)] [.bool (wordB s)] [] := by
  refine CS_act tab_ok mdO Try.func77 rfl rfl Try.ntmps77 (rl := [.tmp 2]) rfl (Nat.le_of_ble_eq_true rfl) ?_
  simp only [go_sem]
  refine act_loop_of (md := mdO) tab_ok [0,5,6] [] 1000 (ι := {i : Nat // i ≤ s.size ∧ ∀ j, j < i → okB (bt s j) = true}) (fun i => ⟨[(0, .a (.c (.t (.str s)))), (5, .a (.c (.t (.int .i64 s.size)))), (6, .a (.c (.t (.int .i64 i.1))))], [], 1000, 24⟩) (fun i => s.size - i.1) ⟨0, by omega, by simp⟩ (Nat.le_of_ble_eq_true rfl) (by simp only [go_sem]) (by simp only [go_sem]; rfl) fun i => ?_
  obtain ⟨i, hi, ht⟩ := i
  have hb := bt_lt s i
  simp only [go_sem]
  refine act_split (fun h => ?_) (fun h => ?_) <;> simp only [go_sem] <;> simp only [decide_eq_true_eq, decide_eq_false_iff_not] at h
  · refine ⟨by omega, by omega, ?_⟩
    have e : ((s.data.getD i 0).toNat : Int) = bt s i := rfl
    simp only [e]
    refine act_callE (oc50 _ hb.1 hb.2) ?_
    simp only [go_sem, e]
    refine act_split (fun h2 => ?_) (fun h2 => ?_) <;> simp only [go_sem, h2, e]
    · refine ⟨by omega, by omega, ?_⟩
      refine act_split (fun h3 => ?_) (fun h3 => ?_) <;> simp only [go_sem]
      · rw [wordB_no (i := i) (by omega) (by simp [okB, h3])]
      · refine nextK_of ⟨i + 1, by omega, fun j hj => ?_⟩ (by simp only [go_sem]) ?_ (by dsimp only; omega)
        · rcases Nat.lt_succ_iff_lt_or_eq.1 hj with hj | rfl
          · exact ht j hj
          · simp [okB, h2, h3]
        · simp only [go_sem]
          rw [wrap64O (by omega) (by omega)]; rfl
    · rw [wordB_no (i := i) (by omega) (by simp [okB, h2])]
  · refine act_callE (oc45 _ _ _) ?_
    simp only [go_sem]
    rw [wordB_yes fun j hj => ht j (by omega)]
theorem oc17 (s : ByteArray) (hs : s.size ≤ 1048576) : CS Try.prog false 71 [.v (.str s)] [.bool (wordB s)] [] := by
  refine CS_act tab_ok mdO Try.func71 rfl rfl Try.ntmps71 (rl := [.tmp 2]) rfl (Nat.le_of_ble_eq_true rfl) ?_
  simp only [go_sem]
  refine act_loop_of (md := mdO) tab_ok [0,3] [] 1000 (ι := {i : Nat // i ≤ s.size ∧ ∀ j, j < i → okB (bt s j) = true}) (fun i => ⟨[(0, .a (.c (.t (.str s)))), (3, .a (.c (.t (.int .i64 i.1))))], [], 1000, 29⟩) (fun i => s.size - i.1) ⟨0, by omega, by simp⟩ (Nat.le_of_ble_eq_true rfl) (by simp only [go_sem]) (by simp only [go_sem]; rfl) fun i => ?_
  obtain ⟨i, hi, ht⟩ := i
  have hb := bt_lt s i
  have e : ((s.data.getD i 0).toNat : Int) = bt s i := rfl
  simp only [go_sem]
  refine act_split (fun h => ?_) (fun h => ?_) <;> simp only [go_sem, h] <;> simp only [decide_eq_true_eq, decide_eq_false_iff_not] at h
  · refine act_split (fun h1 => ?_) (fun h1 => ?_) <;> simp only [go_sem, h1] <;> simp only [decide_eq_true_eq, decide_eq_false_iff_not] at h1
    · refine ⟨by omega, by omega, ?_⟩
      simp only [e]
      refine act_callE (oc49 _) ?_
      simp only [go_sem, e]
      refine act_split (fun h2 => ?_) (fun h2 => ?_) <;> simp only [go_sem, h2, e]
      · refine ⟨by omega, by omega, ?_⟩
        refine act_split (fun h3 => ?_) (fun h3 => ?_) <;> simp only [go_sem]
        · rw [wordB_no (i := i) (by omega) (by simp [okB, h3])]
        · refine nextK_of ⟨i + 1, by omega, fun j hj => ?_⟩ (by simp only [go_sem]) ?_ (by dsimp only; omega)
          · rcases Nat.lt_succ_iff_lt_or_eq.1 hj with hj | rfl
            · exact ht j hj
            · simp [okB, h2, h3]
          · simp only [go_sem]
            rw [wrap64O (by omega) (by omega)]; rfl
      · rw [wordB_no (i := i) (by omega) (by simp [okB, h2])]
    · refine act_callE (oc44 _ _ _) ?_
      simp only [go_sem]
      rw [wordB_long (by omega)]
  · refine act_callE (oc44 _ _ _) ?_
    simp only [go_sem]
    rw [wordB_yes fun j hj => ht j (by omega)]
end Go.Proofs.Ytjpcicjkbbbpiaa.M

/- Contracts for ObjOk: the size of trees, tied. No condition. -/
namespace Go.Proofs.Ytjpcicjkbbbpiaa.M
open Go Go.Proofs
set_option linter.unusedSimpArgs false
/-- A tree whose lists and strings are not wider than any machine's. -/
inductive Wd : Ob → Prop where
  | mk (k n : Int) (s : ByteArray) (ks : List ByteArray) (kids : List Ob) (h0 : s.size ≤ 9223372036854775807) (h1 : ks.length ≤ 9223372036854775807) (h2 : ∀ s ∈ ks, s.size ≤ 9223372036854775807)
      (h3 : kids.length ≤ 9223372036854775807) (h4 : ∀ o ∈ kids, Wd o) : Wd (.mk k n s ks kids)
theorem szO_le' : ∀ (o : Ob) (x : Int), 0 ≤ x → szO o x ≤ x
  | .mk k n s ks kids, x, h => by
    rw [szO_mk]
    split
    · omega
    · have h1 := szF_le (ks.length :: ks.map (·.size)) (x - s.size) (by omega)
      split
      · omega
      · rw [szS]
        split
        · omega
        · have := szO_le kids (szF (x - s.size) (ks.length :: ks.map (·.size)) - kids.length) (by omega) fun o ho => szO_le' o
          omega
  decreasing_by
  have := List.sizeOf_lt_of_mem ho
  simp only [Ob.mk.sizeOf_spec]
  omega
theorem oc19' (o : Ob) (h : Wd o) : ∀ left : Int, 0 ≤ left → left ≤ 1048576 → CS Try.prog false 6 [.v o.t, .v (.int .i64 left)] [.int .i64 (szO o left)] [] := by
  match o, h with
  | .mk k n s ks kids, h =>
    have hk : s.size ≤ 9223372036854775807 ∧ ks.length ≤ 9223372036854775807 ∧ (∀ s ∈ ks, s.size ≤ 9223372036854775807) ∧ kids.length ≤ 9223372036854775807 ∧ ∀ o ∈ kids, Wd o := by
      cases h; exact ⟨by assumption, by assumption, by assumption, by assumption, by assumption⟩
    have hr : ∀ o ∈ kids, ∀ left : Int, 0 ≤ left → left ≤ 1048576 → CS Try.prog false 6 [.v o.t, .v (.int .i64 left)] [.int .i64 (szO o left)] [] := fun o ho => oc19' o (hk.2.2.2.2 o ho)
    exact fun left h0 h1 => oc19 k n s ks kids left h0 h1 hk.1 hk.2.1 hk.2.2.1 fun l hl0 hl1 => oc52 kids l hl0 hl1 hk.2.2.2.1 (fun o _ => szO_le' o) hr
termination_by o
decreasing_by
  have := List.sizeOf_lt_of_mem ho
  simp only [Ob.mk.sizeOf_spec]
  omega
/-- A tree that is measured is small. -/
inductive Tn : Ob → Prop where
  | mk (k n : Int) (s : ByteArray) (ks : List ByteArray) (kids : List Ob) (h0 : s.size ≤ 1048576) (h1 : ks.length ≤ 1048576) (hk : ∀ s ∈ ks, s.size ≤ 1048576) (h2 : kids.length ≤ 1048576) (h3 : ∀ o ∈ kids, Tn o) : Tn (.mk k n s ks kids)
theorem Tn.sm : ∀ {o : Ob}, Tn o → Sm o
  | .mk _ _ _ _ kids, h => by
    cases h with
    | mk _ _ _ _ _ h0 h1 hk h2 h3 => exact .mk _ _ _ _ _ h1 h2 fun o ho => Tn.sm (h3 o ho)
  decreasing_by
  have := List.sizeOf_lt_of_mem ho
  simp only [Ob.mk.sizeOf_spec]
  omega
theorem szF_pos : ∀ (l : List Nat) (x : Int), x ≤ 1048576 → 0 ≤ szF x l → ∀ n ∈ l, n ≤ 1048576
  | [], _, _, _ => by simp
  | m :: r, x, hx, h => by
    rw [szF] at h
    split at h
    · omega
    · intro n hn
      rcases List.mem_cons.1 hn with rfl | hn
      · omega
      · exact szF_pos r _ (by omega) h n hn
theorem szL_pos : ∀ (l : List Ob) (x : Int), x ≤ 1048576 → 0 ≤ szL l x → ∀ o ∈ l, ∃ y : Int, y ≤ 1048576 ∧ 0 ≤ szO o y
  | [], _, _, _ => by simp
  | m :: r, x, hx, h => by
    rw [szL] at h
    split at h
    · omega
    · intro o ho
      rcases List.mem_cons.1 ho with rfl | ho
      · exact ⟨x, hx, by omega⟩
      · refine szL_pos r _ ?_ h o ho
        by_cases h0 : 0 ≤ x
        · have := szO_le' m x h0; omega
        · have : szO m x < 0 := by
            cases m with | mk k n s ks kids => rw [szO_mk, if_pos (by omega)]; omega
          omega
theorem tn_of_sz : ∀ (o : Ob) (x : Int), x ≤ 1048576 → 0 ≤ szO o x → Tn o
  | .mk k n s ks kids, x, hx, h => by
    rw [szO_mk] at h
    split at h
    · omega
    split at h
    · omega
    rename_i h1 h2
    have h3 := szF_le (ks.length :: ks.map (·.size)) (x - s.size) (by omega)
    have h4 := szF_pos _ _ (by omega) (Int.not_lt.1 h2)
    rw [szS] at h
    split at h
    · omega
    refine .mk _ _ _ _ _ (by omega) (h4 _ (by simp)) (fun t ht => h4 _ (by simp; exact .inr ⟨t, ht, rfl⟩)) (by omega) fun o ho => ?_
    obtain ⟨y, hy, h5⟩ := szL_pos kids _ (by omega) h o ho
    exact tn_of_sz o y hy h5
  decreasing_by
  have := List.sizeOf_lt_of_mem ho
  simp only [Ob.mk.sizeOf_spec]
  omega
end Go.Proofs.Ytjpcicjkbbbpiaa.M

/- Contracts for ObjOk: keysOk, fieldsOk. No condition. -/
namespace Go.Proofs.Ytjpcicjkbbbpiaa.M
open Go Go.Proofs
set_option maxRecDepth 100000
set_option maxHeartbeats 2000000
set_option linter.unusedSimpArgs false
def geB (a b : ByteArray) : Bool := !(Op.bytesLess a.toList b.toList)
def keyB (ks : List ByteArray) (i : Nat) : Bool :=
  match ks[i]? with
  | some x => wordB x && !(decide (i > 0) && match ks[i - 1]? with | some y => geB y x | none => false)
  | none => true
def keysB (ks : List ByteArray) : Bool := (List.range ks.length).all (keyB ks)
theorem keysB_no {ks : List ByteArray} {i : Nat} (hi : i < ks.length) (h : keyB ks i = false) : keysB ks = false := by
  unfold keysB
  rw [List.all_eq_false]
  exact ⟨i, List.mem_range.2 hi, by simp [h]⟩
theorem keysB_yes {ks : List ByteArray} (h : ∀ j, j < ks.length → keyB ks j = true) : keysB ks = true := by
  unfold keysB
  exact List.all_eq_true.2 fun j hj => h j (List.mem_range.1 hj)
theorem all_succ {p : Nat → Prop} {i : Nat} (h : ∀ j, j < i → p j) (h2 : p i) : ∀ j, j < i + 1 → p j := fun j hj => by
  rcases Nat.lt_succ_iff_lt_or_eq.1 hj with hj | rfl
  · exact h j hj
  · exact h2
theorem oc111 (a : List ByteArray) (ha : a.length ≤ 1048576) (hs : ∀ s ∈ a, s.size ≤ 1048576) : CS Try.prog false 78 [.v (strs a)] [.bool (keysB a)] [] := by
  refine CS_act tab_ok mdO Try.func78 rfl rfl Try.ntmps78 (rl := [.tmp 2]) rfl (Nat.le_of_ble_eq_true rfl) ?_
  simp only [go_sem, strs, List.length_map]
  refine act_loop_of (md := mdO) tab_ok [0,5,6,7] [] 1000 (ι := {i : Nat // i ≤ a.length ∧ ∀ j, j < i → keyB a j = true}) (fun i => ⟨[(0, .a (.c (.t (.list 1 (a.map T.str))))), (5, .a (.c (.t (.list 1 (a.map T.str))))), (6, .a (.c (.t (.int .i64 a.length)))), (7, .a (.c (.t (.int .i64 i.1))))], [], 1000, 29⟩) (fun i => a.length - i.1) ⟨0, by omega, by simp⟩ (Nat.le_of_ble_eq_true rfl) (by simp only [go_sem]) (by simp only [go_sem]; rfl) fun i => ?_
  obtain ⟨i, hi, ht⟩ := i
  simp only [go_sem, List.length_map]
  refine act_split (fun h => ?_) (fun h => ?_) <;> simp only [go_sem] <;> simp only [decide_eq_true_eq, decide_eq_false_iff_not] at h
  · obtain ⟨x, hx⟩ : ∃ x, a[i]? = some x := ⟨_, List.getElem?_eq_getElem (by omega)⟩
    have hb := hs x (List.mem_of_getElem? hx)
    simp only [go_sem, List.getElem?_map, hx, List.length_map]
    refine ⟨by omega, by omega, ?_⟩
    refine act_callE (oc18 _ hb) ?_
    simp only [go_sem]
    refine act_split (fun h2 => ?_) (fun h2 => ?_) <;> simp only [go_sem, h2]
    · refine act_split (fun h3 => ?_) (fun h3 => ?_) <;> simp only [go_sem, h3] <;> simp only [decide_eq_true_eq, decide_eq_false_iff_not] at h3
      · obtain ⟨y, hy⟩ : ∃ y, a[i - 1]? = some y := ⟨_, List.getElem?_eq_getElem (by omega)⟩
        have e : ((i : Int) - 1).toNat = i - 1 := by omega
        simp only [go_sem, wrap64O (n := (i : Int) - 1) (by omega) (by omega), e, List.getElem?_map, hx, hy, List.length_map]
        refine ⟨by omega, by omega, ?_⟩
        refine act_split_notO (fun h4 => ?_) (fun h4 => ?_) <;> simp only [go_sem, h4]
        · rw [keysB_no (i := i) (by omega) (by simp [keyB, hx, h2, hy, geB, h4]; omega)]
        · refine nextK_of ⟨i + 1, by omega, all_succ ht (by simp [keyB, hx, h2, hy, geB, h4])⟩ (by simp only [go_sem]) ?_ (by dsimp only; omega)
          simp only [go_sem]
          rw [wrap64O (by omega) (by omega)]; rfl
      · refine nextK_of ⟨i + 1, by omega, all_succ ht (by simp [keyB, hx, h2]; omega)⟩ (by simp only [go_sem]) ?_ (by dsimp only; omega)
        simp only [go_sem]
        rw [wrap64O (by omega) (by omega)]; rfl
    · rw [keysB_no (i := i) (by omega) (by simp [keyB, hx, h2])]
  · rw [keysB_yes fun j hj => ht j (by omega)]
/-- The fields of a tree are as its kind tells. -/
def fieldsB (k n : Int) (s : ByteArray) (ks : List ByteArray) (kl : Nat) : Bool :=
  if (k != 8 && decide (0 < ks.length)) || ((k != 8 && k != 7) && decide (0 < kl)) then false else
  let num := n == 0
  let txt := s.toList == (⟨#[]⟩ : ByteArray).toList
  if k == 1 || k == 2 || k == 3 || k == 7 then num && txt
  else if k == 4 then inBO n (-1000000000) 1000000000 && txt
  else if k == 5 then num && wordB s
  else if k == 6 then num && decide (s.size ≤ 200)
  else if k == 8 then num && txt && decide (ks.length = kl) && keysB ks
  else k == 9 && inBO n 1 1000000000 && txt
end Go.Proofs.Ytjpcicjkbbbpiaa.M

/- Contracts for ObjOk: fieldsOk. No condition. -/
namespace Go.Proofs.Ytjpcicjkbbbpiaa.M
open Go Go.Proofs
set_option maxRecDepth 100000
set_option maxHeartbeats 2000000
set_option linter.unusedSimpArgs false
attribute [go_sem] Bool.true_eq_false Int.reduceBEq Int.reduceBNe Int.reduceLT Int.reduceLE Int.reduceGT Int.reduceGE Int.reduceAdd Int.reduceSub Int.reduceMul Int.reduceNeg
theorem oc93 (k n : Int) (s : ByteArray) (ks : List ByteArray) (kids : List Ob) (h : Tn (.mk k n s ks kids)) :
    CS Try.prog false 72 [.v (Ob.mk k n s ks kids).t] [.bool (fieldsB k n s ks kids.length)] [] := by
  obtain ⟨g0, g1, g2, g3⟩ : s.size ≤ 1048576 ∧ ks.length ≤ 1048576 ∧ (∀ s ∈ ks, s.size ≤ 1048576) ∧ kids.length ≤ 1048576 := by cases h; exact ⟨by assumption, by assumption, by assumption, by assumption⟩
  rw [Ob.t_mk]
  have key : k = 1 ∨ k = 2 ∨ k = 3 ∨ k = 7 ∨ k = 4 ∨ k = 5 ∨ k = 6 ∨ k = 8 ∨ k = 9 ∨ ((k == 1) = false ∧ (k == 2) = false ∧ (k == 3) = false ∧ (k == 7) = false ∧ (k == 4) = false ∧ (k == 5) = false ∧ (k == 6) = false ∧ (k == 8) = false ∧ (k == 9) = false) := by
    simp only [beq_eq_false_iff_ne]; omega
  clear h
  rcases key with rfl | rfl | rfl | rfl | rfl | rfl | rfl | rfl | rfl | ⟨e1, e2, e3, e4, e5, e6, e7, e8, e9⟩
  all_goals
    refine CS_act tab_ok mdO Try.func72 rfl rfl Try.ntmps72 (rl := [.tmp 2]) rfl (Nat.le_of_ble_eq_true rfl) ?_
    simp only [go_sem, bne, List.length_map, *]
  all_goals
    repeat' (first
    | (refine act_callE (oc45 _ _ _) ?_; simp only [go_sem, *])
    | (refine act_callE (oc18 _ g0) ?_; simp only [go_sem, *])
    | (refine act_callE (oc111 _ g1 g2) ?_; simp only [go_sem, *])
    | (refine act_split_notO (fun h => ?_) (fun h => ?_) <;> simp only [go_sem, h, List.length_map, *])
    | (refine act_split (fun h => ?_) (fun h => ?_) <;> simp only [go_sem, h, List.length_map, *]))
  all_goals first | (simp_all [fieldsB]; done) | (simp_all [fieldsB]; omega) | (simp_all [fieldsB]; intros; omega) | skip
end Go.Proofs.Ytjpcicjkbbbpiaa.M

/- Contracts for ObjOk: countOf, and the plain law of both counts. No condition. -/
namespace Go.Proofs.Ytjpcicjkbbbpiaa.M
open Go Go.Proofs
set_option maxRecDepth 100000
set_option maxHeartbeats 2000000
set_option linter.unusedSimpArgs false
mutual
def cntO : Ob → Int → Int
  | .mk k n s ks kids, d => if 6 < d then 121 else if fieldsB k n s ks kids.length = false then 121 else cntLO kids (d + 1) 1
def cntLO : List Ob → Int → Int → Int
  | [], _, c => c
  | o :: r, d, c => if 120 < c + cntO o d then 121 else cntLO r d (c + cntO o d)
end
mutual
def lefO : Ob → Int → Int → Option Int
  | .mk k n s ks kids, d, left => if left - 1 < 0 then none else if 6 < d then none else if fieldsB k n s ks kids.length = false then none else lefL kids (d + 1) (left - 1)
def lefL : List Ob → Int → Int → Option Int
  | [], _, left => some left
  | o :: r, d, left => match lefO o d left with
    | some l => lefL r d l
    | none => none
end
theorem cntL_ge : ∀ (l : List Ob) (d c : Int), c ≤ 121 → (∀ o ∈ l, 1 ≤ cntO o d ∧ cntO o d ≤ 121) → c ≤ cntLO l d c ∧ cntLO l d c ≤ 121
  | [], d, c, h, _ => by rw [cntLO]; omega
  | o :: r, d, c, h, ho => by
    rw [cntLO]
    have h1 := ho o (by simp)
    split
    · omega
    · have := cntL_ge r d (c + cntO o d) (by omega) fun o' h' => ho o' (by simp [h'])
      omega
theorem cntO_ge : ∀ (o : Ob) (d : Int), 1 ≤ cntO o d ∧ cntO o d ≤ 121
  | .mk k n s ks kids, d => by
    rw [cntO]
    split
    · omega
    split
    · omega
    exact cntL_ge kids (d + 1) 1 (by omega) fun o ho => cntO_ge o (d + 1)
  decreasing_by
  have := List.sizeOf_lt_of_mem ho
  simp only [Ob.mk.sizeOf_spec]
  omega
theorem lefL_cnt : ∀ (l : List Ob) (d left c : Int), 0 ≤ c → 0 ≤ left → c + left ≤ 120 → (∀ o ∈ l, ∀ x : Int, 0 ≤ x → x ≤ 120 → lefO o d x = if cntO o d ≤ x then some (x - cntO o d) else none) →
    lefL l d left = if cntLO l d c ≤ c + left then some (c + left - cntLO l d c) else none
  | [], d, left, c, hc, h0, h1, _ => by
    rw [lefL, cntLO, if_pos (by omega)]
    congr 1; omega
  | o :: r, d, left, c, hc, h0, h1, ho => by
    have g := cntO_ge o d
    by_cases hc' : 0 ≤ c
    · rw [lefL, cntLO, ho o (by simp) left h0 (by omega)]
      by_cases h2 : cntO o d ≤ left
      · rw [if_pos h2, if_neg (show ¬ 120 < c + cntO o d by omega)]
        dsimp only
        rw [lefL_cnt r d (left - cntO o d) (c + cntO o d) (by omega) (by omega) (by omega) fun o' h' => ho o' (by simp [h'])]
        have : c + cntO o d + (left - cntO o d) = c + left := by omega
        rw [this]
      · rw [if_neg h2]
        dsimp only
        split
        · rw [if_neg (by omega)]
        · have := cntL_ge r d (c + cntO o d) (by omega) fun o' _ => cntO_ge o' d
          rw [if_neg (by omega)]
    · omega
theorem lefO_cnt : ∀ (o : Ob) (d left : Int), 0 ≤ left → left ≤ 120 → lefO o d left = if cntO o d ≤ left then some (left - cntO o d) else none
  | .mk k n s ks kids, d, left, h0, h1 => by
    have g := cntO_ge (.mk k n s ks kids) d
    by_cases hl : left - 1 < 0
    · rw [lefO, if_pos hl, if_neg (by omega)]
    rw [lefO, if_neg hl, cntO]
    split
    · rw [if_neg (by omega)]
    split
    · rw [if_neg (by omega)]
    rw [lefL_cnt kids (d + 1) (left - 1) 1 (by omega) (by omega) (by omega) fun o ho x hx0 hx1 => lefO_cnt o (d + 1) x hx0 hx1]
    have : 1 + (left - 1) = left := by omega
    rw [this]
  decreasing_by
  have := List.sizeOf_lt_of_mem ho
  simp only [Ob.mk.sizeOf_spec]
  omega
theorem oc66 (k n : Int) (s : ByteArray) (ks : List ByteArray) (kids : List Ob) (hT : Tn (.mk k n s ks kids)) (d : Int) (h0 : 0 ≤ d) (h1 : d ≤ 7)
    (hh : d + 1 ≤ 7 → ∀ o ∈ kids, CS Try.prog false 57 [.v o.t, .v (.int .i64 (d + 1))] [.int .i64 (cntO o (d + 1))] []) :
    CS Try.prog false 57 [.v (Ob.mk k n s ks kids).t, .v (.int .i64 d)] [.int .i64 (cntO (.mk k n s ks kids) d)] [] := by
  have hf := oc93 k n s ks kids hT
  have hkl : kids.length ≤ 1048576 := by cases hT; assumption
  rw [Ob.t_mk] at hf ⊢
  rw [cntO]
  refine CS_act tab_ok mdO Try.func57 rfl rfl Try.ntmps57 (rl := [.tmp 4]) rfl (Nat.le_of_ble_eq_true rfl) ?_
  simp only [go_sem]
  refine act_split_notO (fun h => ?_) (fun h => ?_) <;> simp only [go_sem, h] <;> simp only [decide_eq_true_eq, decide_eq_false_iff_not] at h
  rotate_left
  · rw [if_pos h]
  rw [if_neg h]
  refine act_callE hf ?_
  simp only [go_sem]
  refine act_split_notO (fun h2 => ?_) (fun h2 => ?_) <;> simp only [go_sem, h2]
  simp only [List.length_map]
  refine act_loop_of (md := mdO) tab_ok [1,5,16,17,18] [] 1000 (ι := {p : Nat × Int // p.1 ≤ kids.length ∧ 1 ≤ p.2 ∧ p.2 ≤ 120 ∧ cntLO (kids.drop p.1) (d + 1) p.2 = cntLO kids (d + 1) 1})
    (fun p => ⟨[(1, .a (.c (.t (.int .i64 d)))), (5, .a (.c (.t (.int .i64 p.1.2)))), (16, .a (.c (.t (.list 5 (kids.map Ob.t))))), (17, .a (.c (.t (.int .i64 kids.length)))), (18, .a (.c (.t (.int .i64 p.1.1))))], [], 1000, 32⟩)
    (fun p => kids.length - p.1.1) ⟨(0, 1), by omega, by omega, by omega, rfl⟩ (Nat.le_of_ble_eq_true rfl) (by simp only [go_sem]) (by simp only [go_sem]; rfl) fun p => ?_
  obtain ⟨⟨i, c⟩, hi, hc0, hc1, hz⟩ := p
  dsimp only at hi hc0 hc1 hz
  simp only [go_sem, List.length_map]
  refine act_split (fun h3 => ?_) (fun h3 => ?_) <;> simp only [go_sem] <;> simp only [decide_eq_true_eq, decide_eq_false_iff_not] at h3
  · obtain ⟨x, hx⟩ : ∃ x, kids[i]? = some x := ⟨_, List.getElem?_eq_getElem (by omega)⟩
    have hc := hh (by omega) x (List.mem_of_getElem? hx)
    have g := cntO_ge x (d + 1)
    have hd : kids.drop i = x :: kids.drop (i + 1) := by
      rw [List.drop_eq_getElem_cons (by omega)]
      rw [List.getElem?_eq_getElem (by omega)] at hx; rw [Option.some.inj hx]
    rw [hd, cntLO] at hz
    generalize cntO x (d + 1) = y at hc hz g
    obtain ⟨k', n', s', ks', kids'⟩ := x
    rw [Ob.t_mk] at hc
    simp only [go_sem, List.getElem?_map, hx, List.length_map, Ob.t_mk, wrap64O (n := d + 1) (by omega) (by omega)]
    refine ⟨by omega, by omega, ?_⟩
    refine act_callE hc ?_
    simp only [go_sem, wrap64O (n := c + y) (by omega) (by omega)]
    refine act_split (fun h4 => ?_) (fun h4 => ?_) <;> simp only [go_sem] <;> simp only [decide_eq_true_eq, decide_eq_false_iff_not] at h4
    · rw [if_pos h4] at hz
      rw [← hz]
    · rw [if_neg h4] at hz
      refine nextK_of ⟨(i + 1, c + y), by omega, by omega, by omega, hz⟩ (by simp only [go_sem]) ?_ (by dsimp only; omega)
      simp only [go_sem]
      rw [wrap64O (by omega) (by omega)]; rfl
  · have : i = kids.length := by omega
    subst this
    rw [List.drop_length, cntLO] at hz
    rw [← hz]
theorem oc66' (o : Ob) (hT : Tn o) : ∀ d : Int, 0 ≤ d → d ≤ 7 → CS Try.prog false 57 [.v o.t, .v (.int .i64 d)] [.int .i64 (cntO o d)] [] := by
  match o, hT with
  | .mk k n s ks kids, hT =>
    have hk : ∀ o ∈ kids, Tn o := by cases hT; assumption
    have hr : ∀ o ∈ kids, ∀ d : Int, 0 ≤ d → d ≤ 7 → CS Try.prog false 57 [.v o.t, .v (.int .i64 d)] [.int .i64 (cntO o d)] [] := fun o ho => oc66' o (hk o ho)
    exact fun d h0 h1 => oc66 k n s ks kids hT d h0 h1 fun h o ho => hr o ho (d + 1) (by omega) h
termination_by o
decreasing_by
  have := List.sizeOf_lt_of_mem ho
  simp only [Ob.mk.sizeOf_spec]
  omega
theorem oc27 (o : Ob) (hT : Tn o) : CS Try.prog false 41 [.v o.t] [.bool (decide (cntO o 0 ≤ 120))] [] := by
  have hc := oc66' o hT 0 (by omega) (by omega)
  obtain ⟨k, n, s, ks, kids⟩ := o
  rw [Ob.t_mk] at hc ⊢
  refine CS_act tab_ok mdO Try.func41 rfl rfl Try.ntmps41 (rl := [.tmp 2]) rfl (Nat.le_of_ble_eq_true rfl) ?_
  simp only [go_sem]
  refine act_callE hc ?_
  simp only [go_sem]
end Go.Proofs.Ytjpcicjkbbbpiaa.M

/- Contracts for ObjOk: the reference's count, its loops. No condition. -/
namespace Go.Proofs.Ytjpcicjkbbbpiaa.M
open Go Go.Proofs
set_option maxRecDepth 100000
set_option maxHeartbeats 2000000
set_option linter.unusedSimpArgs false
def preB (k n : Int) (s : ByteArray) (ks : List ByteArray) (kl : Nat) : Bool :=
  let num := k == 4 || k == 9
  let txt := k == 5 || k == 6
  let kds := k == 7 || k == 8
  (if k == 4 then inBO n (-1000000000) 1000000000 else if k == 9 then inBO n 1 1000000000 else if k == 5 then wordB s else if k == 6 then decide (s.size ≤ 200) else if k == 8 then decide (ks.length = kl) else k == 1 || k == 2 || k == 3 || k == 7)
    && !((!num && n != 0) || (!txt && !(s.toList == (⟨#[]⟩ : ByteArray).toList)) || (!kds && decide (0 < kl)) || (!(k == 8) && decide (0 < ks.length)))
mutual
def lefP : Ob → Int → Int → Bool × Int
  | .mk k n s ks kids, d, left => if left - 1 < 0 then (false, left - 1) else if 6 < d then (false, left - 1) else if preB k n s ks kids.length = false then (false, left - 1) else if keysB ks = false then (false, left - 1) else lefPL kids (d + 1) (left - 1)
def lefPL : List Ob → Int → Int → Bool × Int
  | [], _, left => (true, left)
  | o :: r, d, left => if (lefP o d left).1 = true then lefPL r d (lefP o d left).2 else (false, (lefP o d left).2)
end
theorem fields_pre (k n : Int) (s : ByteArray) (ks : List ByteArray) (kl : Nat) : fieldsB k n s ks kl = (preB k n s ks kl && keysB ks) := by
  have hk : ks.length = 0 → keysB ks = true := fun h => by rw [List.length_eq_zero_iff.1 h]; rfl
  unfold fieldsB preB
  simp only [bne]
  generalize inBO n (-1000000000) 1000000000 = b1
  generalize inBO n 1 1000000000 = b2
  generalize wordB s = b3
  generalize decide (s.size ≤ 200) = b4
  generalize (n == 0) = bn
  generalize (s.toList == (⟨#[]⟩ : ByteArray).toList) = bs
  generalize keysB ks = bk at hk ⊢
  generalize ks.length = kz at hk ⊢
  have key : k = 1 ∨ k = 2 ∨ k = 3 ∨ k = 7 ∨ k = 4 ∨ k = 5 ∨ k = 6 ∨ k = 8 ∨ k = 9 ∨ ((k == 1) = false ∧ (k == 2) = false ∧ (k == 3) = false ∧ (k == 7) = false ∧ (k == 4) = false ∧ (k == 5) = false ∧ (k == 6) = false ∧ (k == 8) = false ∧ (k == 9) = false) := by
    simp only [beq_eq_false_iff_ne]; omega
  rcases key with rfl | rfl | rfl | rfl | rfl | rfl | rfl | rfl | rfl | ⟨e1, e2, e3, e4, e5, e6, e7, e8, e9⟩
  all_goals
    rcases Nat.eq_zero_or_pos kl with rfl | hkl <;> rcases Nat.eq_zero_or_pos kz with rfl | hkz
  all_goals (try have hk := hk rfl)
  all_goals (try subst hk)
  all_goals (try simp only [e1, e2, e3, e4, e5, e6, e7, e8, e9])
  all_goals cases bn <;> cases bs <;> first | (simp; done) | simp_all
theorem lefL_P : ∀ (l : List Ob) (d x : Int), (∀ o ∈ l, ∀ x, lefO o d x = if (lefP o d x).1 = true then some (lefP o d x).2 else none) → lefL l d x = if (lefPL l d x).1 = true then some (lefPL l d x).2 else none
  | [], d, x, _ => by rw [lefL, lefPL]; rfl
  | o :: r, d, x, h => by
    rw [lefL, lefPL, h o (by simp) x]
    by_cases h1 : (lefP o d x).1 = true
    · simp only [h1, if_true]
      exact lefL_P r d _ fun o' h' => h o' (by simp [h'])
    · simp only [h1, if_false]; simp
theorem lefP_O : ∀ (o : Ob) (d l : Int), lefO o d l = if (lefP o d l).1 = true then some (lefP o d l).2 else none
  | .mk k n s ks kids, d, l => by
    rw [lefO, lefP]
    split
    · simp
    split
    · simp
    rw [fields_pre]
    by_cases h1 : preB k n s ks kids.length = false
    · simp [h1]
    by_cases h2 : keysB ks = false
    · simp [h1, h2]
    simp only [Bool.not_eq_false] at h1 h2
    simp only [h1, h2, Bool.and_true, Bool.true_eq_false, if_false]
    exact lefL_P kids (d + 1) (l - 1) fun o ho x => lefP_O o (d + 1) x
  decreasing_by
  have := List.sizeOf_lt_of_mem ho
  simp only [Ob.mk.sizeOf_spec]
  omega
theorem lefP_yes (o : Ob) (d x : Int) (h0 : 0 ≤ x) (h1 : x ≤ 120) : (lefP o d x).1 = decide (cntO o d ≤ x) ∧ ((lefP o d x).1 = true → (lefP o d x).2 = x - cntO o d) := by
  have h := lefP_O o d x
  rw [lefO_cnt o d x h0 h1] at h
  by_cases h2 : cntO o d ≤ x
  · rw [if_pos h2] at h
    split at h
    · rename_i h3; obtain h4 := Option.some.inj h; exact ⟨by rw [h3]; simp [h2], fun _ => h4.symm⟩
    · cases h
  · rw [if_neg h2] at h
    split at h
    · cases h
    · rename_i h3; exact ⟨by simp [h2, h3], fun h => absurd h h3⟩
abbrev L65 (o : Ob) (d left : Int) : Prop := CS Try.prog false 56 [.v o.t, .v (.int .i64 d), .mb [.t (.int .i64 left)]] [.bool (lefP o d left).1] [[.t (.int .i64 (lefP o d left).2)]]
theorem r65 (k n : Int) (s : ByteArray) (ks : List ByteArray) (kids : List Ob) (hT : Tn (.mk k n s ks kids)) (d left l0 : Int) (h0 : 0 ≤ d) (h1 : d ≤ 6) (h2 : 0 ≤ left) (h3 : left < 120)
    (hh : ∀ o ∈ kids, ∀ x : Int, 0 ≤ x → x ≤ 120 → L65 o (d + 1) x) (rs : List T) (os : List (List BC))
    (hr1 : keysB ks = false → rs = [.bool false] ∧ os = [[.t (.int .i64 left)]]) (hr2 : keysB ks = true → rs = [.bool (lefPL kids (d + 1) left).1] ∧ os = [[.t (.int .i64 (lefPL kids (d + 1) left).2)]]) {c : Code}
    (hc : subC Try.f56.body [true, true, true, true, true, true, true, true, true] = some c) :
    WWE Try.prog c ⟨[(1, .a (.c (.t (.int .i64 d)))), (2, .a (.c (.ptr 0 0))), (3, .a (.c (.ptr 1 0)))], [(0, .box [.t (.int .i64 left)]), (1, .box [.t (.int .i64 k), .t (.int .i64 n), .t (.str s), .t (.list 1 (ks.map T.str)), .t (.list 5 (kids.map Ob.t))])], 4000, 153⟩
      (endK tab false [.tmp 6] [.v (.agg [.int .i64 k, .int .i64 n, .str s, .list 1 (ks.map T.str), .list 5 (kids.map Ob.t)]), .v (.int .i64 d), .mb [.t (.int .i64 l0)]] rs os) .one .one := by
  obtain rfl := Option.some.inj hc
  clear hc
  refine WWE_of_act tab_ok mdO ?_
  simp only [go_sem]
  obtain ⟨g0, g1, g2, g3⟩ : s.size ≤ 1048576 ∧ ks.length ≤ 1048576 ∧ (∀ s ∈ ks, s.size ≤ 1048576) ∧ kids.length ≤ 1048576 := by cases hT; exact ⟨by assumption, by assumption, by assumption, by assumption⟩
  refine act_loop_of (md := mdO) tab_ok [1,2,3,11] [0,1] 6000 (ι := {i : Nat // i ≤ ks.length ∧ ∀ j, j < i → keyB ks j = true})
    (fun i => ⟨[(1, .a (.c (.t (.int .i64 d)))), (2, .a (.c (.ptr 0 0))), (3, .a (.c (.ptr 1 0))), (11, .a (.c (.t (.int .i64 i.1))))], [(0, .box [.t (.int .i64 left)]), (1, .box [.t (.int .i64 k), .t (.int .i64 n), .t (.str s), .t (.list 1 (ks.map T.str)), .t (.list 5 (kids.map Ob.t))])], 6000, 153⟩)
    (fun i => ks.length - i.1) ⟨0, by omega, by simp⟩ (Nat.le_of_ble_eq_true rfl) (by simp only [go_sem]) (by simp only [go_sem]; rfl) fun i => ?_
  obtain ⟨i, hi, ht⟩ := i
  simp only [go_sem, List.length_map]
  refine act_split (fun h => ?_) (fun h => ?_) <;> simp only [go_sem] <;> simp only [decide_eq_true_eq, decide_eq_false_iff_not] at h
  · obtain ⟨x, hx⟩ : ∃ x, ks[i]? = some x := ⟨_, List.getElem?_eq_getElem (by omega)⟩
    have hb := g2 x (List.mem_of_getElem? hx)
    refine act_draw_of tab_ok mix mdO ?_
    simp only [go_sem, List.getElem?_map, hx, List.length_map]
    refine ⟨by omega, by omega, ?_⟩
    refine act_callE (oc17 _ hb) ?_
    simp only [go_sem]
    refine act_split (fun h5 => ?_) (fun h5 => ?_) <;> simp only [go_sem, h5]
    · refine act_split (fun h3 => ?_) (fun h3 => ?_) <;> simp only [go_sem, h3] <;> simp only [decide_eq_true_eq, decide_eq_false_iff_not] at h3
      · obtain ⟨y, hy⟩ : ∃ y, ks[i - 1]? = some y := ⟨_, List.getElem?_eq_getElem (by omega)⟩
        have e : ((i : Int) - 1).toNat = i - 1 := by omega
        simp only [go_sem, wrap64O (n := (i : Int) - 1) (by omega) (by omega), e, List.getElem?_map, hx, hy, List.length_map]
        refine ⟨by omega, by omega, by omega, by omega, drawOk_of (by kernel_rfl), ?_⟩
        refine act_split_notO (fun h4 => ?_) (fun h4 => ?_) <;> simp only [go_sem, h4]
        · have := keysB_no (ks := ks) (i := i) (by omega) (by simp [keyB, hx, h5, hy, geB, h4]; omega)
          obtain ⟨rfl, rfl⟩ := hr1 this
          trivial
        · refine nextK_of ⟨i + 1, by omega, all_succ ht (by simp [keyB, hx, h5, hy, geB, h4])⟩ (by simp only [go_sem]) ?_ (by dsimp only; omega)
          simp only [go_sem]
          rw [wrap64O (by omega) (by omega)]; rfl
      · refine ⟨drawOk_of (by kernel_rfl), ?_⟩
        refine nextK_of ⟨i + 1, by omega, all_succ ht (by simp [keyB, hx, h5]; omega)⟩ (by simp only [go_sem]) ?_ (by dsimp only; omega)
        simp only [go_sem]
        rw [wrap64O (by omega) (by omega)]; rfl
    · refine ⟨drawOk_of (by kernel_rfl), ?_⟩
      have := keysB_no (ks := ks) (i := i) (by omega) (by simp [keyB, hx, h5])
      obtain ⟨rfl, rfl⟩ := hr1 this
      trivial
  · have hy := keysB_yes (ks := ks) fun j hj => ht j (by omega)
    obtain ⟨rfl, rfl⟩ := hr2 hy
    clear hr1 hr2
    refine act_loop_of (md := mdO) tab_ok [1,2,3,12] [0,1] 9000 (ι := {p : Nat × Int // p.1 ≤ kids.length ∧ 0 ≤ p.2 ∧ p.2 ≤ 120 ∧ lefPL (kids.drop p.1) (d + 1) p.2 = lefPL kids (d + 1) left})
      (fun p => ⟨[(1, .a (.c (.t (.int .i64 d)))), (2, .a (.c (.ptr 0 0))), (3, .a (.c (.ptr 1 0))), (12, .a (.c (.t (.int .i64 p.1.1))))], [(0, .box [.t (.int .i64 p.1.2)]), (1, .box [.t (.int .i64 k), .t (.int .i64 n), .t (.str s), .t (.list 1 (ks.map T.str)), .t (.list 5 (kids.map Ob.t))])], 9000, 153⟩)
      (fun p => kids.length - p.1.1) ⟨(0, left), by omega, by omega, by omega, rfl⟩ (Nat.le_of_ble_eq_true rfl) (by simp only [go_sem]) (by simp only [go_sem]; rfl) fun p => ?_
    obtain ⟨⟨j, l⟩, hj, hl0, hl1, hz⟩ := p
    dsimp only at hj hl0 hl1 hz
    simp only [go_sem, List.length_map]
    refine act_split (fun h6 => ?_) (fun h6 => ?_) <;> simp only [go_sem] <;> simp only [decide_eq_true_eq, decide_eq_false_iff_not] at h6
    · obtain ⟨x, hx⟩ : ∃ x, kids[j]? = some x := ⟨_, List.getElem?_eq_getElem (by omega)⟩
      have hc := hh x (List.mem_of_getElem? hx) l hl0 hl1
      have hp := lefP_yes x (d + 1) l hl0 hl1
      have hg := cntO_ge x (d + 1)
      have hd : kids.drop j = x :: kids.drop (j + 1) := by
        rw [List.drop_eq_getElem_cons (by omega)]
        rw [List.getElem?_eq_getElem (by omega)] at hx; rw [Option.some.inj hx]
      rw [hd, lefPL] at hz
      unfold L65 at hc
      generalize lefP x (d + 1) l = p at hc hz hp
      obtain ⟨b, y⟩ := p
      dsimp only at hc hz hp
      obtain ⟨k', n', s', ks', kids'⟩ := x
      rw [Ob.t_mk] at hc
      simp only [go_sem, List.getElem?_map, hx, List.length_map, Ob.t_mk, wrap64O (n := d + 1) (by omega) (by omega)]
      refine ⟨by omega, by omega, ?_⟩
      refine act_callE hc ?_
      simp only [go_sem]
      refine act_split_notO (fun h4 => ?_) (fun h4 => ?_) <;> simp only [go_sem] <;> subst h4
      · rw [if_neg (by simp)] at hz
        rw [← hz]; exact ⟨rfl, rfl⟩
      · rw [if_pos rfl] at hz
        have h7 := of_decide_eq_true hp.1.symm
        have h8 := hp.2 rfl
        refine nextK_of ⟨(j + 1, y), by omega, by omega, by omega, hz⟩ (by simp only [go_sem]) ?_ (by dsimp only; omega)
        simp only [go_sem]
        rw [wrap64O (by omega) (by omega)]; rfl
    · have : j = kids.length := by omega
      subst this
      rw [List.drop_length, lefPL] at hz
      rw [← hz]; exact ⟨rfl, rfl⟩
end Go.Proofs.Ytjpcicjkbbbpiaa.M

/- Contracts for ObjOk: the reference's count. No condition. -/
namespace Go.Proofs.Ytjpcicjkbbbpiaa.M
open Go Go.Proofs
set_option maxRecDepth 100000
set_option maxHeartbeats 2000000
set_option linter.unusedSimpArgs false
theorem oc65 (k n : Int) (s : ByteArray) (ks : List ByteArray) (kids : List Ob) (hT : Tn (.mk k n s ks kids)) (d left : Int) (h0 : 0 ≤ d) (h1 : d ≤ 7) (h2 : 0 ≤ left) (h3 : left ≤ 120)
    (hh : d + 1 ≤ 7 → ∀ o ∈ kids, ∀ x : Int, 0 ≤ x → x ≤ 120 → L65 o (d + 1) x) : L65 (.mk k n s ks kids) d left := by
  obtain ⟨g0, g1, g2, g3⟩ : s.size ≤ 1048576 ∧ ks.length ≤ 1048576 ∧ (∀ s ∈ ks, s.size ≤ 1048576) ∧ kids.length ≤ 1048576 := by cases hT; exact ⟨by assumption, by assumption, by assumption, by assumption⟩
  unfold L65
  rw [lefP, Ob.t_mk]
  refine CS_WW tab_ok Try.func56 rfl rfl Try.ntmps56 (rl := [.tmp 6]) rfl (Nat.le_of_ble_eq_true rfl) ?_
  have hw := wrap64O (n := left - 1) (by omega) (by omega)
  refine WWE_seq tab_ok mdO ?_
  simp only [go_sem]
  refine WWE_seq tab_ok mdO ?_
  simp only [go_sem, hw]
  refine WWE_seq tab_ok mdO ?_
  simp only [go_sem]
  refine act_split_notO (fun h => ?_) (fun h => ?_) <;> simp only [go_sem, h]
  rotate_left
  · simp only [decide_eq_true_eq] at h
    rw [if_pos h]; trivial
  simp only [decide_eq_false_iff_not] at h
  rw [if_neg h]
  refine act_split (fun h4 => ?_) (fun h4 => ?_) <;> simp only [go_sem]
  · simp only [decide_eq_true_eq] at h4
    rw [if_pos h4]; trivial
  simp only [decide_eq_false_iff_not] at h4
  rw [if_neg h4]
  refine WWE_seq tab_ok mdO ?_
  simp only [go_sem]
  refine WWE_seq tab_ok mdO ?_
  simp only [go_sem]
  refine WWE_seq tab_ok mdO ?_
  simp only [go_sem]
  refine WWE_seq tab_ok mdO ?_
  simp only [go_sem]
  have key : k = 1 ∨ k = 2 ∨ k = 3 ∨ k = 7 ∨ k = 4 ∨ k = 5 ∨ k = 6 ∨ k = 8 ∨ k = 9 ∨ ((k == 1) = false ∧ (k == 2) = false ∧ (k == 3) = false ∧ (k == 7) = false ∧ (k == 4) = false ∧ (k == 5) = false ∧ (k == 6) = false ∧ (k == 8) = false ∧ (k == 9) = false) := by
    simp only [beq_eq_false_iff_ne]; omega
  have hp : preB k n s ks kids.length = preB k n s ks kids.length := rfl
  conv at hp => rhs; unfold preB
  have rest := fun (hpre : preB k n s ks kids.length = true) => @r65 k n s ks kids hT d (left - 1) left h0 (by omega) (by omega) (by omega) (hh (by omega))
    [.bool (if preB k n s ks kids.length = false then (false, left - 1) else if keysB ks = false then (false, left - 1) else lefPL kids (d + 1) (left - 1)).1]
    [[.t (.int .i64 (if preB k n s ks kids.length = false then (false, left - 1) else if keysB ks = false then (false, left - 1) else lefPL kids (d + 1) (left - 1)).2)]]
    (fun hk => by simp [hpre, hk]) (fun hk => by simp [hpre, hk])
  generalize preB k n s ks kids.length = pb at hp rest ⊢
  rcases key with rfl | rfl | rfl | rfl | rfl | rfl | rfl | rfl | rfl | ⟨e1, e2, e3, e4, e5, e6, e7, e8, e9⟩
  all_goals (try simp only [e1, e2, e3, e4, e5, e6, e7, e8, e9] at hp)
  all_goals
    refine WWE_seq tab_ok mdO ?_
    simp only [go_sem, List.length_map]
    try simp only [e1, e2, e3, e4, e5, e6, e7, e8, e9, go_sem]
    repeat' (first
      | (refine act_callE (oc44 _ _ _) ?_; simp only [go_sem])
      | (refine act_callE (oc17 _ g0) ?_; simp only [go_sem])
      | (refine act_split_notO (fun h => ?_) (fun h => ?_) <;> simp only [go_sem, h])
      | (refine act_split (fun h => ?_) (fun h => ?_) <;> simp only [go_sem, h]))
  all_goals try
    refine WWE_seq tab_ok mdO ?_
    simp only [go_sem, List.length_map, bne]
    repeat' (first
      | (refine act_split_notO (fun h => ?_) (fun h => ?_) <;> simp only [go_sem, h, List.length_map])
      | (refine act_split (fun h => ?_) (fun h => ?_) <;> simp only [go_sem, h, List.length_map]))
  all_goals try
    refine WWE_cut [1,2,3] [0,1] 4000 _ (Nat.le_of_ble_eq_true rfl) (by simp only [go_sem]) (by simp only [go_sem]) (rest ?_ rfl)
  all_goals
    first
    | (have : pb = true := by
        rw [hp]; first | (simp_all; done) | (simp_all; omega)
       exact this)
    | (have : pb = false := by
        rw [hp]; first | (simp_all; done) | (simp_all; omega)
       rw [if_pos this]; exact ⟨rfl, rfl⟩)
end Go.Proofs.Ytjpcicjkbbbpiaa.M

/- Contracts for ObjOk: the law. No condition. -/
namespace Go.Proofs.Ytjpcicjkbbbpiaa.M
open Go Go.Proofs
set_option maxRecDepth 100000
set_option maxHeartbeats 2000000
set_option linter.unusedSimpArgs false
theorem oc65' (o : Ob) (hT : Tn o) : ∀ d left : Int, 0 ≤ d → d ≤ 7 → 0 ≤ left → left ≤ 120 → L65 o d left := by
  match o, hT with
  | .mk k n s ks kids, hT =>
    have hk : ∀ o ∈ kids, Tn o := by cases hT; assumption
    have hr : ∀ o ∈ kids, ∀ d left : Int, 0 ≤ d → d ≤ 7 → 0 ≤ left → left ≤ 120 → L65 o d left := fun o ho => oc65' o (hk o ho)
    exact fun d left h0 h1 h2 h3 => oc65 k n s ks kids hT d left h0 h1 h2 h3 fun h o ho x hx0 hx1 => hr o ho (d + 1) x (by omega) h hx0 hx1
termination_by o
decreasing_by
  have := List.sizeOf_lt_of_mem ho
  simp only [Ob.mk.sizeOf_spec]
  omega
theorem oc26 (o : Ob) (hT : Tn o) : CS Try.prog false 38 [.v o.t] [.bool (decide (cntO o 0 ≤ 120))] [] := by
  have hc := oc65' o hT 0 120 (by omega) (by omega) (by omega) (by omega)
  have he := (lefP_yes o 0 120 (by omega) (by omega)).1
  unfold L65 at hc
  rw [he] at hc
  generalize (lefP o 0 120).2 = y at hc
  generalize decide (cntO o 0 ≤ 120) = b at hc ⊢
  obtain ⟨k, n, s, ks, kids⟩ := o
  rw [Ob.t_mk] at hc ⊢
  refine CS_act tab_ok mdO Try.func38 rfl rfl Try.ntmps38 (rl := [.tmp 2]) rfl (Nat.le_of_ble_eq_true rfl) ?_
  simp only [go_sem]
  refine act_callE hc ?_
  simp only [go_sem]
end Go.Proofs.Ytjpcicjkbbbpiaa.M

/- Contracts for DocOk, part 1: items and documents, their copies, comparisons with themselves, sizes. No condition. -/
namespace Go.Proofs.Ytjpcicjkbbbpiaa.M
open Go Go.Proofs
set_option maxRecDepth 100000
set_option maxHeartbeats 2000000
set_option linter.unusedSimpArgs false
structure It where
  num : Int
  k : Int
  n : Int
  s : ByteArray
  ks : List ByteArray
  kids : List Ob
  hd : Bool
  data : ByteArray
abbrev It.o (x : It) : Ob := .mk x.k x.n x.s x.ks x.kids
def It.t (x : It) : T := .agg [.int .i64 x.num, .int .i64 x.k, .int .i64 x.n, .str x.s, .list 1 (x.ks.map T.str), .list 5 (x.kids.map Ob.t), .bool x.hd, .str x.data]
theorem It.t_def (x : It) : x.t = .agg [.int .i64 x.num, .int .i64 x.k, .int .i64 x.n, .str x.s, .list 1 (x.ks.map T.str), .list 5 (x.kids.map Ob.t), .bool x.hd, .str x.data] := rfl
def its (l : List It) : T := .list 8 (l.map It.t)
def docT (l : List It) (root : Int) : T := .agg [its l, .int .i64 root]
abbrev it0 : T := .agg [.int .i64 0, .int .i64 0, .int .i64 0, .str ⟨#[]⟩, .list 1 [], .list 5 [], .bool false, .str ⟨#[]⟩]
theorem oc95 (x : It) (h : Sm x.o) : CS Try.prog false 67 [.v x.t] [x.t] [] := by
  have hc := oc21' x.o h
  rw [Ob.t_mk] at hc
  rw [It.t_def]
  refine CS_act tab_ok mdO Try.func67 rfl rfl Try.ntmps67 (rl := [.cell 2 43]) rfl (Nat.le_of_ble_eq_true rfl) ?_
  simp only [go_sem]
  refine act_callE hc ?_
  simp only [go_sem]
theorem oc70 (a : List It) (ha : a.length ≤ 1048576) (h : ∀ o ∈ a, Sm o.o) : CS Try.prog false 49 [.v (its a)] [its a] [] := by
  refine CS_act tab_ok mdO Try.func49 rfl rfl Try.ntmps49 (rl := [.tmp 2]) rfl (Nat.le_of_ble_eq_true rfl) ?_
  simp only [go_sem, its, List.length_map]
  refine ⟨by omega, by omega, by omega, by omega, ?_⟩
  refine act_loop_of (md := mdO) tab_ok [0,3,4] [48] 1000 (ι := {i : Nat // i ≤ a.length}) (fun i => ⟨[(0, .a (.c (.t (.list 8 (a.map It.t))))), (3, .a (.c (.own 48 0 0 a.length))), (4, .a (.c (.t (.int .i64 i.1))))], [(48, .arr 8 ((a.take i.1).map It.t ++ List.replicate (a.length - i.1) it0) 0)], 1000, 23⟩) (fun i => a.length - i.1) ⟨0, by omega⟩ (Nat.le_of_ble_eq_true rfl) (by simp only [go_sem]) (by simp only [go_sem]; simp) fun i => ?_
  obtain ⟨i, hi⟩ := i
  simp only [go_sem, List.length_map]
  refine act_split (fun h2 => ?_) (fun h2 => ?_) <;> simp only [go_sem] <;> simp only [decide_eq_true_eq, decide_eq_false_iff_not] at h2
  · obtain ⟨x, hx⟩ : ∃ x, a[i]? = some x := ⟨_, List.getElem?_eq_getElem (by omega)⟩
    have hc := oc95 x (h x (List.mem_of_getElem? hx))
    have hg := fill_get It.t it0 a i (by omega)
    have hf := fill_set It.t it0 a i x hx
    rw [It.t_def] at hc hf
    simp only [go_sem, List.getElem?_map, hx, List.length_map, hg, It.t_def]
    refine ⟨by omega, by omega, ?_⟩
    refine act_callE hc ?_
    simp only [go_sem, List.length_append, List.length_map, hg]
    refine ⟨by omega, by omega, ?_⟩
    refine nextK_of ⟨i + 1, by omega⟩ (by simp only [go_sem]) ?_ (by dsimp only; omega)
    simp only [go_sem]
    rw [wrap64O (by omega) (by omega), hf]; rfl
  · have : i = a.length := by omega
    subst this
    simp
    exact List.take_of_length_le (by simp)
theorem oc30 (a : List It) (r : Int) (ha : a.length ≤ 1048576) (h : ∀ o ∈ a, Sm o.o) : CS Try.prog false 17 [.v (docT a r)] [docT a r] [] := by
  have hc := oc70 a ha h
  unfold docT its at *
  refine CS_act tab_ok mdO Try.func17 rfl rfl Try.ntmps17 (rl := [.cell 2 48]) rfl (Nat.le_of_ble_eq_true rfl) ?_
  simp only [go_sem]
  refine act_callE hc ?_
  simp only [go_sem]
theorem oc40 (x : It) (h : Sm x.o) : CS Try.prog false 19 [.v x.t, .v x.t] [.bool true] [] := by
  have hc := oc23' x.o h
  rw [Ob.t_mk] at hc
  rw [It.t_def]
  refine CS_act tab_ok mdO Try.func19 rfl rfl Try.ntmps19 (rl := [.tmp 4]) rfl (Nat.le_of_ble_eq_true rfl) ?_
  simp only [go_sem, bne_self_eq_false, beq_self_eq_true]
  refine act_callE hc ?_
  simp only [go_sem, bne_self_eq_false, beq_self_eq_true]
theorem oc73 (a : List It) (ha : a.length ≤ 1048576) (hh : ∀ o ∈ a, Sm o.o) : CS Try.prog false 53 [.v (its a), .v (its a)] [.bool true] [] := by
  refine CS_act tab_ok mdO Try.func53 rfl rfl Try.ntmps53 (rl := [.tmp 4]) rfl (Nat.le_of_ble_eq_true rfl) ?_
  simp only [go_sem, its, List.length_map, bne_self_eq_false]
  refine act_loop_of (md := mdO) tab_ok [0,1,5] [] 1000 (ι := {i : Nat // i ≤ a.length}) (fun i => ⟨[(0, .a (.c (.t (.list 8 (a.map It.t))))), (1, .a (.c (.t (.list 8 (a.map It.t))))), (5, .a (.c (.t (.int .i64 i.1))))], [], 1000, 27⟩) (fun i => a.length - i.1) ⟨0, by omega⟩ (Nat.le_of_ble_eq_true rfl) (by simp only [go_sem]) (by simp only [go_sem]; rfl) fun i => ?_
  obtain ⟨i, hi⟩ := i
  simp only [go_sem, List.length_map]
  refine act_split (fun h => ?_) (fun h => ?_) <;> simp only [go_sem] <;> simp only [decide_eq_true_eq, decide_eq_false_iff_not] at h
  obtain ⟨x, hx⟩ : ∃ x, a[i]? = some x := ⟨_, List.getElem?_eq_getElem (by omega)⟩
  have hc := oc40 x (hh x (List.mem_of_getElem? hx))
  rw [It.t_def] at hc
  refine act_draw_of tab_ok mix mdO ?_
  simp only [go_sem, List.getElem?_map, hx, List.length_map, It.t_def]
  refine ⟨by omega, by omega, by omega, by omega, ?_⟩
  refine act_callE hc ?_
  simp only [go_sem]
  refine ⟨drawOk_of (by kernel_rfl), ?_⟩
  refine nextK_of ⟨i + 1, by omega⟩ (by simp only [go_sem]) ?_ (by dsimp only; omega)
  simp only [go_sem]
  rw [wrap64O (by omega) (by omega)]; rfl
theorem oc32 (a : List It) (r : Int) (ha : a.length ≤ 1048576) (h : ∀ o ∈ a, Sm o.o) : CS Try.prog false 20 [.v (docT a r), .v (docT a r)] [.bool true] [] := by
  have hc := oc73 a ha h
  unfold docT its at *
  refine CS_act tab_ok mdO Try.func20 rfl rfl Try.ntmps20 (rl := [.tmp 4]) rfl (Nat.le_of_ble_eq_true rfl) ?_
  simp only [go_sem, bne_self_eq_false]
  refine act_callE hc ?_
  simp only [go_sem, bne_self_eq_false]
def szI (x : It) (left : Int) : Int := if szO x.o left < 0 then -1 else if szO x.o left - x.data.size < 0 then -1 else szO x.o left - x.data.size
def szIL : List It → Int → Int
  | [], left => left
  | o :: r, left => if szI o left < 0 then -1 else szIL r (szI o left)
def szD (l : List It) (left : Int) : Int := if left - l.length < 0 then -1 else szIL l (left - l.length)
theorem szI_le (x : It) (l : Int) (h : 0 ≤ l) : szI x l ≤ l := by
  have := szO_le' x.o l h
  unfold szI
  split
  · omega
  · split <;> omega
theorem szI_neg (x : It) (l : Int) : szI x l < 0 → szI x l = -1 := by
  unfold szI
  split
  · intro _; rfl
  · split
    · intro _; rfl
    · intro h; omega
theorem szIL_neg : ∀ (l : List It) (x : Int), 0 ≤ x → szIL l x = -1 ∨ 0 ≤ szIL l x
  | [], x, h => by rw [szIL]; exact .inr h
  | o :: r, x, h => by
    rw [szIL]
    split
    · exact .inl rfl
    · exact szIL_neg r _ (by omega)
theorem szD_neg (l : List It) (x : Int) : szD l x < 0 → szD l x = -1 := by
  unfold szD
  split
  · intro _; rfl
  · rename_i h
    intro h2
    rcases szIL_neg l (x - l.length) (by omega) with h3 | h3 <;> omega
theorem oc94 (x : It) (hW : Wd x.o) (hs : x.data.size ≤ 9223372036854775807) (left : Int) (h0 : 0 ≤ left) (h1 : left ≤ 1048576) : CS Try.prog false 64 [.v x.t, .v (.int .i64 left)] [.int .i64 (szI x left)] [] := by
  have hc := oc19' x.o hW left h0 h1
  have hle := szO_le' x.o left h0
  unfold szI
  generalize szO x.o left = z at hc hle ⊢
  rw [Ob.t_mk] at hc
  rw [It.t_def]
  refine CS_act tab_ok mdO Try.func64 rfl rfl Try.ntmps64 (rl := [.tmp 4]) rfl (Nat.le_of_ble_eq_true rfl) ?_
  simp only [go_sem]
  refine act_callE hc ?_
  simp only [go_sem]
  refine act_split (fun h => ?_) (fun h => ?_) <;> simp only [go_sem] <;> simp only [decide_eq_true_eq, decide_eq_false_iff_not] at h
  · rw [if_pos h]
  rw [if_neg h]
  have hw := wrap64O (n := z - x.data.size) (by omega) (by omega)
  simp only [hw]
  refine act_split (fun h2 => ?_) (fun h2 => ?_) <;> simp only [go_sem] <;> simp only [decide_eq_true_eq, decide_eq_false_iff_not] at h2
  · rw [if_pos h2]
  · rw [if_neg h2, hw]
theorem oc67 (a : List It) (left : Int) (h0 : 0 ≤ left) (h1 : left ≤ 1048576) (hl : a.length ≤ 9223372036854775807) (hW : ∀ o ∈ a, Wd o.o ∧ o.data.size ≤ 9223372036854775807) :
    CS Try.prog false 45 [.v (its a), .v (.int .i64 left)] [.int .i64 (szD a left)] [] := by
  refine CS_act tab_ok mdO Try.func45 rfl rfl Try.ntmps45 (rl := [.tmp 4]) rfl (Nat.le_of_ble_eq_true rfl) ?_
  simp only [go_sem, its, List.length_map, wrap64O (n := left - a.length) (by omega) (by omega)]
  refine act_split (fun h => ?_) (fun h => ?_) <;> simp only [go_sem] <;> simp only [decide_eq_true_eq, decide_eq_false_iff_not] at h
  · simp [szD, h]
  refine act_loop_of (md := mdO) tab_ok [0,1,5] [] 1000 (ι := {p : Nat × Int // p.1 ≤ a.length ∧ 0 ≤ p.2 ∧ p.2 ≤ 1048576 ∧ szIL (a.drop p.1) p.2 = szD a left})
    (fun p => ⟨[(0, .a (.c (.t (.list 8 (a.map It.t))))), (1, .a (.c (.t (.int .i64 p.1.2)))), (5, .a (.c (.t (.int .i64 p.1.1))))], [], 1000, 27⟩) (fun p => a.length - p.1.1) ⟨(0, left - a.length), by omega, by omega, by omega, by simp [szD, h]⟩ (Nat.le_of_ble_eq_true rfl) (by simp only [go_sem]) (by simp only [go_sem]; rfl) fun p => ?_
  obtain ⟨⟨i, l⟩, hi, hl0, hl1, hz⟩ := p
  simp only [go_sem, List.length_map]
  refine act_split (fun h2 => ?_) (fun h2 => ?_) <;> simp only [go_sem] <;> simp only [decide_eq_true_eq, decide_eq_false_iff_not] at h2
  · obtain ⟨x, hx⟩ : ∃ x, a[i]? = some x := ⟨_, List.getElem?_eq_getElem (by omega)⟩
    have hw := hW x (List.mem_of_getElem? hx)
    have hc := oc94 x hw.1 hw.2 l hl0 hl1
    have hxl := szI_le x l hl0
    have hd : a.drop i = x :: a.drop (i + 1) := by
      rw [List.drop_eq_getElem_cons (by omega)]
      rw [List.getElem?_eq_getElem (by omega)] at hx; rw [Option.some.inj hx]
    dsimp only at hz
    rw [hd, szIL] at hz
    generalize szI x l = y at hc hxl hz
    rw [It.t_def] at hc
    simp only [go_sem, List.getElem?_map, hx, List.length_map, It.t_def]
    refine ⟨by omega, by omega, ?_⟩
    refine act_callE hc ?_
    simp only [go_sem]
    refine act_split (fun h3 => ?_) (fun h3 => ?_) <;> simp only [go_sem] <;> simp only [decide_eq_true_eq, decide_eq_false_iff_not] at h3
    · rw [if_pos h3] at hz
      rw [← hz]
    · rw [if_neg h3] at hz
      refine nextK_of ⟨(i + 1, y), by omega, by omega, by omega, hz⟩ (by simp only [go_sem]) ?_ (by dsimp only; omega)
      simp only [go_sem]
      rw [wrap64O (by omega) (by omega)]; rfl
  · have : i = a.length := by omega
    subst this
    dsimp only at hz
    rw [List.drop_length, szIL] at hz
    rw [← hz]
theorem oc28 (a : List It) (r left : Int) (h0 : 0 ≤ left) (h1 : left ≤ 1048576) (hl : a.length ≤ 9223372036854775807) (hW : ∀ o ∈ a, Wd o.o ∧ o.data.size ≤ 9223372036854775807) :
    CS Try.prog false 15 [.v (docT a r), .v (.int .i64 left)] [.int .i64 (szD a left)] [] := by
  have hc := oc67 a left h0 h1 hl hW
  have hn := szD_neg a left
  generalize szD a left = z at hc hn ⊢
  unfold docT its at *
  refine CS_act tab_ok mdO Try.func15 rfl rfl Try.ntmps15 (rl := [.tmp 4]) rfl (Nat.le_of_ble_eq_true rfl) ?_
  simp only [go_sem]
  refine act_callE hc ?_
  simp only [go_sem]
  refine act_split (fun h => ?_) (fun h => ?_) <;> simp only [go_sem] <;> simp only [decide_eq_true_eq, decide_eq_false_iff_not] at h
  rw [hn h]
/-- What a measured document is. -/
theorem tn_of_szD (l : List It) (x : Int) (hx : x ≤ 1048576) (h : 0 ≤ szD l x) : l.length ≤ 1048576 ∧ ∀ o ∈ l, Tn o.o ∧ o.data.size ≤ 1048576 := by
  unfold szD at h
  split at h
  · omega
  refine ⟨by omega, ?_⟩
  have key : ∀ (l : List It) (y : Int), 0 ≤ y → y ≤ 1048576 → 0 ≤ szIL l y → ∀ o ∈ l, Tn o.o ∧ o.data.size ≤ 1048576 := fun l => by
    induction l with
    | nil => intro y _ _ _ o ho; cases ho
    | cons a r ih =>
      intro y hy0 hy1 hh o ho
      rw [szIL] at hh
      split at hh
      · omega
      rename_i hn
      have hle := szI_le a y hy0
      rcases List.mem_cons.1 ho with rfl | ho
      · unfold szI at hn hle
        have := szO_le' o.o y hy0
        split at hn
        · omega
        split at hn
        · omega
        exact ⟨tn_of_sz o.o y hy1 (by omega), by omega⟩
      · exact ih _ (by omega) (by omega) hh o ho
  exact key l _ (by omega) (by omega) h
end Go.Proofs.Ytjpcicjkbbbpiaa.M

/- Contracts for DocOk, part 2: what is looked for in lists. No condition. -/
namespace Go.Proofs.Ytjpcicjkbbbpiaa.M
open Go Go.Proofs
set_option maxRecDepth 100000
set_option maxHeartbeats 2000000
set_option linter.unusedSimpArgs false
/-- The first place below n where p holds, or -1. -/
def firstF (p : Nat → Bool) (n : Nat) : Int := match (List.range n).find? p with | some i => i | none => -1
theorem firstF_hit {p : Nat → Bool} {n i : Nat} (h : ∀ j, j < i → p j = false) (hi : i < n) (hp : p i = true) : firstF p n = i := by
  unfold firstF
  have : (List.range n).find? p = some i := List.find?_range_eq_some.2 ⟨hp, List.mem_range.2 hi, fun j hj => by simp [h j hj]⟩
  rw [this]
theorem firstF_none {p : Nat → Bool} {n : Nat} (h : ∀ j, j < n → p j = false) : firstF p n = -1 := by
  unfold firstF
  have : (List.range n).find? p = none := List.find?_range_eq_none.2 fun j hj => by simp [h j hj]
  rw [this]
theorem firstF_cases (p : Nat → Bool) (n : Nat) : (firstF p n = -1 ∧ ∀ j, j < n → p j = false) ∨ ∃ i, i < n ∧ firstF p n = i ∧ p i = true ∧ ∀ j, j < i → p j = false := by
  cases h : (List.range n).find? p with
  | none =>
    have := List.find?_range_eq_none.1 h
    exact .inl ⟨by unfold firstF; rw [h], fun j hj => by simpa using this j hj⟩
  | some i =>
    obtain ⟨h1, h2, h3⟩ := List.find?_range_eq_some.1 h
    exact .inr ⟨i, List.mem_range.1 h2, by unfold firstF; rw [h], h1, fun j hj => by simpa using h3 j hj⟩
def keyP (a : List ByteArray) (v : ByteArray) (j : Nat) : Bool := match a[j]? with | some x => v.toList == x.toList | none => false
def keyAt (a : List ByteArray) (v : ByteArray) : Int := firstF (keyP a v) a.length
theorem oc57 (a : List ByteArray) (v : ByteArray) (ha : a.length ≤ 1048576) : CS Try.prog false 30 [.v (strs a), .v (.str v)] [.int .i64 (keyAt a v)] [] := by
  refine CS_act tab_ok mdO Try.func30 rfl rfl Try.ntmps30 (rl := [.tmp 4]) rfl (Nat.le_of_ble_eq_true rfl) ?_
  simp only [go_sem, strs, List.length_map]
  refine act_loop_of (md := mdO) tab_ok [0,1,7,8] [] 1000 (ι := {i : Nat // i ≤ a.length ∧ ∀ j, j < i → keyP a v j = false}) (fun i => ⟨[(0, .a (.c (.t (.list 1 (a.map T.str))))), (1, .a (.c (.t (.str v)))), (7, .a (.c (.t (.int .i64 a.length)))), (8, .a (.c (.t (.int .i64 i.1))))], [], 1000, 19⟩) (fun i => a.length - i.1) ⟨0, by omega, by simp⟩ (Nat.le_of_ble_eq_true rfl) (by simp only [go_sem]) (by simp only [go_sem]; rfl) fun i => ?_
  obtain ⟨i, hi, ht⟩ := i
  simp only [go_sem, List.length_map]
  refine act_split (fun h => ?_) (fun h => ?_) <;> simp only [go_sem] <;> simp only [decide_eq_true_eq, decide_eq_false_iff_not] at h
  · obtain ⟨x, hx⟩ : ∃ x, a[i]? = some x := ⟨_, List.getElem?_eq_getElem (by omega)⟩
    simp only [go_sem, List.getElem?_map, hx, List.length_map]
    refine ⟨by omega, by omega, ?_⟩
    refine act_split (fun h2 => ?_) (fun h2 => ?_) <;> simp only [go_sem]
    · unfold keyAt
      rw [firstF_hit ht (by omega) (by simp [keyP, hx, h2])]
    · refine nextK_of ⟨i + 1, by omega, all_succ ht (by simp [keyP, hx, h2])⟩ (by simp only [go_sem]) ?_ (by dsimp only; omega)
      simp only [go_sem]
      rw [wrap64O (by omega) (by omega)]; rfl
  · unfold keyAt
    rw [firstF_none fun j hj => ht j (by omega)]
def atB (k : Int) (ks : List ByteArray) (kl : Nat) (v : ByteArray) : Int := if (k == 8) = false then -1 else if ks.length = kl then keyAt ks v else -1
theorem oc53 (k n : Int) (s : ByteArray) (ks : List ByteArray) (kids : List Ob) (v : ByteArray) (ha : ks.length ≤ 1048576) : CS Try.prog false 26 [.v (Ob.mk k n s ks kids).t, .v (.str v)] [.int .i64 (atB k ks kids.length v)] [] := by
  rw [Ob.t_mk]
  unfold atB
  refine CS_act tab_ok mdO Try.func26 rfl rfl Try.ntmps26 (rl := [.tmp 4]) rfl (Nat.le_of_ble_eq_true rfl) ?_
  simp only [go_sem, List.length_map, bne]
  refine act_split (fun h => ?_) (fun h => ?_) <;> simp only [go_sem, h, List.length_map, bne]
  refine act_split_notO (fun h2 => ?_) (fun h2 => ?_) <;> simp only [go_sem, h2, List.length_map, bne]
  · rw [if_neg (by simp at h2; omega)]
  rw [if_pos (by simp at h2; omega)]
  refine act_loop_of (md := mdO) tab_ok [1,2,5] [0] 2000 (ι := {i : Nat // i ≤ ks.length ∧ ∀ j, j < i → keyP ks v j = false}) (fun i => ⟨[(1, .a (.c (.t (.str v)))), (2, .a (.c (.ptr 0 0))), (5, .a (.c (.t (.int .i64 i.1))))], [(0, .box [.t (.int .i64 k), .t (.int .i64 n), .t (.str s), .t (.list 1 (ks.map T.str)), .t (.list 5 (kids.map Ob.t))])], 2000, 33⟩) (fun i => ks.length - i.1) ⟨0, by omega, by simp⟩ (Nat.le_of_ble_eq_true rfl) (by simp only [go_sem]) (by simp only [go_sem]; rfl) fun i => ?_
  obtain ⟨i, hi, ht⟩ := i
  simp only [go_sem, List.length_map]
  refine act_split (fun h => ?_) (fun h => ?_) <;> simp only [go_sem] <;> simp only [decide_eq_true_eq, decide_eq_false_iff_not] at h
  · obtain ⟨x, hx⟩ : ∃ x, ks[i]? = some x := ⟨_, List.getElem?_eq_getElem (by omega)⟩
    simp only [go_sem, List.getElem?_map, hx, List.length_map]
    refine ⟨by omega, by omega, ?_⟩
    refine act_split (fun h2 => ?_) (fun h2 => ?_) <;> simp only [go_sem]
    · unfold keyAt
      rw [firstF_hit ht (by omega) (by simp only [keyP, hx]; rw [beq_iff_eq] at h2 ⊢; exact h2.symm)]
    · refine nextK_of ⟨i + 1, by omega, all_succ ht (by simp only [keyP, hx]; rw [beq_eq_false_iff_ne] at h2 ⊢; exact fun hh => h2 hh.symm)⟩ (by simp only [go_sem]) ?_ (by dsimp only; omega)
      simp only [go_sem]
      rw [wrap64O (by omega) (by omega)]; rfl
  · unfold keyAt
    rw [firstF_none fun j hj => ht j (by omega)]
def numP (a : List It) (n : Int) (j : Nat) : Bool := match a[j]? with | some x => x.num == n | none => false
def numAt (a : List It) (n : Int) : Int := firstF (numP a n) a.length
theorem oc69 (a : List It) (r num : Int) (ha : a.length ≤ 1048576) : CS Try.prog false 46 [.v (docT a r), .v (.int .i64 num)] [.int .i64 (numAt a num)] [] := by
  unfold docT its
  refine CS_act tab_ok mdO Try.func46 rfl rfl Try.ntmps46 (rl := [.tmp 4]) rfl (Nat.le_of_ble_eq_true rfl) ?_
  simp only [go_sem, List.length_map]
  refine act_loop_of (md := mdO) tab_ok [1,2,5] [0] 1000 (ι := {i : Nat // i ≤ a.length ∧ ∀ j, j < i → numP a num j = false}) (fun i => ⟨[(1, .a (.c (.t (.int .i64 num)))), (2, .a (.c (.ptr 0 0))), (5, .a (.c (.t (.int .i64 i.1))))], [(0, .box [.t (.list 8 (a.map It.t)), .t (.int .i64 r)])], 1000, 22⟩) (fun i => a.length - i.1) ⟨0, by omega, by simp⟩ (Nat.le_of_ble_eq_true rfl) (by simp only [go_sem]) (by simp only [go_sem]; rfl) fun i => ?_
  obtain ⟨i, hi, ht⟩ := i
  simp only [go_sem, List.length_map]
  refine act_split (fun h => ?_) (fun h => ?_) <;> simp only [go_sem] <;> simp only [decide_eq_true_eq, decide_eq_false_iff_not] at h
  · obtain ⟨x, hx⟩ : ∃ x, a[i]? = some x := ⟨_, List.getElem?_eq_getElem (by omega)⟩
    simp only [go_sem, List.getElem?_map, hx, List.length_map, It.t_def]
    refine ⟨by omega, by omega, ?_⟩
    refine act_split (fun h2 => ?_) (fun h2 => ?_) <;> simp only [go_sem]
    · unfold numAt
      rw [firstF_hit ht (by omega) (by simp only [numP, hx, h2])]
    · refine nextK_of ⟨i + 1, by omega, all_succ ht (by simp only [numP, hx, h2])⟩ (by simp only [go_sem]) ?_ (by dsimp only; omega)
      simp only [go_sem]
      rw [wrap64O (by omega) (by omega)]; rfl
  · unfold numAt
    rw [firstF_none fun j hj => ht j (by omega)]
theorem oc97 (x : It) (num : Int) : CS Try.prog false 69 [.v x.t, .mb [.t (.int .i64 num)]] [.bool (x.num == num)] [[.t (.int .i64 num)]] := by
  rw [It.t_def]
  refine CS_act tab_ok mdO Try.func69 rfl rfl Try.ntmps69 (rl := [.tmp 3]) rfl (Nat.le_of_ble_eq_true rfl) ?_
  simp only [go_sem]
theorem oc96 (a : List It) (num : Int) (ha : a.length ≤ 1048576) : CS Try.prog false 68 [.v (its a), .clo 69 [.t (.int .i64 num)]] [.int .i64 (numAt a num)] [[.t (.int .i64 num)]] := by
  unfold its
  refine CS_act tab_ok mdO Try.func68 rfl rfl Try.ntmps68 (rl := [.tmp 4]) rfl (Nat.le_of_ble_eq_true rfl) ?_
  simp only [go_sem, List.length_map]
  refine act_loop_of (md := mdO) tab_ok [0,1,7,8] [0] 1000 (ι := {i : Nat // i ≤ a.length ∧ ∀ j, j < i → numP a num j = false}) (fun i => ⟨[(0, .a (.c (.t (.list 8 (a.map It.t))))), (1, .a (.c (.clo 69 0))), (7, .a (.c (.t (.int .i64 a.length)))), (8, .a (.c (.t (.int .i64 i.1))))], [(0, .box [.t (.int .i64 num)])], 1000, 19⟩) (fun i => a.length - i.1) ⟨0, by omega, by simp⟩ (Nat.le_of_ble_eq_true rfl) (by simp only [go_sem]) (by simp only [go_sem]; rfl) fun i => ?_
  obtain ⟨i, hi, ht⟩ := i
  simp only [go_sem, List.length_map]
  refine act_split (fun h => ?_) (fun h => ?_) <;> simp only [go_sem] <;> simp only [decide_eq_true_eq, decide_eq_false_iff_not] at h
  · obtain ⟨x, hx⟩ : ∃ x, a[i]? = some x := ⟨_, List.getElem?_eq_getElem (by omega)⟩
    have hc := oc97 x num
    rw [It.t_def] at hc
    simp only [go_sem, List.getElem?_map, hx, List.length_map, It.t_def]
    refine ⟨by omega, by omega, ?_⟩
    refine act_callE hc ?_
    simp only [go_sem]
    refine act_split (fun h2 => ?_) (fun h2 => ?_) <;> simp only [go_sem]
    · unfold numAt
      rw [firstF_hit ht (by omega) (by simp only [numP, hx, h2])]
    · refine nextK_of ⟨i + 1, by omega, all_succ ht (by simp only [numP, hx, h2])⟩ (by simp only [go_sem]) ?_ (by dsimp only; omega)
      simp only [go_sem]
      rw [wrap64O (by omega) (by omega)]; rfl
  · unfold numAt
    rw [firstF_none fun j hj => ht j (by omega)]
theorem oc72 (a : List It) (r num : Int) (ha : a.length ≤ 1048576) : CS Try.prog false 50 [.v (docT a r), .v (.int .i64 num)] [.int .i64 (numAt a num)] [] := by
  have hc := oc96 a num ha
  unfold docT its at *
  refine CS_act tab_ok mdO Try.func50 rfl rfl Try.ntmps50 (rl := [.tmp 4]) rfl (Nat.le_of_ble_eq_true rfl) ?_
  simp only [go_sem]
  refine act_callE hc ?_
  simp only [go_sem]
end Go.Proofs.Ytjpcicjkbbbpiaa.M

/- Contracts for DocOk, part 3: copies. No condition. -/
namespace Go.Proofs.Ytjpcicjkbbbpiaa.M
open Go Go.Proofs
set_option maxRecDepth 100000
set_option maxHeartbeats 2000000
set_option linter.unusedSimpArgs false
abbrev zObj : List C := [.t (.int .i64 0), .t (.int .i64 0), .t (.str ⟨#[]⟩), .nil 1, .nil 5]
theorem take_map_succ {α β : Type} (f : α → β) (a : List α) (i : Nat) (x : α) (hx : a[i]? = some x) : (a.take i).map f ++ [f x] = (a.take (i + 1)).map f := by
  rw [List.take_add_one, hx]; simp
theorem oc58 (k n : Int) (s : ByteArray) (ks : List ByteArray) (kids : List Ob) (h1 : ks.length ≤ 1048576) (h2 : kids.length ≤ 1048576) (hh : ∀ o ∈ kids, CS Try.prog false 31 [.v o.t] [o.t] []) :
    CS Try.prog false 31 [.v (Ob.mk k n s ks kids).t] [(Ob.mk k n s ks kids).t] [] := by
  rw [Ob.t_mk]
  refine CS_act tab_ok mdO Try.func31 rfl rfl Try.ntmps31 (rl := [.cell 2 29]) rfl (Nat.le_of_ble_eq_true rfl) ?_
  simp only [go_sem, List.length_map]
  refine act_draw_of tab_ok mix mdO ?_
  simp only [go_sem, List.length_map]
  refine ⟨by omega, drawOk_of (by kernel_rfl), ?_⟩
  refine WWE_nilbox 208 4 5 900 rfl rfl (Nat.le_of_ble_eq_true rfl) ?_
  refine act_loop_of (md := mdO) tab_ok [2,3,18,19,20] [16,128,208,900] 1000 (ι := {i : Nat // i ≤ kids.length})
    (fun i => ⟨[(2, .a (.c (.ptr 16 0))), (3, .a (.c (.ptr 208 0))), (18, .a (.c (.t (.list 5 (kids.map Ob.t))))), (19, .a (.c (.t (.int .i64 kids.length)))), (20, .a (.c (.t (.int .i64 i.1))))],
      [(16, .box zObj), (128, .arr 1 (ks.map T.str) 1), (208, .box [.t (.int .i64 k), .t (.int .i64 n), .t (.str s), .own 128 1 0 ks.length, .own 900 i.1 0 i.1]), (900, .arr 5 ((kids.take i.1).map Ob.t) i.1)], 1000, 33⟩)
    (fun i => kids.length - i.1) ⟨0, by omega⟩ (Nat.le_of_ble_eq_true rfl) (by simp only [go_sem]) (by simp only [go_sem]; simp) fun i => ?_
  obtain ⟨i, hi⟩ := i
  simp only [go_sem]
  refine act_split (fun h3 => ?_) (fun h3 => ?_) <;> simp only [go_sem] <;> simp only [decide_eq_true_eq, decide_eq_false_iff_not] at h3
  · obtain ⟨x, hx⟩ : ∃ x, kids[i]? = some x := ⟨_, List.getElem?_eq_getElem (by omega)⟩
    have hc := hh x (List.mem_of_getElem? hx)
    have ht := take_map_succ Ob.t kids i x hx
    have hlt : ((kids.take i).map Ob.t).length = i := by simp; omega
    obtain ⟨k', n', s', ks', kids'⟩ := x
    rw [Ob.t_mk] at hc ht
    simp only [go_sem, List.getElem?_map, hx, List.length_map, Ob.t_mk]
    refine ⟨by omega, by omega, ?_⟩
    refine act_draw_of tab_ok mix mdO ?_
    simp only [go_sem]
    refine act_callE hc ?_
    simp only [go_sem, hlt]
    refine ⟨by omega, drawOk_of (by kernel_rfl), ?_⟩
    refine nextK_of ⟨i + 1, by omega⟩ (by simp only [go_sem]) ?_ (by dsimp only; omega)
    simp only [go_sem]
    rw [wrap64O (by omega) (by omega), ht]; rfl
  · have : i = kids.length := by omega
    subst this
    simp
    exact ⟨List.take_of_length_le (by simp), List.take_of_length_le (by simp)⟩
theorem oc58' : ∀ o : Ob, Sm o → CS Try.prog false 31 [.v o.t] [o.t] []
  | .mk k n s ks kids, h => by
    cases h with
    | mk _ _ _ _ _ h1 h2 h3 => exact oc58 k n s ks kids h1 h2 fun o ho => oc58' o (h3 o ho)
  decreasing_by
  have := List.sizeOf_lt_of_mem ho
  simp only [Ob.mk.sizeOf_spec]
  omega
theorem oc54 (k n : Int) (s : ByteArray) (ks : List ByteArray) (kids : List Ob) (h1 : ks.length ≤ 1048576) (h2 : kids.length ≤ 1048576) (hh : ∀ o ∈ kids, CS Try.prog false 27 [.v o.t] [o.t] []) :
    CS Try.prog false 27 [.v (Ob.mk k n s ks kids).t] [(Ob.mk k n s ks kids).t] [] := by
  rw [Ob.t_mk]
  refine CS_act tab_ok mdO Try.func27 rfl rfl Try.ntmps27 (rl := [.cell 2 29]) rfl (Nat.le_of_ble_eq_true rfl) ?_
  simp only [go_sem, List.length_map]
  refine ⟨by omega, ?_⟩
  refine act_loop_of (md := mdO) tab_ok [1,2,3,4] [0,16,32,128] 1000 (ι := {i : Nat // i ≤ kids.length})
    (fun i => ⟨[(1, .a (.c (.ptr 0 0))), (2, .a (.c (.ptr 16 0))), (3, .a (.c (.own 128 i.1 0 i.1))), (4, .a (.c (.t (.int .i64 i.1))))],
      [(0, .box [.t (.int .i64 k), .t (.int .i64 n), .t (.str s), .own 32 1 0 ks.length, .t (.list 5 (kids.map Ob.t))]), (16, .box zObj), (32, .arr 1 (ks.map T.str) 1), (128, .arr 5 ((kids.take i.1).map Ob.t) i.1)], 1000, 30⟩)
    (fun i => kids.length - i.1) ⟨0, by omega⟩ (Nat.le_of_ble_eq_true rfl) (by simp only [go_sem]) (by simp only [go_sem]; simp) fun i => ?_
  obtain ⟨i, hi⟩ := i
  simp only [go_sem, List.length_map]
  refine act_split (fun h3 => ?_) (fun h3 => ?_) <;> simp only [go_sem] <;> simp only [decide_eq_true_eq, decide_eq_false_iff_not] at h3
  · obtain ⟨x, hx⟩ : ∃ x, kids[i]? = some x := ⟨_, List.getElem?_eq_getElem (by omega)⟩
    have hc := hh x (List.mem_of_getElem? hx)
    have ht := take_map_succ Ob.t kids i x hx
    have hlt : ((kids.take i).map Ob.t).length = i := by simp; omega
    obtain ⟨k', n', s', ks', kids'⟩ := x
    rw [Ob.t_mk] at hc ht
    simp only [go_sem, List.getElem?_map, hx, List.length_map, Ob.t_mk]
    refine ⟨by omega, by omega, ?_⟩
    refine act_callE hc ?_
    simp only [go_sem, hlt]
    refine ⟨by omega, ?_⟩
    refine nextK_of ⟨i + 1, by omega⟩ (by simp only [go_sem]) ?_ (by dsimp only; omega)
    simp only [go_sem]
    rw [wrap64O (by omega) (by omega), ht]; rfl
  · have : i = kids.length := by omega
    subst this
    simp
    exact ⟨List.take_of_length_le (by simp), List.take_of_length_le (by simp)⟩
theorem oc54' : ∀ o : Ob, Sm o → CS Try.prog false 27 [.v o.t] [o.t] []
  | .mk k n s ks kids, h => by
    cases h with
    | mk _ _ _ _ _ h1 h2 h3 => exact oc54 k n s ks kids h1 h2 fun o ho => oc54' o (h3 o ho)
  decreasing_by
  have := List.sizeOf_lt_of_mem ho
  simp only [Ob.mk.sizeOf_spec]
  omega
end Go.Proofs.Ytjpcicjkbbbpiaa.M

/- Contracts for DocOk, part 4: entries, items. No condition. -/
namespace Go.Proofs.Ytjpcicjkbbbpiaa.M
open Go Go.Proofs
set_option maxRecDepth 100000
set_option maxHeartbeats 2000000
set_option linter.unusedSimpArgs false
theorem atB_cases (k : Int) (ks : List ByteArray) (kl : Nat) (v : ByteArray) : atB k ks kl v = -1 ∨ ∃ i : Nat, atB k ks kl v = i ∧ i < kl ∧ k = 8 := by
  unfold atB
  split
  · exact .inl rfl
  · rename_i h
    split
    · rename_i hl
      unfold keyAt
      rcases firstF_cases (keyP ks v) ks.length with h1 | ⟨i, h1, h2, _⟩
      · exact .inl h1.1
      · exact .inr ⟨i, h2, by omega, by simpa using h⟩
    · exact .inl rfl
def entryO (k : Int) (ks : List ByteArray) (kids : List Ob) (v : ByteArray) : Option Ob := if atB k ks kids.length v < 0 then none else kids[(atB k ks kids.length v).toNat]?
def entR : Option Ob → List T
  | some o => [o.t, .bool true]
  | none => [ob0, .bool false]
theorem oc20 (k n : Int) (s : ByteArray) (ks : List ByteArray) (kids : List Ob) (v : ByteArray) (hS : Sm (.mk k n s ks kids)) : CS Try.prog false 7 [.v (Ob.mk k n s ks kids).t, .v (.str v)] (entR (entryO k ks kids v)) [] := by
  obtain ⟨h1, h2, h3⟩ : ks.length ≤ 1048576 ∧ kids.length ≤ 1048576 ∧ ∀ o ∈ kids, Sm o := by cases hS; exact ⟨by assumption, by assumption, by assumption⟩
  have hc := oc53 k n s ks kids v h1
  have ha := atB_cases k ks kids.length v
  unfold entryO
  generalize atB k ks kids.length v = z at hc ha ⊢
  rw [Ob.t_mk] at hc ⊢
  refine CS_act tab_ok mdO Try.func7 rfl rfl Try.ntmps7 (rl := [.cell 4 29, .tmp 5]) rfl (Nat.le_of_ble_eq_true rfl) ?_
  simp only [go_sem]
  refine act_callE hc ?_
  simp only [go_sem]
  rcases ha with rfl | ⟨i, rfl, hi, _⟩
  · simp only [go_sem, entR]
  · have e : ¬ (i : Int) < 0 := by omega
    obtain ⟨x, hx⟩ : ∃ x, kids[i]? = some x := ⟨_, List.getElem?_eq_getElem hi⟩
    have hcc := oc54' x (h3 x (List.mem_of_getElem? hx))
    obtain ⟨k', n', s', ks', kids'⟩ := x
    rw [Ob.t_mk] at hcc
    simp only [go_sem, e, List.length_map, List.getElem?_map, hx, Ob.t_mk, entR]
    refine ⟨by omega, by omega, ?_⟩
    refine act_callE hcc ?_
    simp only [go_sem]
theorem oc22 (k n : Int) (s : ByteArray) (ks : List ByteArray) (kids : List Ob) (v : ByteArray) (hS : Sm (.mk k n s ks kids)) : CS Try.prog false 9 [.v (Ob.mk k n s ks kids).t, .v (.str v)] (entR (entryO k ks kids v)) [] := by
  obtain ⟨h1, h2, h3⟩ : ks.length ≤ 1048576 ∧ kids.length ≤ 1048576 ∧ ∀ o ∈ kids, Sm o := by cases hS; exact ⟨by assumption, by assumption, by assumption⟩
  have hc := oc57 ks v h1
  have ha := firstF_cases (keyP ks v) ks.length
  unfold entryO atB
  unfold keyAt at *
  generalize firstF (keyP ks v) ks.length = z at hc ha ⊢
  rw [Ob.t_mk]
  refine CS_act tab_ok mdO Try.func9 rfl rfl Try.ntmps9 (rl := [.cell 4 29, .tmp 5]) rfl (Nat.le_of_ble_eq_true rfl) ?_
  simp only [go_sem]
  refine act_callE hc ?_
  simp only [go_sem, bne]
  refine act_split (fun g => ?_) (fun g => ?_) <;> simp only [go_sem, g, List.length_map, bne]
  · refine act_split (fun g2 => ?_) (fun g2 => ?_) <;> simp only [go_sem, g2, bne]
    · have e0 : ks.length = kids.length := by simp at g2; omega
      rw [if_pos e0]
      rcases ha with ⟨rfl, _⟩ | ⟨i, hi, rfl, _⟩
      · simp only [go_sem, entR]
      · have e : ¬ (i : Int) < 0 := by omega
        obtain ⟨x, hx⟩ : ∃ x, kids[i]? = some x := ⟨_, List.getElem?_eq_getElem (by omega)⟩
        have hcc := oc58' x (h3 x (List.mem_of_getElem? hx))
        obtain ⟨k', n', s', ks', kids'⟩ := x
        rw [Ob.t_mk] at hcc
        simp only [go_sem, e, List.length_map, List.getElem?_map, hx, Ob.t_mk, entR]
        refine ⟨by omega, by omega, ?_⟩
        refine act_callE hcc ?_
        simp only [go_sem]
    · have e0 : ¬ ks.length = kids.length := by simp at g2; omega
      rw [if_neg e0]
      simp only [go_sem, entR]
  · simp only [entR]
abbrev lenS : ByteArray := ⟨#[76, 101, 110, 103, 116, 104]⟩
def lenI (x : It) : Int := match entryO x.k x.ks x.kids lenS with | some (.mk k n _ _ _) => if k == 4 then n else -1 | none => -1
theorem oc68 (x : It) (hS : Sm x.o) : CS Try.prog false 66 [.v x.t] [.int .i64 (lenI x)] [] := by
  have hc := oc20 x.k x.n x.s x.ks x.kids lenS hS
  unfold lenI
  generalize entryO x.k x.ks x.kids lenS = e at hc ⊢
  rw [Ob.t_mk] at hc
  rw [It.t_def]
  refine CS_act tab_ok mdO Try.func66 rfl rfl Try.ntmps66 (rl := [.tmp 2]) rfl (Nat.le_of_ble_eq_true rfl) ?_
  simp only [go_sem]
  refine act_callE hc ?_
  cases e with
  | none => simp only [go_sem, entR]
  | some o =>
    obtain ⟨k', n', s', ks', kids'⟩ := o
    simp only [go_sem, entR, Ob.t_mk, bne]
    refine act_split_notO (fun g => ?_) (fun g => ?_) <;> simp only [go_sem, g]
def dataB (x : It) : Bool := if x.hd then (match entryO x.k x.ks x.kids lenS with | some (.mk k n _ _ _) => k == 4 && decide (n = (x.data.size : Int)) | none => false) else x.data.toList == (⟨#[]⟩ : ByteArray).toList
def itB (x : It) : Bool := inBO x.num 1 99 && decide (cntO x.o 0 ≤ 120) && dataB x
theorem oc71 (x : It) (hT : Tn x.o) : CS Try.prog false 70 [.v x.t] [.bool (itB x)] [] := by
  have hc := oc22 x.k x.n x.s x.ks x.kids lenS hT.sm
  have ho := oc27 x.o hT
  unfold itB dataB
  generalize decide (cntO x.o 0 ≤ 120) = ok at ho ⊢
  generalize entryO x.k x.ks x.kids lenS = e at hc ⊢
  rw [Ob.t_mk] at hc ho
  rw [It.t_def]
  refine CS_act tab_ok mdO Try.func70 rfl rfl Try.ntmps70 (rl := [.tmp 2]) rfl (Nat.le_of_ble_eq_true rfl) ?_
  simp only [go_sem]
  refine act_callE (oc45 _ _ _) ?_
  simp only [go_sem]
  refine act_split (fun g => ?_) (fun g => ?_) <;> simp only [go_sem, g]
  refine act_callE ho ?_
  simp only [go_sem]
  refine act_split_notO (fun g2 => ?_) (fun g2 => ?_) <;> simp only [go_sem, g2]
  refine act_split_notO (fun g3 => ?_) (fun g3 => ?_) <;> simp only [go_sem, g3]
  refine act_callE hc ?_
  cases e with
  | none => simp only [go_sem, entR]
  | some o =>
    obtain ⟨k', n', s', ks', kids'⟩ := o
    simp only [go_sem, entR, Ob.t_mk]
    refine act_split (fun g4 => ?_) (fun g4 => ?_) <;> simp only [go_sem, g4]
    have e : (n' == (x.data.size : Int)) = decide (n' = (x.data.size : Int)) := by rw [Bool.eq_iff_iff]; simp
    rw [e]
end Go.Proofs.Ytjpcicjkbbbpiaa.M

/- Contracts for Entry, part 2: copies of trees, in memory of their own all the way down. No condition. -/
namespace Go.Proofs.Ytjpcicjkbbbpiaa.M
open Go Go.Proofs
set_option maxRecDepth 100000
set_option maxHeartbeats 2000000
set_option linter.unusedSimpArgs false
set_option linter.unusedVariables false
/-- A tree told by its slices. -/
def obR (o : Ob) (y z : Sl) : T := match o with | .mk k n s _ _ => .agg [.int .i64 k, .int .i64 n, .str s, .raw y, .raw z]
def obD (o : Ob) (y z : Sl) : De := match o with | .mk _ _ _ ks kids => [(y, strs ks), (z, obs kids)]
theorem RAr_ob {o : Ob} {x : T} {e : De} (h : RAr o.t x e) : ∃ y z, x = obR o y z ∧ e = obD o y z := by
  obtain ⟨k, n, s, ks, kids⟩ := o
  rw [Ob.t_mk] at h
  obtain ⟨xs, rfl, h⟩ := h
  obtain ⟨x1, r1, d1, e1, rfl, rfl, ⟨rfl, _, rfl⟩, h⟩ := h
  obtain ⟨x2, r2, d2, e2, rfl, rfl, ⟨rfl, _, rfl⟩, h⟩ := h
  obtain ⟨x3, r3, d3, e3, rfl, rfl, ⟨rfl, _, rfl⟩, h⟩ := h
  obtain ⟨x4, r4, d4, e4, rfl, rfl, ⟨y, rfl, rfl⟩, h⟩ := h
  obtain ⟨x5, r5, d5, e5, rfl, rfl, ⟨z, rfl, rfl⟩, h⟩ := h
  obtain ⟨rfl, rfl⟩ := h
  exact ⟨y, z, rfl, rfl⟩
/-- Trees, one behind the other. -/
def obRs : List Ob → List (Sl × Sl) → List T
  | o :: r, p :: ps => obR o p.1 p.2 :: obRs r ps
  | _, _ => []
def obDs : List Ob → List (Sl × Sl) → De
  | o :: r, p :: ps => obD o p.1 p.2 ++ obDs r ps
  | _, _ => []
theorem obRs_len : ∀ {l : List Ob} {ps : List (Sl × Sl)}, ps.length = l.length → (obRs l ps).length = l.length
  | [], [], _ => rfl
  | o :: r, p :: ps, h => by simp [obRs, obRs_len (l := r) (ps := ps) (by simpa using h)]
theorem obRs_app : ∀ {l : List Ob} {ps : List (Sl × Sl)} (o : Ob) (p : Sl × Sl), ps.length = l.length → obRs (l ++ [o]) (ps ++ [p]) = obRs l ps ++ [obR o p.1 p.2]
  | [], [], o, p, _ => rfl
  | a :: r, q :: ps, o, p, h => by simp [obRs, obRs_app (l := r) (ps := ps) o p (by simpa using h)]
theorem obDs_app : ∀ {l : List Ob} {ps : List (Sl × Sl)} (o : Ob) (p : Sl × Sl), ps.length = l.length → obDs (l ++ [o]) (ps ++ [p]) = obDs l ps ++ obD o p.1 p.2
  | [], [], o, p, _ => by simp [obDs]
  | a :: r, q :: ps, o, p, h => by simp [obDs, obDs_app (l := r) (ps := ps) o p (by simpa using h)]
theorem obR_cells (o : Ob) (y z : Sl) : (obR o y z).cells.length = 5 := by obtain ⟨k, n, s, ks, kids⟩ := o; rfl
theorem RCL_app : ∀ {a b c e : List T} {d1 d2 : De}, RCL a c d1 → RCL b e d2 → RCL (a ++ b) (c ++ e) (d1 ++ d2)
  | [], b, c, e, d1, d2, ⟨h1, h2⟩, h => by subst h1 h2; exact h
  | x :: a, b, c, e, d1, d2, ⟨t, ts, f1, f2, h1, h2, h3, h4⟩, h => by subst h1 h2; exact ⟨t, ts ++ e, f1, f2 ++ d2, rfl, by simp, h3, RCL_app h4 h⟩
theorem RCL_ob (o : Ob) (y z : Sl) : RCL (obR o y z).cells o.t.cells (obD o y z) := by
  obtain ⟨k, n, s, ks, kids⟩ := o
  rw [Ob.t_mk]
  exact ⟨_, _, [], _, rfl, rfl, ⟨rfl, rfl, rfl⟩, _, _, [], _, rfl, rfl, ⟨rfl, rfl, rfl⟩, _, _, [], _, rfl, rfl, ⟨rfl, rfl, rfl⟩, _, _, [(y, _)], _, rfl, rfl, rfl, _, _, [(z, _)], _, rfl, rfl, rfl, rfl, rfl⟩
theorem RCL_obs : ∀ {l : List Ob} {ps : List (Sl × Sl)}, ps.length = l.length → RCL (flat (obRs l ps)) (flat (l.map Ob.t)) (obDs l ps)
  | [], [], _ => ⟨rfl, rfl⟩
  | o :: r, p :: ps, h => by
    have := RCL_app (RCL_ob o p.1 p.2) (RCL_obs (l := r) (ps := ps) (by simpa using h))
    exact this
theorem RT_obs {l : List Ob} {ps : List (Sl × Sl)} (h : ps.length = l.length) : RT (.list 5 (obRs l ps)) (obs l) (obDs l ps) :=
  ⟨l.map Ob.t, rfl, by rw [List.length_map, obRs_len h], fun e he => by
    obtain ⟨o, _, rfl⟩ := List.mem_map.1 he
    cases o with | mk => rw [Ob.t_mk]; rfl, RCL_obs h⟩
theorem sc_obRs : ∀ {l : List Ob} {ps : List (Sl × Sl)}, ps.length = l.length → Sc (obRs l ps)
  | [], [], _ => by intro t ht; cases ht
  | o :: r, p :: ps, h => by
    intro t ht
    have e : flat (obRs (o :: r) (p :: ps)) = (obR o p.1 p.2).cells ++ flat (obRs r ps) := rfl
    rw [e] at ht
    rcases List.mem_append.1 ht with ht | ht
    · obtain ⟨k, n, s, ks, kids⟩ := o
      simp only [obR, T.cells, List.mem_cons, List.not_mem_nil, or_false] at ht
      rcases ht with rfl | rfl | rfl | rfl | rfl <;> rfl
    · exact sc_obRs (l := r) (ps := ps) (by simpa using h) t ht
theorem RCL_strs : ∀ (l : List ByteArray), RCL (l.map T.str) (l.map T.str) []
  | [] => ⟨rfl, rfl⟩
  | x :: r => ⟨_, _, [], [], rfl, rfl, ⟨rfl, rfl, rfl⟩, RCL_strs r⟩
theorem RT_strs (l : List ByteArray) : RT (.list 1 (l.map T.str)) (strs l) [] := ⟨l.map T.str, rfl, rfl, fun e he => by
  obtain ⟨s, _, rfl⟩ := List.mem_map.1 he; rfl, by rw [flat_strs]; exact RCL_strs l⟩
abbrev D8 (o : Ob) : Prop := CSD Try.prog 8 [.b (.v o.t)] [o.t] []
abbrev D29 (l : List Ob) : Prop := CSD Try.prog 29 [.b (.v (obs l))] [obs l] []
theorem d8 (k n : Int) (s : ByteArray) (ks : List ByteArray) (kids : List Ob) (h1 : ks.length ≤ 1048576) (h : D29 kids) : D8 (.mk k n s ks kids) := by
  unfold D8
  rw [Ob.t_mk]
  refine CSD_views (xs := [.v (.agg [.int .i64 k, .int .i64 n, .str s, .list 1 (ks.map T.str), .list 5 (kids.map Ob.t)])]) tab_ok Try.func8 rfl rfl Try.ntmps8 (rl := [.cell 2 29]) rfl (Nat.le_of_ble_eq_true rfl) ?_
  refine WWD_seqB tab_ok mdE ?_
  simp only [go_sem]
  refine WWD_seqB tab_ok mdE ?_
  simp only [go_sem]
  refine WWD_seqB tab_ok mdE ?_
  simp only [go_sem]
  refine WWD_seqB tab_ok mdE ?_
  simp only [go_sem]
  refine WWD_seqB tab_ok mdE ?_
  simp only [go_sem]
  refine WWD_seqB tab_ok mdE ?_
  simp only [go_sem]
  refine act_callE (e28 ks h1) ?_
  simp only [go_sem, strs]
  refine WWD_seq ?_
  refine WWD_region tab_ok mdE 2 rfl rfl rfl ?_
  simp only [go_sem]
  refine ⟨[.b (.v (obs kids))], [obs kids], [], [], [], h, ⟨_, _, _, rfl, rfl, .inr rfl, rfl, rfl, rfl⟩, .refl _, ?_⟩
  rintro _ _ ⟨_, rfl, z, rfl, rfl⟩
  unfold restD
  simp only [go_sem]
  refine WWD_seqB tab_ok mdE ?_
  simp only [go_sem]
  refine WWD_act tab_ok mdE ?_
  simp only [go_sem]
  refine ⟨[.agg [.int .i64 k, .int .i64 n, .str s, .list 1 (ks.map T.str), .raw z]], [], ?_, rfl, [(z, obs kids)], [], ?_, .refl _⟩
  · simp only [go_sem]
    rw [List.take_of_length_le (Nat.le_refl _)]
    exact ⟨Nat.le_refl _, sc_strs ks, rfl⟩
  · exact ⟨_, [], _, [], rfl, (List.append_nil _).symm, ⟨_, rfl, _, _, [], _, rfl, rfl, ⟨rfl, rfl, rfl⟩, _, _, [], _, rfl, rfl, ⟨rfl, rfl, rfl⟩, _, _, [], _, rfl, rfl, ⟨rfl, rfl, rfl⟩, _, _, [], _, rfl, rfl, RT_strs ks, _, _, _, [], rfl, (List.append_nil _).symm, rfl, rfl, rfl⟩, rfl, rfl⟩
theorem d29 (a : List Ob) (ha : a.length ≤ 1048576) (h : ∀ o ∈ a, D8 o) : D29 a := by
  unfold D29 obs
  refine CSD_views (xs := [.v (.list 5 (a.map Ob.t))]) tab_ok Try.func29 rfl rfl Try.ntmps29 (rl := [.tmp 2]) rfl (Nat.le_of_ble_eq_true rfl) ?_
  refine WWD_seqB tab_ok mdE ?_
  simp only [go_sem]
  refine WWD_seqB tab_ok mdE ?_
  simp only [go_sem, List.length_map]
  refine ⟨by omega, by omega, by omega, by omega, ?_⟩
  refine WWD_seq ?_
  refine WWD_seqB tab_ok mdE ?_
  simp only [go_sem]
  refine WWD_block ?_
  refine WWD_loop (ι := {p : Nat × List (Sl × Sl) // p.1 ≤ a.length ∧ p.2.length = p.1}) [0,3,4] [48] 1000 (fun p => ⟨[(0, .a (.c (.t (.list 5 (a.map Ob.t))))), (3, .a (.c (.own 48 0 0 a.length))), (4, .a (.c (.t (.int .i64 p.1.1))))], [(48, .arr 5 (obRs (a.take p.1.1) p.1.2 ++ List.replicate (a.length - p.1.1) ob0) 0)], 1000, 23⟩)
    (fun p => obDs (a.take p.1.1) p.1.2) (fun p => a.length - p.1.1) ⟨(0, []), Nat.zero_le _, rfl⟩ [] (Nat.le_of_ble_eq_true rfl) (by simp only [go_sem]) (by simp only [go_sem]; rfl) (.refl _) fun p => ?_
  obtain ⟨⟨i, ps⟩, hi, hps⟩ := p
  dsimp only at hi hps
  have hps' : ps.length = (a.take i).length := by rw [List.length_take]; omega
  refine WWD_seqB tab_ok mdE ?_
  simp only [go_sem, List.length_map]
  by_cases hil : i < a.length
  · have e1 : decide ((i : Int) < a.length) = true := by simp; omega
    simp only [go_sem, e1]
    refine WWD_seq ?_
    refine WWD_block ?_
    refine WWD_region tab_ok mdE 6 rfl rfl rfl ?_
    obtain ⟨x, hx⟩ : ∃ x, a[i]? = some x := ⟨_, List.getElem?_eq_getElem (by omega)⟩
    have hc := h x (List.mem_of_getElem? hx)
    have htk : a.take (i + 1) = a.take i ++ [x] := by rw [List.take_add_one, hx]; rfl
    obtain ⟨k, n, s, ks, kids⟩ := x
    simp only [go_sem, List.getElem?_map, hx, List.length_map, Ob.t_mk]
    refine ⟨by omega, by omega, ?_⟩
    refine ⟨[.b (.v (Ob.mk k n s ks kids).t)], [(Ob.mk k n s ks kids).t], [], [], _, hc, ⟨_, _, _, rfl, rfl, ?_, rfl, rfl, rfl⟩, .refl _, ?_⟩
    · rw [Ob.t_mk]
      exact ⟨_, rfl, _, _, rfl, .inr rfl, _, _, rfl, .inr rfl, _, _, rfl, .inr rfl, _, _, rfl, .inr rfl, _, _, rfl, .inr rfl, rfl⟩
    rintro _ _ ⟨_, rfl, h⟩
    obtain ⟨y, z, rfl, rfl⟩ := RAr_ob h
    have hlr := obRs_len hps'
    have hg : (obRs (a.take i) ps ++ List.replicate (a.length - i) ob0)[i]? = some ob0 := by
      rw [List.getElem?_append_right (by rw [hlr, List.length_take]; omega), hlr, List.length_take, List.getElem?_replicate, if_pos (by omega)]
    have hset : (obRs (a.take i) ps ++ List.replicate (a.length - i) ob0).set i (.agg [.int .i64 k, .int .i64 n, .str s, .raw y, .raw z]) = obRs (a.take (i + 1)) (ps ++ [(y, z)]) ++ List.replicate (a.length - (i + 1)) ob0 := by
      show (obRs (a.take i) ps ++ List.replicate (a.length - i) ob0).set i (obR (.mk k n s ks kids) y z) = _
      obtain ⟨q, hq⟩ : ∃ q, a.length - i = q + 1 := ⟨a.length - i - 1, by omega⟩
      rw [htk, obRs_app _ _ hps', hq, List.replicate_succ, show a.length - (i + 1) = q by omega]
      have : (obRs (a.take i) ps).length = i := by rw [hlr, List.length_take]; omega
      simp [List.set_append, this]
    unfold restD obR
    simp only [go_sem, hg]
    refine ⟨by omega, by omega, ?_⟩
    rw [hset]
    refine WWD_act tab_ok mdE ?_
    simp only [go_sem]
    refine nextD_of (ks := [0,3,4]) (hs := [48]) ⟨(i + 1, ps ++ [(y, z)]), by dsimp only; omega, by simp [hps]⟩ [] (by simp only [go_sem]) ?_ (by dsimp only; omega) ?_
    · simp only [go_sem]
      rw [wrap64O (by omega) (by omega)]; rfl
    · dsimp only
      rw [htk, obDs_app _ _ hps', List.append_nil]
      exact List.perm_append_comm
  · obtain rfl : i = a.length := by omega
    have e1 : decide ((a.length : Int) < a.length) = false := by simp
    have e2 : a.take a.length = a := List.take_of_length_le (Nat.le_refl _)
    have hps2 : ps.length = a.length := hps
    simp only [go_sem, e1, e2, Nat.sub_self]
    refine WWD_seqB tab_ok mdE ?_
    simp only [go_sem]
    refine WWD_act tab_ok mdE ?_
    simp only [go_sem]
    refine ⟨[.list 5 (obRs a ps)], [], ?_, rfl, obDs a ps, [], ⟨_, [], _, [], rfl, (List.append_nil _).symm, RT_obs hps2, rfl, rfl⟩, by rw [List.nil_append, List.append_nil]⟩
    simp only [go_sem]
    have hl := obRs_len hps2
    rw [List.take_of_length_le (by omega)]
    exact ⟨by omega, sc_obRs hps2, rfl⟩
theorem d8' : ∀ o : Ob, Sm o → D8 o
  | .mk k n s ks kids, h => by
    cases h with
    | mk _ _ _ _ _ h1 h2 h3 => exact d8 k n s ks kids h1 (d29 kids h2 fun o ho => d8' o (h3 o ho))
  decreasing_by
  have := List.sizeOf_lt_of_mem ho
  simp only [Ob.mk.sizeOf_spec]
  omega
end Go.Proofs.Ytjpcicjkbbbpiaa.M

/- Contracts for Entry, part 3: the program's copies of trees, in memory of their own all the way down; Entry. No condition. -/
namespace Go.Proofs.Ytjpcicjkbbbpiaa.M
open Go Go.Proofs
set_option maxRecDepth 100000
set_option maxHeartbeats 2000000
set_option linter.unusedSimpArgs false
set_option linter.unusedVariables false
abbrev D31 (o : Ob) : Prop := CSD Try.prog 31 [.b (.v o.t)] [o.t] []
theorem d31 (k n : Int) (s : ByteArray) (ks : List ByteArray) (kids : List Ob) (h1 : ks.length ≤ 1048576) (h2 : kids.length ≤ 1048576) (hh : ∀ o ∈ kids, D31 o) : D31 (.mk k n s ks kids) := by
  unfold D31
  rw [Ob.t_mk]
  refine CSD_views (xs := [.v (.agg [.int .i64 k, .int .i64 n, .str s, .list 1 (ks.map T.str), .list 5 (kids.map Ob.t)])]) tab_ok Try.func31 rfl rfl Try.ntmps31 (rl := [.cell 2 29]) rfl (Nat.le_of_ble_eq_true rfl) ?_
  refine WWD_seqB tab_ok mdE ?_
  simp only [go_sem]
  refine WWD_seqB tab_ok mdE ?_
  simp only [go_sem]
  refine act_draw_of tab_ok mix mdE ?_
  simp only [go_sem, List.length_map]
  refine ⟨by omega, drawOk_of (by kernel_rfl), ?_⟩
  refine WWD_seq ?_
  refine WWD_seqB tab_ok mdE ?_
  simp only [go_sem, List.length_map]
  refine WWD_block ?_
  refine WWD_nilbox 208 4 5 900 rfl rfl (Nat.le_of_ble_eq_true rfl) ?_
  refine WWD_loop (ι := {p : Nat × List (Sl × Sl) // p.1 ≤ kids.length ∧ p.2.length = p.1}) [2,3,18,19,20] [16,128,208,900] 1000
    (fun p => ⟨[(2, .a (.c (.ptr 16 0))), (3, .a (.c (.ptr 208 0))), (18, .a (.c (.t (.list 5 (kids.map Ob.t))))), (19, .a (.c (.t (.int .i64 kids.length)))), (20, .a (.c (.t (.int .i64 p.1.1))))],
      [(16, .box zObj), (128, .arr 1 (ks.map T.str) 1), (208, .box [.t (.int .i64 k), .t (.int .i64 n), .t (.str s), .own 128 1 0 ks.length, .own 900 p.1.1 0 p.1.1]), (900, .arr 5 (obRs (kids.take p.1.1) p.1.2) p.1.1)], 1000, 33⟩)
    (fun p => obDs (kids.take p.1.1) p.1.2) (fun p => kids.length - p.1.1) ⟨(0, []), Nat.zero_le _, rfl⟩ [] (Nat.le_of_ble_eq_true rfl) (by simp only [go_sem]) (by simp only [go_sem]; simp [obRs]) (.refl _) fun p => ?_
  obtain ⟨⟨i, ps⟩, hi, hps⟩ := p
  dsimp only at hi hps
  have hps' : ps.length = (kids.take i).length := by rw [List.length_take]; omega
  refine WWD_seqB tab_ok mdE ?_
  simp only [go_sem]
  by_cases hil : i < kids.length
  · have e1 : decide ((i : Int) < kids.length) = true := by simp; omega
    refine WWD_seqB tab_ok mdE ?_
    simp only [go_sem, e1]
    refine WWD_seq ?_
    refine WWD_block ?_
    obtain ⟨x, hx⟩ : ∃ x, kids[i]? = some x := ⟨_, List.getElem?_eq_getElem (by omega)⟩
    have hc := hh x (List.mem_of_getElem? hx)
    have htk : kids.take (i + 1) = kids.take i ++ [x] := by rw [List.take_add_one, hx]; rfl
    obtain ⟨k', n', s', ks', kids'⟩ := x
    refine WWD_seqB tab_ok mdE ?_
    simp only [go_sem, List.getElem?_map, hx, List.length_map, Ob.t_mk]
    refine ⟨by omega, by omega, ?_⟩
    refine WWD_draw tab_ok mix mdE [0,1,2,3,4,5,6,7] 3 3 rfl rfl rfl (by kernel_rfl) ?_
    simp only [go_sem]
    refine ⟨⟨by kernel_rfl, by kernel_rfl⟩, ?_⟩
    refine ⟨[.b (.v (Ob.mk k' n' s' ks' kids').t)], [(Ob.mk k' n' s' ks' kids').t], [], [], _, hc, ⟨_, _, _, rfl, rfl, ?_, rfl, rfl, rfl⟩, .refl _, ?_⟩
    · rw [Ob.t_mk]
      exact ⟨_, rfl, _, _, rfl, .inr rfl, _, _, rfl, .inr rfl, _, _, rfl, .inr rfl, _, _, rfl, .inr rfl, _, _, rfl, .inr rfl, rfl⟩
    rintro _ _ ⟨_, rfl, h⟩
    obtain ⟨y, z, rfl, rfl⟩ := RAr_ob h
    have hlr : (obRs (kids.take i) ps).length = i := by rw [obRs_len hps', List.length_take]; omega
    have happ : obRs (kids.take i) ps ++ [.agg [.int .i64 k', .int .i64 n', .str s', .raw y, .raw z]] = obRs (kids.take (i + 1)) (ps ++ [(y, z)]) := by
      rw [htk, obRs_app _ _ hps']; rfl
    unfold restDr obR
    simp only [go_sem, hlr]
    refine ⟨by omega, by kernel_rfl, ?_⟩
    rw [happ]
    refine WWD_act tab_ok mdE ?_
    simp only [go_sem]
    refine nextD_of (ks := [2,3,18,19,20]) (hs := [16,128,208,900]) ⟨(i + 1, ps ++ [(y, z)]), by dsimp only; omega, by simp [hps]⟩ [] (by simp only [go_sem]) ?_ (by dsimp only; omega) ?_
    · simp only [go_sem]
      rw [wrap64O (by omega) (by omega)]; rfl
    · dsimp only
      rw [htk, obDs_app _ _ hps', List.append_nil]
      exact List.perm_append_comm
  · obtain rfl : i = kids.length := by omega
    have e1 : decide ((kids.length : Int) < kids.length) = false := by simp
    have e2 : kids.take kids.length = kids := List.take_of_length_le (Nat.le_refl _)
    have hps2 : ps.length = kids.length := hps
    refine WWD_seqB tab_ok mdE ?_
    simp only [go_sem, e1, e2]
    refine WWD_seqB tab_ok mdE ?_
    simp only [go_sem]
    refine WWD_act tab_ok mdE ?_
    simp only [go_sem]
    refine ⟨[.agg [.int .i64 k, .int .i64 n, .str s, .list 1 (ks.map T.str), .list 5 (obRs kids ps)]], [], ?_, rfl, obDs kids ps, [], ?_, by rw [List.nil_append, List.append_nil]⟩
    · simp only [go_sem]
      have hl := obRs_len hps2
      rw [List.take_of_length_le (by simp), List.take_of_length_le (by omega)]
      exact ⟨by simp, sc_strs ks, by omega, sc_obRs hps2, rfl⟩
    · exact ⟨_, [], _, [], rfl, (List.append_nil _).symm, ⟨_, rfl, _, _, [], _, rfl, rfl, ⟨rfl, rfl, rfl⟩, _, _, [], _, rfl, rfl, ⟨rfl, rfl, rfl⟩, _, _, [], _, rfl, rfl, ⟨rfl, rfl, rfl⟩, _, _, [], _, rfl, rfl, RT_strs ks, _, _, _, [], rfl, (List.append_nil _).symm, RT_obs hps2, rfl, rfl⟩, rfl, rfl⟩
theorem d31' : ∀ o : Ob, Sm o → D31 o
  | .mk k n s ks kids, h => by
    cases h with
    | mk _ _ _ _ _ h1 h2 h3 => exact d31 k n s ks kids h1 h2 fun o ho => d31' o (h3 o ho)
  decreasing_by
  have := List.sizeOf_lt_of_mem ho
  simp only [Ob.mk.sizeOf_spec]
  omega
theorem RT_nil (sz : Nat) : RT (.list sz []) (.list sz []) [] := ⟨[], rfl, rfl, by simp, rfl, rfl⟩
theorem RAL_ob0 : RAL [ob0, .bool false] [ob0, .bool false] [] :=
  ⟨_, _, [], [], rfl, rfl, ⟨_, rfl, _, _, [], _, rfl, rfl, ⟨rfl, rfl, rfl⟩, _, _, [], _, rfl, rfl, ⟨rfl, rfl, rfl⟩, _, _, [], _, rfl, rfl, ⟨rfl, rfl, rfl⟩, _, _, [], _, rfl, rfl, RT_nil 1, _, _, [], [], rfl, rfl, RT_nil 5, rfl, rfl⟩, _, _, [], [], rfl, rfl, ⟨rfl, rfl, rfl⟩, rfl, rfl⟩
theorem RA_ob (o : Ob) (y z : Sl) : RA (obR o y z) o.t (obD o y z) := by
  obtain ⟨k, n, s, ks, kids⟩ := o
  rw [Ob.t_mk]
  exact ⟨_, rfl, _, _, [], _, rfl, rfl, ⟨rfl, rfl, rfl⟩, _, _, [], _, rfl, rfl, ⟨rfl, rfl, rfl⟩, _, _, [], _, rfl, rfl, ⟨rfl, rfl, rfl⟩, _, _, [(y, _)], _, rfl, rfl, rfl, _, _, [(z, _)], [], rfl, rfl, rfl, rfl, rfl⟩
theorem d9 (k n : Int) (s : ByteArray) (ks : List ByteArray) (kids : List Ob) (v : ByteArray) (hS : Sm (.mk k n s ks kids)) : CSD Try.prog 9 [.b (.v (Ob.mk k n s ks kids).t), .b (.v (.str v))] (entR (entryO k ks kids v)) [] := by
  obtain ⟨h1, h2, h3⟩ : ks.length ≤ 1048576 ∧ kids.length ≤ 1048576 ∧ ∀ o ∈ kids, Sm o := by cases hS; exact ⟨by assumption, by assumption, by assumption⟩
  have hc := oc57 ks v h1
  have ha := firstF_cases (keyP ks v) ks.length
  unfold entryO atB
  unfold keyAt at *
  generalize firstF (keyP ks v) ks.length = z at hc ha ⊢
  rw [Ob.t_mk]
  refine CSD_views (xs := [.v (.agg [.int .i64 k, .int .i64 n, .str s, .list 1 (ks.map T.str), .list 5 (kids.map Ob.t)]), .v (.str v)]) tab_ok Try.func9 rfl rfl Try.ntmps9 (rl := [.cell 4 29, .tmp 5]) rfl (Nat.le_of_ble_eq_true rfl) ?_
  refine WWD_seqB tab_ok mdE ?_
  simp only [go_sem]
  refine WWD_seqB tab_ok mdE ?_
  simp only [go_sem]
  refine act_callE hc ?_
  simp only [go_sem]
  refine WWD_seqB tab_ok mdE ?_
  simp only [go_sem, bne]
  refine act_split (fun g => ?_) (fun g => ?_) <;> simp only [go_sem, g, List.length_map, bne]
  · refine act_split (fun g2 => ?_) (fun g2 => ?_) <;> simp only [go_sem, g2, bne]
    · have e0 : ks.length = kids.length := by simp at g2; omega
      rw [if_pos e0]
      rcases ha with ⟨rfl, _⟩ | ⟨i, hi, rfl, _⟩
      · simp only [go_sem, entR]
        exact ⟨[ob0, .bool false], [], by simp only [go_sem], rfl, [], [], RAL_ob0, .refl _⟩
      · have e : ¬ (i : Int) < 0 := by omega
        obtain ⟨x, hx⟩ : ∃ x, kids[i]? = some x := ⟨_, List.getElem?_eq_getElem (by omega)⟩
        have hcc := d31' x (h3 x (List.mem_of_getElem? hx))
        obtain ⟨k', n', s', ks', kids'⟩ := x
        simp only [go_sem, e]
        refine WWD_seq ?_
        refine WWD_region tab_ok mdE 5 rfl rfl rfl ?_
        simp only [go_sem, List.length_map, List.getElem?_map, hx, Ob.t_mk]
        refine ⟨by omega, by omega, ?_⟩
        refine ⟨[.b (.v (Ob.mk k' n' s' ks' kids').t)], [(Ob.mk k' n' s' ks' kids').t], [], [], _, hcc, ⟨_, _, _, rfl, rfl, ?_, rfl, rfl, rfl⟩, .refl _, ?_⟩
        · rw [Ob.t_mk]
          exact ⟨_, rfl, _, _, rfl, .inr rfl, _, _, rfl, .inr rfl, _, _, rfl, .inr rfl, _, _, rfl, .inr rfl, _, _, rfl, .inr rfl, rfl⟩
        rintro _ _ ⟨_, rfl, h⟩
        obtain ⟨y, z, rfl, rfl⟩ := RAr_ob h
        unfold restD obR
        simp only [go_sem]
        refine WWD_act tab_ok mdE ?_
        simp only [go_sem]
        refine ⟨[obR (.mk k' n' s' ks' kids') y z, .bool true], [], by simp only [go_sem, obR], rfl, obD (.mk k' n' s' ks' kids') y z, [], ⟨_, _, _, [], rfl, (List.append_nil _).symm, RA_ob _ y z, _, _, [], [], rfl, rfl, ⟨rfl, rfl, rfl⟩, rfl, rfl⟩, by simp⟩
    · have e0 : ¬ ks.length = kids.length := by simp at g2; omega
      rw [if_neg e0]
      simp only [go_sem, entR]
      exact ⟨[ob0, .bool false], [], by simp only [go_sem], rfl, [], [], RAL_ob0, .refl _⟩
  · exact ⟨[ob0, .bool false], [], by simp only [go_sem], rfl, [], [], RAL_ob0, .refl _⟩
end Go.Proofs.Ytjpcicjkbbbpiaa.M

/- Contracts for Entry, part 4: trees that are marked. No condition. -/
namespace Go.Proofs.Ytjpcicjkbbbpiaa.M
open Go Go.Proofs
set_option maxRecDepth 100000
set_option maxHeartbeats 2000000
set_option linter.unusedSimpArgs false
set_option linter.unusedVariables false
mutual
/-- How many marks a tree takes. -/
def nmE : Ob → Nat
  | .mk _ _ _ ks kids => 3 + ks.length + nmK kids
def nmK : List Ob → Nat
  | [] => 0
  | o :: r => nmE o + nmK r
end
mutual
def mkE : Ob → Nat → Ob
  | .mk _ _ _ ks kids, k => .mk ((k : Nat) : Int) ((k + 1 : Nat) : Int) (mkS (k + 2)) (mkL (k + 3) ks.length) (mkKs kids (k + 3 + ks.length))
def mkKs : List Ob → Nat → List Ob
  | [], _ => []
  | o :: r, k => mkE o k :: mkKs r (k + nmE o)
end
theorem nmE_mk (k n : Int) (s : ByteArray) (ks : List ByteArray) (kids : List Ob) : nmE (.mk k n s ks kids) = 3 + ks.length + nmK kids := by rw [nmE]
theorem mkE_mk (k n : Int) (s : ByteArray) (ks : List ByteArray) (kids : List Ob) (m : Nat) : mkE (.mk k n s ks kids) m = .mk ((m : Nat) : Int) ((m + 1 : Nat) : Int) (mkS (m + 2)) (mkL (m + 3) ks.length) (mkKs kids (m + 3 + ks.length)) := by rw [mkE]
theorem nmK_app : ∀ (a b : List Ob), nmK (a ++ b) = nmK a + nmK b
  | [], b => by simp [nmK]
  | o :: r, b => by rw [List.cons_append, nmK, nmK, nmK_app r b]; omega
theorem mkKs_app : ∀ (a b : List Ob) (k : Nat), mkKs (a ++ b) k = mkKs a k ++ mkKs b (k + nmK a)
  | [], b, k => by simp [mkKs, nmK]
  | o :: r, b, k => by rw [List.cons_append, mkKs, mkKs, mkKs_app r b, nmK, List.cons_append, Nat.add_assoc]
theorem mkKs_len : ∀ (a : List Ob) (k : Nat), (mkKs a k).length = a.length
  | [], k => by simp [mkKs]
  | o :: r, k => by rw [mkKs, List.length_cons, mkKs_len r, List.length_cons]
theorem RCrL_obs : ∀ {a : List Ob} {xs : List T} {d : De}, RCrL (flat (a.map Ob.t)) xs d → ∃ ps : List (Sl × Sl), ps.length = a.length ∧ flat (obRs a ps) = xs ∧ obDs a ps = d
  | [], xs, d, h => by
    obtain ⟨h1, h2⟩ := h
    exact ⟨[], rfl, h1.symm, h2.symm⟩
  | o :: r, xs, d, h => by
    obtain ⟨k, n, s, ks, kids⟩ := o
    have e : flat ((Ob.mk k n s ks kids :: r).map Ob.t) = [.int .i64 k, .int .i64 n, .str s, strs ks, obs kids] ++ flat (r.map Ob.t) := by
      show (Ob.mk k n s ks kids).t.cells ++ flat (r.map Ob.t) = _
      rw [Ob.t_mk]; rfl
    rw [e] at h
    obtain ⟨x1, r1, d1, e1, rfl, rfl, ⟨rfl, _, rfl⟩, h⟩ := h
    obtain ⟨x2, r2, d2, e2, rfl, rfl, ⟨rfl, _, rfl⟩, h⟩ := h
    obtain ⟨x3, r3, d3, e3, rfl, rfl, ⟨rfl, _, rfl⟩, h⟩ := h
    obtain ⟨x4, r4, d4, e4, rfl, rfl, ⟨y, rfl, rfl⟩, h⟩ := h
    obtain ⟨x5, r5, d5, e5, rfl, rfl, ⟨z, rfl, rfl⟩, h⟩ := h
    obtain ⟨ps, g1, rfl, rfl⟩ := RCrL_obs h
    exact ⟨(y, z) :: ps, by simp [g1], rfl, rfl⟩
theorem RCrL_strs : ∀ {a : List ByteArray} {xs : List T} {d : De}, RCrL (a.map T.str) xs d → a.map T.str = xs ∧ d = []
  | [], xs, d, h => ⟨h.1.symm, h.2⟩
  | s :: r, xs, d, h => by
    obtain ⟨x, xs', d1, d2, rfl, rfl, ⟨rfl, _, rfl⟩, h⟩ := h
    obtain ⟨h1, h2⟩ := RCrL_strs h
    rw [List.map_cons, h1, h2]; exact ⟨rfl, rfl⟩
abbrev D34 (a : List ByteArray) (k : Nat) : Prop := CSD Try.prog 34 [.l (strs a) (strs (mkL k a.length)), .b (.v (.int .i64 k))] [.int .i64 (k + a.length : Nat)] []
theorem RAL_int (n : Int) : RAL [.int .i64 n] [.int .i64 n] [] := ⟨_, [], [], [], rfl, rfl, ⟨rfl, rfl, rfl⟩, rfl, rfl⟩
theorem d34 (a : List ByteArray) (k : Nat) (ha : a.length ≤ 1048576) (h0 : 0 < k) (hk : k ≤ 549755813888) : D34 a k := by
  unfold D34 strs
  refine CSD_open tab_ok Try.func34 rfl rfl Try.ntmps34 (rl := [.tmp 4]) rfl (Nat.le_of_ble_eq_true rfl) rfl (ι := Unit) (fun _ => a.map T.str) (fun _ => []) (fun xs d h => ?_) (fun _ => ?_) (fun he => ?_)
  · rw [flat_strs] at h
    obtain ⟨h1, h2⟩ := RCrL_strs h
    exact ⟨(), by rw [flat_strs]; exact h1, h2.symm, rfl, fun e he => by obtain ⟨s, _, rfl⟩ := List.mem_map.1 he; rfl⟩
  · refine WWD_act tab_ok mdE ?_
    simp only [go_sem, List.length_map]
    refine act_loop_of (md := mdE) tab_ok [0,1,5] [0] 1000 (ι := {i : Nat // i ≤ a.length}) (fun i => ⟨[(0, .a (.c (.own 0 0 0 a.length))), (1, .a (.c (.t (.int .i64 (k + i.1 : Nat))))), (5, .a (.c (.t (.int .i64 i.1))))], [(0, .arr 1 ((mkLD k a i.1).map T.str) 0)], 1000, 20⟩) (fun i => a.length - i.1) ⟨0, by omega⟩ (Nat.le_of_ble_eq_true rfl) (by simp only [go_sem]) (by simp only [go_sem]; rfl) fun i => ?_
    obtain ⟨i, hi⟩ := i
    have hl := mkLD_len (k := k) hi
    simp only [go_sem]
    by_cases hil : i < a.length
    · have e1 : decide ((i : Int) < a.length) = true := by simp; omega
      obtain ⟨x, hx⟩ : ∃ x, (mkLD k a i)[i]? = some x := ⟨_, List.getElem?_eq_getElem (by omega)⟩
      have hx' : ((mkLD k a i).map T.str)[i]? = some (.str x) := by rw [List.getElem?_map, hx]; rfl
      simp only [go_sem, e1]
      refine act_callE (e55 (k + i) (by omega) (by omega)) ?_
      simp only [go_sem, hx']
      refine ⟨by omega, by omega, ?_⟩
      refine nextK_of ⟨i + 1, by omega⟩ (by simp only [go_sem]) ?_ (by dsimp only; omega)
      simp only [go_sem]
      rw [wrap64O (n := (i : Int) + 1) (by omega) (by omega), wrap64O (n := ((k + i : Nat) : Int) + 1) (by omega) (by omega), ← mkLD_set hil, List.map_set]
      rfl
    · obtain rfl : i = a.length := by omega
      have e1 : decide ((a.length : Int) < a.length) = false := by simp
      have e2 : mkLD k a a.length = mkL k a.length := by simp [mkLD]
      simp only [go_sem, e1, e2]
      refine ⟨[.int .i64 (k + a.length : Nat)], [[.arr 1 ((mkL k a.length).map T.str)]], ?_, (mkL k a.length).map T.str, [], [], [], rfl, RAL_int _, RT_strs _, .refl _⟩
      simp only [go_sem, List.length_map, mkL_len]
      exact sc_strs _
  · have : a = [] := by simpa using he
    subst this
    refine ⟨rfl, ?_⟩
    refine WWD_act tab_ok mdE ?_
    simp only [go_sem]
    refine act_loop_of (md := mdE) tab_ok [0,1,5] [] 1000 (ι := Unit) (fun _ => ⟨[(0, .a (.c (.t (.list 1 [])))), (1, .a (.c (.t (.int .i64 k)))), (5, .a (.c (.t (.int .i64 0))))], [], 1000, 20⟩) (fun _ => 0) () (Nat.le_of_ble_eq_true rfl) (by simp only [go_sem]) (by simp only [go_sem]) fun _ => ?_
    have e1 : decide ((0 : Int) < (0 : Nat)) = false := rfl
    simp only [go_sem, e1]
    exact ⟨[.int .i64 k], [], by simp only [go_sem], rfl, [], [], RAL_int _, .refl _⟩
abbrev D35 (a : List Ob) (k : Nat) : Prop := CSD Try.prog 35 [.l (obs a) (obs (mkKs a k)), .b (.v (.int .i64 k))] [.int .i64 (k + nmK a : Nat)] []
end Go.Proofs.Ytjpcicjkbbbpiaa.M

/- Contracts for Entry, part 5: lists of trees that are marked, all the way down. No condition. -/
namespace Go.Proofs.Ytjpcicjkbbbpiaa.M
open Go Go.Proofs
set_option maxRecDepth 100000
set_option maxHeartbeats 2000000
set_option linter.unusedSimpArgs false
set_option linter.unusedVariables false
theorem obDs_split : ∀ {l1 l2 : List Ob} {x : Ob} {p1 p2 : List (Sl × Sl)} {p : Sl × Sl}, p1.length = l1.length → obDs (l1 ++ x :: l2) (p1 ++ p :: p2) = obDs l1 p1 ++ (obD x p.1 p.2 ++ obDs l2 p2)
  | [], l2, x, [], p2, p, _ => rfl
  | o :: l1, l2, x, q :: p1, p2, p, h => by
    show obD o q.1 q.2 ++ obDs (l1 ++ x :: l2) (p1 ++ p :: p2) = _
    rw [obDs_split (by simpa using h)]
    simp [obDs]
theorem obRs_split : ∀ {l1 l2 : List Ob} {x : Ob} {p1 p2 : List (Sl × Sl)} {p : Sl × Sl}, p1.length = l1.length → obRs (l1 ++ x :: l2) (p1 ++ p :: p2) = obRs l1 p1 ++ (obR x p.1 p.2 :: obRs l2 p2)
  | [], l2, x, [], p2, p, _ => rfl
  | o :: l1, l2, x, q :: p1, p2, p, h => by
    show obR o q.1 q.2 :: obRs (l1 ++ x :: l2) (p1 ++ p :: p2) = _
    rw [obRs_split (by simpa using h)]
    simp [obRs]
/-- Marked so far. -/
def curK (a : List Ob) (k i : Nat) : List Ob := mkKs (a.take i) k ++ a.drop i
theorem curK_len {a : List Ob} {k i : Nat} : (curK a k i).length = a.length := by simp [curK, mkKs_len]; omega
def HB (o : Ob) : Prop := match o with | .mk _ _ _ ks kids => ks.length ≤ 1048576 ∧ ∀ m : Nat, 0 < m → m + nmK kids ≤ 274877906944 → D35 kids m
theorem nmK_le : ∀ (a : List Ob) (i : Nat), nmK (a.take i) ≤ nmK a := fun a i => by
  have := nmK_app (a.take i) (a.drop i)
  rw [List.take_append_drop] at this
  omega
set_option maxHeartbeats 4000000 in
theorem d35 (a : List Ob) (k : Nat) (ha : a.length ≤ 1048576) (h0 : 0 < k) (hk : k + nmK a ≤ 274877906944) (h : ∀ o ∈ a, HB o) : D35 a k := by
  unfold D35 obs
  refine CSD_open tab_ok Try.func35 rfl rfl Try.ntmps35 (rl := [.tmp 4]) rfl (Nat.le_of_ble_eq_true rfl) rfl (ι := {ps : List (Sl × Sl) // ps.length = a.length}) (fun ps => obRs a ps.1) (fun ps => obDs a ps.1) (fun xs d h => ?_) (fun ps => ?_) (fun he => ?_)
  · obtain ⟨ps, h1, h2, h3⟩ := RCrL_obs h
    refine ⟨⟨ps, h1⟩, h2, h3, by rw [obRs_len h1, List.length_map], fun e he => ?_⟩
    have key : ∀ {l : List Ob} {ps : List (Sl × Sl)}, ∀ e ∈ obRs l ps, e.cells.length = 5 := fun {l} => by
      induction l with
      | nil => intro ps e he; simp [obRs] at he
      | cons o r ih =>
        intro ps e he
        cases ps with
        | nil => simp [obRs] at he
        | cons p ps =>
          rcases List.mem_cons.1 he with rfl | he
          · exact obR_cells o _ _
          · exact ih e he
    exact key e he
  · obtain ⟨ps, hps⟩ := ps
    dsimp only
    refine WWD_seqB tab_ok mdE ?_
    simp only [go_sem]
    refine WWD_seq ?_
    refine WWD_seqB tab_ok mdE ?_
    simp only [go_sem]
    refine WWD_block ?_
    refine WWD_loop (ι := {i : Nat // i ≤ a.length}) [0,1,5] [0] 1000 (fun i => ⟨[(0, .a (.c (.own 0 0 0 a.length))), (1, .a (.c (.t (.int .i64 (k + nmK (a.take i.1) : Nat))))), (5, .a (.c (.t (.int .i64 i.1))))], [(0, .arr 5 (obRs (curK a k i.1) ps) 0)], 1000, 49⟩)
      (fun i => obDs (curK a k i.1) ps) (fun i => a.length - i.1) ⟨0, Nat.zero_le _⟩ [] (Nat.le_of_ble_eq_true rfl) (by simp only [go_sem]) (by simp only [go_sem, obRs_len hps]; simp [curK, mkKs, nmK]) (by simp [curK, mkKs]) fun i => ?_
    obtain ⟨i, hi⟩ := i
    dsimp only
    refine WWD_seqB tab_ok mdE ?_
    simp only [go_sem]
    by_cases hil : i < a.length
    · have e1 : decide ((i : Int) < a.length) = true := by simp; omega
      simp only [go_sem, e1]
      refine WWD_seq ?_
      refine WWD_block ?_
      obtain ⟨x, hx⟩ : ∃ x, a[i]? = some x := ⟨_, List.getElem?_eq_getElem hil⟩
      obtain ⟨⟨y, z⟩, hp⟩ : ∃ p, ps[i]? = some p := ⟨_, List.getElem?_eq_getElem (by omega)⟩
      have hH := h x (List.mem_of_getElem? hx)
      have hdr : a.drop i = x :: a.drop (i + 1) := by
        rw [List.drop_eq_getElem_cons hil]
        rw [List.getElem?_eq_getElem hil] at hx; rw [Option.some.inj hx]
      have htk : a.take (i + 1) = a.take i ++ [x] := by rw [List.take_add_one, hx]; rfl
      have hpd : ps = ps.take i ++ ((y, z) :: ps.drop (i + 1)) := by
        have : ps.drop i = (y, z) :: ps.drop (i + 1) := by
          rw [List.drop_eq_getElem_cons (by omega)]
          rw [List.getElem?_eq_getElem (by omega)] at hp; rw [Option.some.inj hp]
        rw [← this, List.take_append_drop]
      have hp1 : (ps.take i).length = (mkKs (a.take i) k).length := by rw [mkKs_len, List.length_take, List.length_take]; omega
      have hlr : (obRs (mkKs (a.take i) k) (ps.take i)).length = i := by rw [obRs_len hp1, mkKs_len, List.length_take]; omega
      have hnx : nmK (a.take (i + 1)) = nmK (a.take i) + nmE x := by rw [htk, nmK_app]; simp [nmK]
      have hbd := nmK_le a (i + 1)
      have hcur : curK a k i = mkKs (a.take i) k ++ x :: a.drop (i + 1) := by rw [curK, hdr]
      have hcur2 : curK a k (i + 1) = mkKs (a.take i) k ++ mkE x (k + nmK (a.take i)) :: a.drop (i + 1) := by
        rw [curK, htk, mkKs_app]; simp [mkKs]
      have hR : obRs (curK a k i) ps = obRs (mkKs (a.take i) k) (ps.take i) ++ (obR x y z :: obRs (a.drop (i + 1)) (ps.drop (i + 1))) := by
        rw [hcur]; conv => lhs; rw [hpd]
        exact obRs_split hp1
      have hR2 : obRs (curK a k (i + 1)) ps = obRs (mkKs (a.take i) k) (ps.take i) ++ (obR (mkE x (k + nmK (a.take i))) y z :: obRs (a.drop (i + 1)) (ps.drop (i + 1))) := by
        rw [hcur2]; conv => lhs; rw [hpd]
        exact obRs_split hp1
      have hD : obDs (curK a k i) ps = obDs (mkKs (a.take i) k) (ps.take i) ++ (obD x y z ++ obDs (a.drop (i + 1)) (ps.drop (i + 1))) := by
        rw [hcur]; conv => lhs; rw [hpd]
        exact obDs_split hp1
      have hD2 : obDs (curK a k (i + 1)) ps = obDs (mkKs (a.take i) k) (ps.take i) ++ (obD (mkE x (k + nmK (a.take i))) y z ++ obDs (a.drop (i + 1)) (ps.drop (i + 1))) := by
        rw [hcur2]; conv => lhs; rw [hpd]
        exact obDs_split hp1
      rw [hR, hD]
      generalize obRs (mkKs (a.take i) k) (ps.take i) = R1 at hR2 hlr
      generalize obRs (a.drop (i + 1)) (ps.drop (i + 1)) = R2 at hR2
      generalize obDs (mkKs (a.take i) k) (ps.take i) = D1 at hD2
      generalize obDs (a.drop (i + 1)) (ps.drop (i + 1)) = D2 at hD2
      generalize hq : k + nmK (a.take i) = q at hR2 hD2
      have hget : ∀ e, (R1 ++ (e :: R2))[i]? = some e := fun e => by rw [List.getElem?_append_right (by omega), hlr, Nat.sub_self]; rfl
      have hset : ∀ e e', (R1 ++ (e :: R2)).set i e' = R1 ++ (e' :: R2) := fun e e' => by simp [List.set_append, hlr]
      obtain ⟨kk, nn, ss, ks, kids⟩ := x
      obtain ⟨hH1, hH2⟩ := hH
      rw [nmE_mk] at hnx
      rw [mkE_mk] at hR2 hD2
      unfold obR at hR2 ⊢
      unfold obD at hD2 ⊢
      dsimp only at hR2 hD2 ⊢
      have w1 : ∀ m : Nat, m ≤ 549755813888 → IntKind.wrap .i64 ((m : Nat) + 1 : Int) = (m + 1 : Nat) := fun m hm => by rw [wrap64O (by omega) (by omega)]; rfl
      refine WWD_seqB tab_ok mdE ?_
      simp only [go_sem, hget, hset]
      refine ⟨by omega, by omega, ?_⟩
      refine WWD_seqB tab_ok mdE ?_
      simp only [go_sem, w1 q (by omega)]
      refine WWD_seqB tab_ok mdE ?_
      simp only [go_sem, hget, hset]
      refine ⟨by omega, by omega, ?_⟩
      refine WWD_seqB tab_ok mdE ?_
      simp only [go_sem, w1 (q + 1) (by omega)]
      refine WWD_seqB tab_ok mdE ?_
      simp only [go_sem]
      refine act_callE (e55 (q + 1 + 1) (by omega) (by omega)) ?_
      simp only [go_sem, hget, hset]
      refine ⟨by omega, by omega, ?_⟩
      refine WWD_seqB tab_ok mdE ?_
      simp only [go_sem, w1 (q + 1 + 1) (by omega)]
      refine WWD_seq ?_
      refine WWD_region tab_ok mdE 6 rfl rfl rfl ?_
      simp only [go_sem, hget, hset]
      refine ⟨by omega, by omega, ?_⟩
      have hc := d34 ks (q + 3) hH1 (by omega) (by omega)
      refine ⟨_, _, [(y, strs ks)], [(y, strs (mkL (q + 3) ks.length))], D1 ++ ((z, obs kids) :: D2), hc, ⟨.raw y, _, [(y, _)], [], [(y, _)], [], rfl, rfl, rfl, ⟨y, rfl, rfl⟩, ⟨y, rfl, rfl⟩, _, _, _, rfl, rfl, .inr rfl, rfl, rfl, rfl⟩, List.perm_middle, ?_⟩
      rintro _ _ ⟨_, rfl, rfl, _, rfl⟩
      unfold restD
      simp only [go_sem]
      refine WWD_region tab_ok mdE 6 rfl rfl rfl ?_
      simp only [go_sem, hget]
      refine ⟨by omega, by omega, ?_⟩
      have hc2 := hH2 (q + 3 + ks.length) (by omega) (by omega)
      refine ⟨_, _, [(z, obs kids)], [(z, obs (mkKs kids (q + 3 + ks.length)))], (y, strs (mkL (q + 3) ks.length)) :: (D1 ++ D2), hc2, ⟨.raw z, _, [(z, _)], [], [(z, _)], [], rfl, rfl, rfl, ⟨z, rfl, rfl⟩, ⟨z, rfl, rfl⟩, _, _, _, rfl, rfl, .inr rfl, rfl, rfl, rfl⟩, ?_, ?_⟩
      · exact (List.Perm.cons _ List.perm_middle).trans (.swap _ _ _)
      rintro _ _ ⟨_, rfl, rfl, _, rfl⟩
      unfold restD
      simp only [go_sem]
      refine WWD_act tab_ok mdE ?_
      simp only [go_sem]
      refine nextD_of (ks := [0,1,5]) (hs := [0]) ⟨i + 1, by omega⟩ [] (by simp only [go_sem]) ?_ (by dsimp only; omega) ?_
      · simp only [go_sem]
        rw [wrap64O (n := (i : Int) + 1) (by omega) (by omega), hR2]
        have e9 : k + nmK (a.take (i + 1)) = q + 3 + ks.length + nmK kids := by omega
        rw [e9]
        rfl
      · dsimp only
        rw [hD2, List.append_nil]
        simp only [List.nil_append, List.cons_append]
        refine (List.Perm.swap _ _ _).trans ?_
        exact (List.Perm.cons _ List.perm_middle.symm).trans List.perm_middle.symm
    · obtain rfl : i = a.length := by omega
      have e1 : decide ((a.length : Int) < a.length) = false := by simp
      have e2 : curK a k a.length = mkKs a k := by simp [curK]
      have e3 : a.take a.length = a := List.take_of_length_le (Nat.le_refl _)
      simp only [go_sem, e1, e2, e3]
      refine WWD_seqB tab_ok mdE ?_
      simp only [go_sem]
      refine WWD_act tab_ok mdE ?_
      simp only [go_sem]
      have hml : ps.length = (mkKs a k).length := by rw [mkKs_len]; exact hps
      refine ⟨[.int .i64 (k + nmK a : Nat)], [[.arr 5 (obRs (mkKs a k) ps)]], ?_, obRs (mkKs a k) ps, [], obDs (mkKs a k) ps, [], rfl, RAL_int _, RT_obs hml, by rw [List.nil_append, List.append_nil]⟩
      simp only [go_sem, obRs_len hml, obRs_len hps, mkKs_len]
      exact sc_obRs hml
  · have : a = [] := by simpa using he
    subst this
    refine ⟨rfl, ?_⟩
    refine WWD_act tab_ok mdE ?_
    simp only [go_sem]
    refine act_loop_of (md := mdE) tab_ok [0,1,5] [] 1000 (ι := Unit) (fun _ => ⟨[(0, .a (.c (.t (.list 5 [])))), (1, .a (.c (.t (.int .i64 k)))), (5, .a (.c (.t (.int .i64 0))))], [], 1000, 49⟩) (fun _ => 0) () (Nat.le_of_ble_eq_true rfl) (by simp only [go_sem]) (by simp only [go_sem]) fun _ => ?_
    have e1 : decide ((0 : Int) < (0 : Nat)) = false := rfl
    simp only [go_sem, e1]
    exact ⟨[.int .i64 k], [], by simp only [go_sem], rfl, [], [], by simp only [nmK, Nat.add_zero]; exact RAL_int _, .refl _⟩
theorem hb : ∀ o : Ob, Sm o → HB o
  | .mk k n s ks kids, h => by
    cases h with
    | mk _ _ _ _ _ h1 h2 h3 => exact ⟨h1, fun m hm hb' => d35 kids m h2 hm hb' fun o ho => hb o (h3 o ho)⟩
  decreasing_by
  have := List.sizeOf_lt_of_mem ho
  simp only [Ob.mk.sizeOf_spec]
  omega
end Go.Proofs.Ytjpcicjkbbbpiaa.M

/- Contracts for Entry, part 6: marked trees are held; a tree's lists, marked. No condition. -/
namespace Go.Proofs.Ytjpcicjkbbbpiaa.M
open Go Go.Proofs
set_option maxRecDepth 100000
set_option maxHeartbeats 2000000
set_option linter.unusedSimpArgs false
set_option linter.unusedVariables false
theorem mkKs_get : ∀ {a : List Ob} {k i : Nat} {x : Ob}, a[i]? = some x → (mkKs a k)[i]? = some (mkE x (k + nmK (a.take i)))
  | o :: r, k, 0, x, h => by
    obtain rfl : o = x := by simpa using h
    simp [mkKs, nmK]
  | o :: r, k, i + 1, x, h => by
    have := mkKs_get (a := r) (k := k + nmE o) (i := i) (x := x) (by simpa using h)
    rw [mkKs, List.getElem?_cons_succ, this, List.take_succ_cons, nmK, Nat.add_assoc]
def HH (o : Ob) : Prop := match o with | .mk _ _ _ ks kids => ks.length ≤ 1048576 ∧ ∀ m : Nat, 0 < m → m + nmK kids ≤ 274877906944 → CS Try.prog false 37 [.v (obs (mkKs kids m)), .v (.int .i64 m)] [.int .i64 (m + nmK kids : Nat)] []
theorem e37 (a : List Ob) (k : Nat) (ha : a.length ≤ 1048576) (h0 : 0 < k) (hk : k + nmK a ≤ 274877906944) (h : ∀ o ∈ a, HH o) : CS Try.prog false 37 [.v (obs (mkKs a k)), .v (.int .i64 k)] [.int .i64 (k + nmK a : Nat)] [] := by
  unfold obs
  refine CS_act tab_ok mdE Try.func37 rfl rfl Try.ntmps37 (rl := [.tmp 4]) rfl (Nat.le_of_ble_eq_true rfl) ?_
  simp only [go_sem]
  refine act_loop_of (md := mdE) tab_ok [0,1,5] [] 1000 (ι := {i : Nat // i ≤ a.length}) (fun i => ⟨[(0, .a (.c (.t (.list 5 ((mkKs a k).map Ob.t))))), (1, .a (.c (.t (.int .i64 (k + nmK (a.take i.1) : Nat))))), (5, .a (.c (.t (.int .i64 i.1))))], [], 1000, 59⟩) (fun i => a.length - i.1) ⟨0, by omega⟩ (Nat.le_of_ble_eq_true rfl) (by simp only [go_sem]) (by simp only [go_sem]; rfl) fun i => ?_
  obtain ⟨i, hi⟩ := i
  simp only [go_sem, List.length_map, mkKs_len]
  by_cases hil : i < a.length
  · have e1 : decide ((i : Int) < a.length) = true := by simp; omega
    obtain ⟨x, hx⟩ : ∃ x, a[i]? = some x := ⟨_, List.getElem?_eq_getElem hil⟩
    have hH := h x (List.mem_of_getElem? hx)
    have htk : a.take (i + 1) = a.take i ++ [x] := by rw [List.take_add_one, hx]; rfl
    have hnx : nmK (a.take (i + 1)) = nmK (a.take i) + nmE x := by rw [htk, nmK_app]; simp [nmK]
    have hbd := nmK_le a (i + 1)
    have hg : ((mkKs a k).map Ob.t)[i]? = some (mkE x (k + nmK (a.take i))).t := by rw [List.getElem?_map, mkKs_get hx]; rfl
    have hll : ((mkKs a k).map Ob.t).length = a.length := by rw [List.length_map, mkKs_len]
    generalize hq : k + nmK (a.take i) = q at hg
    obtain ⟨kk, nn, ss, ks, kids⟩ := x
    obtain ⟨hH1, hH2⟩ := hH
    rw [nmE_mk] at hnx
    rw [mkE_mk, Ob.t_mk] at hg
    have w1 : ∀ m : Nat, m ≤ 549755813888 → IntKind.wrap .i64 ((m : Nat) + 1 : Int) = (m + 1 : Nat) := fun m hm => by rw [wrap64O (by omega) (by omega)]; rfl
    have n1 : ∀ m : Nat, (((m : Nat) : Int) != (m : Nat)) = false := fun m => by simp
    have n2 : ∀ m : Nat, decide (((m : Nat) : Int) < 0) = false := fun m => by simp
    simp only [go_sem, e1, hg, hll, n1, w1 q (by omega), w1 (q + 1) (by omega)]
    refine ⟨by omega, by omega, by omega, by omega, ?_⟩
    refine act_draw_of tab_ok mix mdE ?_
    simp only [go_sem, hg, hll]
    refine ⟨by omega, by omega, ?_⟩
    refine act_callE (e55 (q + 1 + 1) (by omega) (by omega)) ?_
    simp only [go_sem, beq_self_eq_true, w1 (q + 1 + 1) (by omega), hg, hll]
    refine ⟨drawOk_of (by kernel_rfl), by omega, by omega, ?_⟩
    refine act_callE (e36 (q + 3) ks.length hH1 (by omega) (by omega)) ?_
    simp only [go_sem, n2, hg, hll]
    refine ⟨by omega, by omega, ?_⟩
    refine act_callE (hH2 (q + 3 + ks.length) (by omega) (by omega)) ?_
    simp only [go_sem, n2]
    refine nextK_of ⟨i + 1, by omega⟩ (by simp only [go_sem]) ?_ (by dsimp only; omega)
    simp only [go_sem]
    have e9 : k + nmK (a.take (i + 1)) = q + 3 + ks.length + nmK kids := by omega
    rw [wrap64O (n := (i : Int) + 1) (by omega) (by omega), e9]
    rfl
  · obtain rfl : i = a.length := by omega
    have e1 : decide ((a.length : Int) < a.length) = false := by simp
    have e3 : a.take a.length = a := List.take_of_length_le (Nat.le_refl _)
    simp only [go_sem, e1, e3]
theorem hh : ∀ o : Ob, Sm o → HH o
  | .mk k n s ks kids, h => by
    cases h with
    | mk _ _ _ _ _ h1 h2 h3 => exact ⟨h1, fun m hm hb' => e37 kids m h2 hm hb' fun o ho => hh o (h3 o ho)⟩
  decreasing_by
  have := List.sizeOf_lt_of_mem ho
  simp only [Ob.mk.sizeOf_spec]
  omega
/-- A tree whose lists are marked. -/
def mkTop (o : Ob) (k : Nat) : Ob := match o with | .mk kk n s ks kids => .mk kk n s (mkL k ks.length) (mkKs kids (k + ks.length))
def nmT (o : Ob) : Nat := match o with | .mk _ _ _ ks kids => ks.length + nmK kids
theorem e12 (o : Ob) (hS : Sm o) (k : Nat) (h0 : 0 < k) (hk : k + nmT o ≤ 274877906944) : CS Try.prog false 12 [.v (mkTop o k).t, .v (.int .i64 k)] [.int .i64 (k + nmT o : Nat)] [] := by
  obtain ⟨kk, n, s, ks, kids⟩ := o
  obtain ⟨h1, h2⟩ := hh _ hS
  unfold nmT at hk ⊢
  unfold mkTop
  dsimp only at hk ⊢
  rw [Ob.t_mk]
  refine CS_act tab_ok mdE Try.func12 rfl rfl Try.ntmps12 (rl := [.tmp 4]) rfl (Nat.le_of_ble_eq_true rfl) ?_
  have n2 : ∀ m : Nat, decide (((m : Nat) : Int) < 0) = false := fun m => by simp
  simp only [go_sem]
  refine act_callE (e36 k ks.length h1 h0 (by omega)) ?_
  simp only [go_sem, n2]
  refine act_callE (h2 (k + ks.length) (by omega) (by omega)) ?_
  simp only [go_sem, n2, Nat.add_assoc]
theorem RAr_mk (o : Ob) (y z : Sl) : RAr o.t (obR o y z) (obD o y z) := by
  obtain ⟨k, n, s, ks, kids⟩ := o
  rw [Ob.t_mk]
  exact ⟨_, rfl, _, _, [], _, rfl, rfl, ⟨rfl, rfl, rfl⟩, _, _, [], _, rfl, rfl, ⟨rfl, rfl, rfl⟩, _, _, [], _, rfl, rfl, ⟨rfl, rfl, rfl⟩, _, _, [(y, _)], _, rfl, rfl, ⟨y, rfl, rfl⟩, _, _, [(z, _)], [], rfl, rfl, ⟨z, rfl, rfl⟩, rfl, rfl⟩
theorem d11 (o : Ob) (hS : Sm o) (k : Nat) (h0 : 0 < k) (hk : k + nmT o ≤ 274877906944) : CSD Try.prog 11 [.l o.t (mkTop o k).t, .b (.v (.int .i64 k))] [.int .i64 (k + nmT o : Nat)] [] := by
  have hHB := hb o hS
  refine CSD_of_WWD tab_ok Try.func11 rfl rfl Try.ntmps11 (rl := [.tmp 4]) rfl (Nat.le_of_ble_eq_true rfl) fun ags din hln => ?_
  obtain ⟨xr, as', e1, e2, rfl, rfl, hRA, as'', rfl, rfl, rfl⟩ := hln
  obtain ⟨y, z, rfl, rfl⟩ := RAr_ob (o := o) hRA
  obtain ⟨kk, n, s, ks, kids⟩ := o
  obtain ⟨h1, h2⟩ := hHB
  have hm := RAr_mk (mkTop (.mk kk n s ks kids) k) y z
  refine ⟨_, ⟨_, _, _, [], rfl, (List.append_nil _).symm, hm, _, rfl, rfl, rfl⟩, ?_⟩
  unfold nmT at hk ⊢
  unfold mkTop obR obD
  dsimp only at hk ⊢
  show WWDE _ _ _ _ _ .one .one .one
  refine WWD_seqB tab_ok mdE ?_
  simp only [go_sem]
  refine WWD_seq ?_
  refine WWD_region tab_ok mdE 3 rfl rfl rfl ?_
  simp only [go_sem]
  have hc := d34 ks k h1 h0 (by omega)
  refine ⟨_, _, [(y, strs ks)], [(y, strs (mkL k ks.length))], [(z, obs kids)], hc, ⟨.raw y, _, [(y, _)], [], [(y, _)], [], rfl, rfl, rfl, ⟨y, rfl, rfl⟩, ⟨y, rfl, rfl⟩, _, _, _, rfl, rfl, .inr rfl, rfl, rfl, rfl⟩, .refl _, ?_⟩
  rintro _ _ ⟨_, rfl, rfl, _, rfl⟩
  unfold restD
  simp only [go_sem]
  refine WWD_seq ?_
  refine WWD_region tab_ok mdE 3 rfl rfl rfl ?_
  simp only [go_sem]
  have hc2 := h2 (k + ks.length) (by omega) (by omega)
  refine ⟨_, _, [(z, obs kids)], [(z, obs (mkKs kids (k + ks.length)))], [(y, strs (mkL k ks.length))], hc2, ⟨.raw z, _, [(z, _)], [], [(z, _)], [], rfl, rfl, rfl, ⟨z, rfl, rfl⟩, ⟨z, rfl, rfl⟩, _, _, _, rfl, rfl, .inr rfl, rfl, rfl, rfl⟩, .swap _ _ _, ?_⟩
  rintro _ _ ⟨_, rfl, rfl, _, rfl⟩
  unfold restD
  simp only [go_sem]
  refine WWD_seqB tab_ok mdE ?_
  simp only [go_sem]
  refine WWD_act tab_ok mdE ?_
  simp only [go_sem]
  refine ⟨[.int .i64 (k + (ks.length + nmK kids) : Nat)], [], by simp only [go_sem, Nat.add_assoc], rfl, [], [], RAL_int _, .swap _ _ _⟩
end Go.Proofs.Ytjpcicjkbbbpiaa.M

/- Contracts for Entry, part 7: contracts turned; how many marks there are. No condition. -/
namespace Go.Proofs.Ytjpcicjkbbbpiaa.M
open Go Go.Proofs
set_option maxRecDepth 100000
set_option maxHeartbeats 2000000
set_option linter.unusedSimpArgs false
set_option linter.unusedVariables false
section
variable {P : Program} {f : FuncId} {own : Bool} {w w' : World}
theorem bA_map : ∀ (xs : List AA), bA (xs.map DArg.b) = xs
  | [] => rfl
  | x :: r => by rw [List.map_cons, bA, bA_map r]
theorem DLs_map : ∀ {k : Bool} {xs : List AA} {vals : List Value} {r : List Nat}, DLs w k (xs.map DArg.b) vals r → r = [] ∧ bV (xs.map DArg.b) vals = vals ∧ ∀ (w' : World) (k' : Bool), DLs w' k' (xs.map DArg.b) vals []
  | k, [], vals, r, h => by
    obtain ⟨h1, h2⟩ := h
    subst h1 h2
    exact ⟨rfl, rfl, fun _ _ => ⟨rfl, rfl⟩⟩
  | k, x :: xs, vals, r, h => by
    obtain ⟨v, vs, rfl, h⟩ := h
    obtain ⟨h1, h2, h3⟩ := DLs_map h
    exact ⟨h1, by rw [List.map_cons, bV, h2], fun w' k' => ⟨v, vs, rfl, h3 w' k'⟩⟩
/-- A contract without deep trees, told with them. -/
theorem CSD_scal {xs : List AA} {x : T} (hx : x.scal = true) (h : CS P own f xs [x] []) : CSD P f (xs.map DArg.b) [x] [] := by
  intro G w vals rb rd hA hD hnd hbs hG
  obtain ⟨rfl, hv, hback⟩ := DLs_map hD
  rw [bA_map, hv] at hA
  rw [List.append_nil] at hnd hbs
  have imp : ∀ v w', (∃ r1 r2, Fr rb w w' ∧ ResOk own (inV (fun b => G b ∨ (w.heap.size ≤ b ∨ b ∈ rb) ∧ b ∉ r1 ++ r2) w') w' [x] v r1 ∧ OutsOk (inV (fun b => G b ∨ (w.heap.size ≤ b ∨ b ∈ rb) ∧ b ∉ r1 ++ r2) w') w' xs vals [] r2 ∧ (r1 ++ r2).Nodup ∧ ∀ b ∈ r1 ++ r2, b < w'.heap.size ∧ (b ∈ rb ∨ w.heap.size ≤ b)) →
      ∃ r1 r2 r3, Fr (rb ++ []) w w' ∧ DRes w' [x] v r1 ∧ OutsOk (inV (fun b => G b ∨ (w.heap.size ≤ b ∨ b ∈ rb ++ []) ∧ b ∉ r1 ++ (r2 ++ r3)) w') w' (bA (xs.map DArg.b)) (bV (xs.map DArg.b) vals) [] r2 ∧ DLs w' true (xs.map DArg.b) vals r3 ∧
        (r1 ++ (r2 ++ r3)).Nodup ∧ ∀ b ∈ r1 ++ (r2 ++ r3), b < w'.heap.size ∧ (b ∈ rb ++ [] ∨ w.heap.size ≤ b) := fun v w' ⟨r1, r2, c1, c2, c3, c4, c5⟩ => by
    obtain ⟨rfl, rfl⟩ := scal_resOk hx c2
    refine ⟨[], r2, [], by rw [List.append_nil]; exact c1, h_da (by intro ts h; subst h; simp [T.scal] at hx) (.sc _ _ hx (val_hold hx)), ?_, hback w' true, by simpa using c4, fun b hb => ?_⟩
    · rw [bA_map, hv]
      simpa using c3
    · have := c5 b (by simpa using hb)
      simpa using this
  rcases h G w vals rb hA hnd hbs hG with ⟨hrun, hcalls⟩ | ⟨v, w', hrun, hR⟩
  · exact .inl ⟨hrun, hcalls.mono fun e w' ⟨v, he, hR⟩ => ⟨v, he, imp v w' hR⟩⟩
  · exact .inr ⟨v, w', hrun, imp v w' hR⟩
/-- And back. -/
theorem CS_of_CSD {xs : List AA} {x : T} (hx : x.scal = true) (h : CSD P f (xs.map DArg.b) [x] []) : CS P own f xs [x] [] := by
  intro G w vals bs hA hnd hbs hG
  have hl : ∀ {xs : List AA} {vals : List Value} {bs : List Nat} {S : Addr → Option Value}, ArgsOk S w xs vals bs → DLs w false (xs.map DArg.b) vals [] := fun {xs} => by
    induction xs with
    | nil => intro vals bs S h; exact ⟨h.1, rfl⟩
    | cons x r ih => rintro _ _ S ⟨v, vs, r1, r2, rfl, rfl, _, h⟩; exact ⟨v, vs, rfl, ih h⟩
  have hD := hl hA
  obtain ⟨_, hv, _⟩ := DLs_map hD
  have imp : ∀ v w', (∃ r1 r2 r3, Fr (bs ++ []) w w' ∧ DRes w' [x] v r1 ∧ OutsOk (inV (fun b => G b ∨ (w.heap.size ≤ b ∨ b ∈ bs ++ []) ∧ b ∉ r1 ++ (r2 ++ r3)) w') w' (bA (xs.map DArg.b)) (bV (xs.map DArg.b) vals) [] r2 ∧ DLs w' true (xs.map DArg.b) vals r3 ∧
        (r1 ++ (r2 ++ r3)).Nodup ∧ ∀ b ∈ r1 ++ (r2 ++ r3), b < w'.heap.size ∧ (b ∈ bs ++ [] ∨ w.heap.size ≤ b)) →
      ∃ r1 r2, Fr bs w w' ∧ ResOk own (inV (fun b => G b ∨ (w.heap.size ≤ b ∨ b ∈ bs) ∧ b ∉ r1 ++ r2) w') w' [x] v r1 ∧ OutsOk (inV (fun b => G b ∨ (w.heap.size ≤ b ∨ b ∈ bs) ∧ b ∉ r1 ++ r2) w') w' xs vals [] r2 ∧ (r1 ++ r2).Nodup ∧ ∀ b ∈ r1 ++ r2, b < w'.heap.size ∧ (b ∈ bs ∨ w.heap.size ≤ b) := fun v w' ⟨r1, r2, r3, c1, c2, c3, c4, c5, c6⟩ => by
    obtain ⟨rfl, _, _⟩ := DLs_map c4
    have hH : DH w' x v r1 := da_H (by intro ts h; subst h; simp [T.scal] at hx) c2
    rw [bA_map, hv] at c3
    cases hH with
    | sc _ _ _ hH =>
      obtain rfl := hold_val hx hH
      rw [List.append_nil] at c1
      exact ⟨[], r2, c1, resOk_scal hx, by simpa using c3, by simpa using c5, fun b hb => by simpa using c6 b (by simpa using hb)⟩
    | nil => simp [T.scal] at hx
    | list => simp [T.scal] at hx
  have := h G w vals bs [] (by rw [bA_map, hv]; exact hA) hD (by simpa using hnd) (by simpa using hbs) hG
  rcases this with ⟨hrun, hcalls⟩ | ⟨v, w', hrun, hR⟩
  · exact .inl ⟨hrun, hcalls.mono fun e w' ⟨v, he, hR⟩ => ⟨v, he, imp v w' hR⟩⟩
  · exact .inr ⟨v, w', hrun, imp v w' hR⟩
end
theorem nmT_mk (k n : Int) (s : ByteArray) (ks : List ByteArray) (kids : List Ob) : nmT (.mk k n s ks kids) = ks.length + nmK kids := rfl
theorem nmE_T (o : Ob) : nmE o = 3 + nmT o := by
  cases o
  rw [nmE_mk, nmT_mk]; omega
theorem szF_head (x : Int) (m : Nat) (r : List Nat) (h : 0 ≤ szF x (m :: r)) : szF x (m :: r) ≤ x - m := by
  rw [szF] at h ⊢
  split at h
  · omega
  · rename_i h1
    rw [if_neg h1]
    exact szF_le r (x - m) (by omega)
theorem nmK_sz : ∀ (l : List Ob) (x : Int), (∀ o ∈ l, ∀ y : Int, 0 ≤ y → 0 ≤ szO o y → (nmT o : Int) ≤ 3 * (y - szO o y)) → 0 ≤ x → 0 ≤ szL l x → (nmK l : Int) ≤ 3 * (x - szL l x) + 3 * l.length
  | [], x, _, _, _ => by simp [nmK, szL]
  | o :: r, x, ho, h0, h => by
    rw [szL] at h ⊢
    split at h
    · omega
    · rename_i h1
      rw [if_neg h1]
      have h2 := ho o (by simp) x h0 (by omega)
      have h3 := nmK_sz r (szO o x) (fun o' h' => ho o' (by simp [h'])) (by omega) h
      have h4 := nmE_T o
      rw [nmK, h4, List.length_cons]
      omega
theorem nmT_sz : ∀ (o : Ob) (x : Int), 0 ≤ x → 0 ≤ szO o x → (nmT o : Int) ≤ 3 * (x - szO o x)
  | .mk k n s ks kids, x, h0, h => by
    rw [szO_mk] at h ⊢
    split at h
    · omega
    rename_i h1
    rw [if_neg h1]
    split at h
    · omega
    rename_i h2
    rw [if_neg h2]
    have h3 := szF_head (x - s.size) ks.length (ks.map (·.size)) (by omega)
    rw [szS] at h ⊢
    split at h
    · omega
    rename_i h4
    rw [if_neg h4]
    have h5 := nmK_sz kids (szF (x - s.size) (ks.length :: ks.map (·.size)) - kids.length) (fun o ho y hy0 hy => nmT_sz o y hy0 hy) (by omega) h
    rw [nmT_mk]
    omega
  decreasing_by
  have := List.sizeOf_lt_of_mem ho
  simp only [Ob.mk.sizeOf_spec]
  omega
theorem nmE_mem : ∀ {l : List Ob} {o : Ob}, o ∈ l → nmT o ≤ nmK l
  | a :: r, o, h => by
    have h4 := nmE_T a
    rw [nmK, h4]
    rcases List.mem_cons.1 h with rfl | h
    · omega
    · have := nmE_mem h; omega
end Go.Proofs.Ytjpcicjkbbbpiaa.M

/- Contracts for Entry, part 8: the law. No condition. -/
namespace Go.Proofs.Ytjpcicjkbbbpiaa.M
open Go Go.Proofs
set_option maxRecDepth 100000
set_option maxHeartbeats 8000000
set_option linter.unusedSimpArgs false
set_option linter.unusedVariables false
theorem RdA_ob (hp : List (Nat × Blk)) (d : De) (k n : Int) (s : ByteArray) (ks : List ByteArray) (kids : List Ob) (y z : Sl) (h1 : (y, strs ks) ∈ d) (h2 : (z, obs kids) ∈ d) :
    RdA hp d (.g [.t (.int .i64 k), .t (.int .i64 n), .t (.str s), .t (.raw y), .t (.raw z)]) (Ob.mk k n s ks kids).t := by
  rw [Ob.t_mk]
  exact ⟨_, rfl, _, _, rfl, .inr rfl, _, _, rfl, .inr rfl, _, _, rfl, .inr rfl, _, _, rfl, .inl ⟨y, rfl, h1⟩, _, _, rfl, .inl ⟨z, rfl, h2⟩, rfl⟩
theorem RdA_obv (hp : List (Nat × Blk)) (d : De) (k n : Int) (s : ByteArray) (ks : List ByteArray) (kids : List Ob) :
    RdA hp d (.g [.t (.int .i64 k), .t (.int .i64 n), .t (.str s), .t (.list 1 (ks.map T.str)), .t (.list 5 (kids.map Ob.t))]) (Ob.mk k n s ks kids).t := by
  rw [Ob.t_mk]
  exact ⟨_, rfl, _, _, rfl, .inr rfl, _, _, rfl, .inr rfl, _, _, rfl, .inr rfl, _, _, rfl, .inr rfl, _, _, rfl, .inr rfl, rfl⟩
/-- What an entry is told as: a tree, and whether there is one. -/
def gOf : Option Ob → Ob
  | some o => o
  | none => .mk 0 0 ⟨#[]⟩ [] []
theorem entR_gOf (e : Option Ob) : entR e = [(gOf e).t, .bool e.isSome] := by
  cases e with
  | none => show [ob0, _] = [(Ob.mk 0 0 ⟨#[]⟩ [] []).t, _]; rw [Ob.t_mk]; rfl
  | some o => rfl
theorem entryO_mem {k : Int} {ks : List ByteArray} {kids : List Ob} {v : ByteArray} {o : Ob} (h : entryO k ks kids v = some o) : o ∈ kids := by
  unfold entryO at h
  split at h
  · cases h
  · exact List.mem_of_getElem? h
theorem ResV_ent {g : Ob} {b : Bool} {av : AV} {d : De} (h : ResV [g.t, .bool b] av d) : ∃ y z, av = .tup [openT (obR g y z), .c (.t (.bool b))] ∧ d = obD g y z := by
  obtain ⟨_, rfl, x, xs, d1, d2, rfl, rfl, h1, x2, xs2, d3, d4, rfl, rfl, ⟨rfl, _, rfl⟩, rfl, rfl⟩ := h
  obtain ⟨y, z, rfl, rfl⟩ := RAr_ob h1
  exact ⟨y, z, rfl, by simp⟩
theorem RAL_true : RAL [.bool true] [.bool true] [] := ⟨_, _, [], [], rfl, rfl, ⟨rfl, rfl, rfl⟩, rfl, rfl⟩
theorem d3 (k n : Int) (s : ByteArray) (ks : List ByteArray) (kids : List Ob) (key : ByteArray) (hW : Wd (.mk k n s ks kids)) (hkey : key.size ≤ 9223372036854775807) :
    CSD Try.prog 3 [.b (.v (Ob.mk k n s ks kids).t), .b (.v (.str key))] [.bool true] [] := by
  have h6 := oc19' (.mk k n s ks kids) hW 1048576 (by omega) (by omega)
  have hrest : ¬ szO (.mk k n s ks kids) 1048576 < 0 → ∃ (g : Ob) (b : Bool), CS Try.prog false 8 [.v (Ob.mk k n s ks kids).t] [(Ob.mk k n s ks kids).t] [] ∧ CS Try.prog false 7 [.v (Ob.mk k n s ks kids).t, .v (.str key)] [g.t, .bool b] [] ∧
      CS Try.prog false 9 [.v (Ob.mk k n s ks kids).t, .v (.str key)] [g.t, .bool b] [] ∧ CS Try.prog false 10 [.v (Ob.mk k n s ks kids).t, .v (Ob.mk k n s ks kids).t] [.bool true] [] ∧ CS Try.prog false 10 [.v g.t, .v g.t] [.bool true] [] ∧
      D8 (.mk k n s ks kids) ∧ CSD Try.prog 9 [.b (.v (Ob.mk k n s ks kids).t), .b (.v (.str key))] [g.t, .bool b] [] ∧ Sm (.mk k n s ks kids) ∧ Sm g ∧ nmT (.mk k n s ks kids) ≤ 4194304 ∧ nmT g ≤ 4194304 := fun h => by
    have hT := tn_of_sz (.mk k n s ks kids) 1048576 (by omega) (by omega)
    have hS := hT.sm
    have hn := nmT_sz (.mk k n s ks kids) 1048576 (by omega) (by omega)
    have hn0 : nmT (.mk k n s ks kids) ≤ 4194304 := by omega
    have h7 := oc20 k n s ks kids key hS
    have h9 := oc22 k n s ks kids key hS
    have h9d := d9 k n s ks kids key hS
    rw [entR_gOf] at h7 h9 h9d
    have hg : Sm (gOf (entryO k ks kids key)) ∧ nmT (gOf (entryO k ks kids key)) ≤ 4194304 := by
      cases he : entryO k ks kids key with
      | none => exact ⟨.mk _ _ _ _ _ (by simp) (by simp) (by simp), by show (0 + nmK []) ≤ _; simp [nmK]⟩
      | some x =>
        have hm := entryO_mem he
        have h3 := nmE_mem hm
        rw [nmT_mk] at hn0
        cases hS with
        | mk _ _ _ _ _ _ _ h4 => exact ⟨h4 x hm, by show nmT x ≤ _; omega⟩
    exact ⟨gOf (entryO k ks kids key), _, oc21' _ hS, h7, h9, oc23' _ hS, oc23' _ hg.1, d8' _ hS, h9d, hS, hg.1, hn0, hg.2⟩
  generalize szO (.mk k n s ks kids) 1048576 = sz at h6 hrest
  rw [Ob.t_mk]
  refine CSD_views (xs := [.v (.agg [.int .i64 k, .int .i64 n, .str s, .list 1 (ks.map T.str), .list 5 (kids.map Ob.t)]), .v (.str key)]) tab_ok Try.func3 rfl rfl Try.ntmps3 (rl := [.tmp 4]) rfl (Nat.le_of_ble_eq_true rfl) ?_
  refine WWD_seqB tab_ok mdE ?_
  simp only [go_sem]
  refine WWD_seqB tab_ok mdE ?_
  simp only [go_sem]
  refine act_split (fun h => ?_) (fun h => ?_) <;> simp only [go_sem]
  · exact ⟨[.bool true], [], by simp only [go_sem], rfl, [], _, RAL_true, .refl _⟩
  refine WWD_seqB tab_ok mdE ?_
  simp only [go_sem]
  refine WWD_seqB tab_ok mdE ?_
  rw [Ob.t_mk] at h6
  simp only [go_sem]
  refine act_callE h6 ?_
  simp only [go_sem]
  refine WWD_seqB tab_ok mdE ?_
  simp only [go_sem]
  refine act_split (fun h => ?_) (fun h => ?_) <;> simp only [go_sem] <;> simp only [decide_eq_true_eq, decide_eq_false_iff_not] at h
  · exact ⟨[.bool true], [], by simp only [go_sem], rfl, [], _, RAL_true, .refl _⟩
  obtain ⟨g, b, c8, c7, c9, c10, c10g, dd8, dd9, hS, hSg, hno, hng⟩ := hrest h
  obtain ⟨gk, gn, gs, gks, gkids⟩ := g
  rw [Ob.t_mk] at c8 c7 c9
  rw [Ob.t_mk gk] at c7 c9
  -- the reference's answer
  refine WWD_seqB tab_ok mdE ?_
  simp only [go_sem]
  refine act_callE c8 ?_
  simp only [go_sem]
  refine act_callE c7 ?_
  simp only [go_sem]
  -- a tree of one's own
  refine WWD_seq ?_
  refine WWD_region tab_ok mdE 1 rfl rfl rfl ?_
  simp only [go_sem]
  refine ⟨[.b (.v (Ob.mk k n s ks kids).t)], [(Ob.mk k n s ks kids).t], [], [], [], dd8, ⟨_, _, _, rfl, rfl, RdA_obv _ _ _ _ _ _ _, rfl, rfl, rfl⟩, .refl _, ?_⟩
  rintro _ _ ⟨_, rfl, hra⟩
  obtain ⟨y, z, rfl, rfl⟩ := RAr_ob hra
  unfold restD obR obD
  simp only [go_sem]
  -- the program's answer
  refine WWD_seq ?_
  refine WWD_region tab_ok mdE 2 rfl rfl rfl ?_
  simp only [go_sem]
  refine ⟨[.b (.v (Ob.mk k n s ks kids).t), .b (.v (.str key))], _, [], [], _, dd9, ⟨_, _, _, rfl, rfl, RdA_ob _ _ k n s ks kids y z (by simp) (by simp), _, _, _, rfl, rfl, .inr rfl, rfl, rfl, rfl⟩, .refl _, ?_⟩
  intro av dn hrv
  obtain ⟨y2, z2, rfl, rfl⟩ := ResV_ent hrv
  unfold restD obR obD
  simp only [go_sem]
  -- they are alike
  have hb : (b != b) = false := by simp
  have hb2 : (!(b == b)) = false := by simp
  refine WWD_seq ?_
  refine WWD_seq ?_
  refine WWD_region tab_ok mdE 2 rfl rfl rfl ?_
  simp only [go_sem]
  refine ⟨[.b (.v (Ob.mk gk gn gs gks gkids).t), .b (.v (Ob.mk gk gn gs gks gkids).t)], [.bool true], [], [], _, CSD_scal rfl c10g, ⟨_, _, _, rfl, rfl, RdA_ob _ _ gk gn gs gks gkids y2 z2 (by simp) (by simp), _, _, _, rfl, rfl, RdA_obv _ _ _ _ _ _ _, rfl, rfl, rfl⟩, .refl _, ?_⟩
  rintro _ _ ⟨_, rfl, rfl, _, rfl⟩
  unfold restD
  simp only [go_sem, hb, hb2]
  refine WWD_act tab_ok mdE ?_
  simp only [go_sem]
  -- the argument stays
  refine WWD_seq ?_
  refine WWD_seq ?_
  refine WWD_draw tab_ok mix mdE [0,1,2,3,4] 3 3 rfl rfl rfl (by kernel_rfl) ?_
  simp only [go_sem]
  refine act_callE c8 ?_
  simp only [go_sem]
  refine ⟨⟨by kernel_rfl, by kernel_rfl⟩, ?_⟩
  refine ⟨[.b (.v (Ob.mk k n s ks kids).t), .b (.v (Ob.mk k n s ks kids).t)], [.bool true], [], [], _, CSD_scal rfl c10, ⟨_, _, _, rfl, rfl, RdA_ob _ _ k n s ks kids y z (by simp) (by simp), _, _, _, rfl, rfl, RdA_obv _ _ _ _ _ _ _, rfl, rfl, rfl⟩, .refl _, ?_⟩
  rintro _ _ ⟨_, rfl, rfl, _, rfl⟩
  unfold restDr
  simp only [go_sem]
  refine ⟨by kernel_rfl, ?_⟩
  refine WWD_act tab_ok mdE ?_
  simp only [go_sem]
  -- the argument is marked
  refine WWD_seqB tab_ok mdE ?_
  simp only [go_sem]
  refine WWD_seq ?_
  refine WWD_region tab_ok mdE 2 rfl rfl rfl ?_
  simp only [go_sem]
  refine ⟨_, _, [(y, strs ks), (z, obs kids)], [(y, strs (mkL 1 ks.length)), (z, obs (mkKs kids (1 + ks.length)))], [(y2, strs gks), (z2, obs gkids)], d11 (.mk k n s ks kids) hS 1 (by omega) (by omega), ⟨obR (.mk k n s ks kids) y z, _, [(y, strs ks), (z, obs kids)], [], [(y, strs (mkL 1 ks.length)), (z, obs (mkKs kids (1 + ks.length)))], [], rfl, rfl, rfl, RAr_mk _ y z, RAr_mk (mkTop (.mk k n s ks kids) 1) y z, _, _, _, rfl, rfl, .inr rfl, rfl, rfl, rfl⟩, ?_, ?_⟩
  · exact List.perm_append_comm (l₁ := [(y2, strs gks), (z2, obs gkids)]) (l₂ := [(y, strs ks), (z, obs kids)])
  rintro _ _ ⟨_, rfl, rfl, _, rfl⟩
  unfold restD
  simp only [go_sem]
  have n2 : ∀ m : Nat, decide (((m : Nat) : Int) < 0) = false := fun m => by simp
  have n3 : ∀ m : Nat, (((m : Nat) : Int) != (m : Nat)) = false := fun m => by simp
  generalize hmo : nmT (.mk k n s ks kids) = mo
  -- the answer does not hang on it
  refine WWD_seq ?_
  refine WWD_seq ?_
  refine WWD_region tab_ok mdE 5 rfl rfl rfl ?_
  simp only [go_sem, n2]
  refine ⟨[.b (.v (Ob.mk gk gn gs gks gkids).t), .b (.v (Ob.mk gk gn gs gks gkids).t)], [.bool true], [], [], _, CSD_scal rfl c10g, ⟨_, _, _, rfl, rfl, RdA_ob _ _ gk gn gs gks gkids y2 z2 (by simp) (by simp), _, _, _, rfl, rfl, RdA_obv _ _ _ _ _ _ _, rfl, rfl, rfl⟩, .refl _, ?_⟩
  rintro _ _ ⟨_, rfl, rfl, _, rfl⟩
  unfold restD
  simp only [go_sem, hb, hb2]
  refine WWD_act tab_ok mdE ?_
  simp only [go_sem]
  -- the answer is marked
  refine WWD_seqB tab_ok mdE ?_
  simp only [go_sem]
  refine WWD_seq ?_
  refine WWD_region tab_ok mdE 2 rfl rfl rfl ?_
  simp only [go_sem]
  have hm := d11 (.mk gk gn gs gks gkids) hSg 1 (by omega) (by omega)
  have hh := e12 (.mk gk gn gs gks gkids) hSg 1 (by omega) (by omega)
  generalize nmT (.mk gk gn gs gks gkids) = mg at hm hh
  refine ⟨_, _, [(y2, strs gks), (z2, obs gkids)], [(y2, strs (mkL 1 gks.length)), (z2, obs (mkKs gkids (1 + gks.length)))], [(y, strs (mkL 1 ks.length)), (z, obs (mkKs kids (1 + ks.length)))], hm, ⟨obR (.mk gk gn gs gks gkids) y2 z2, _, [(y2, strs gks), (z2, obs gkids)], [], [(y2, strs (mkL 1 gks.length)), (z2, obs (mkKs gkids (1 + gks.length)))], [], rfl, rfl, rfl, RAr_mk _ y2 z2, RAr_mk (mkTop (.mk gk gn gs gks gkids) 1) y2 z2, _, _, _, rfl, rfl, .inr rfl, rfl, rfl, rfl⟩, ?_, ?_⟩
  · exact List.perm_append_comm (l₁ := [(y, strs (mkL 1 ks.length)), (z, obs (mkKs kids (1 + ks.length)))]) (l₂ := [(y2, strs gks), (z2, obs gkids)])
  rintro _ _ ⟨_, rfl, rfl, _, rfl⟩
  unfold restD
  simp only [go_sem]
  -- it is held
  refine WWD_seqB tab_ok mdE ?_
  simp only [go_sem]
  refine WWD_seq ?_
  refine WWD_region tab_ok mdE 2 rfl rfl rfl ?_
  simp only [go_sem]
  refine ⟨[.b (.v (mkTop (.mk gk gn gs gks gkids) 1).t), .b (.v (.int .i64 ((1 : Nat) : Int)))], _, [], [], _, CSD_scal rfl hh, ⟨_, _, _, rfl, rfl, RdA_ob _ _ gk gn gs (mkL 1 gks.length) (mkKs gkids (1 + gks.length)) y2 z2 (by simp) (by simp), _, _, _, rfl, rfl, .inr rfl, rfl, rfl, rfl⟩, .refl _, ?_⟩
  rintro _ _ ⟨_, rfl, rfl, _, rfl⟩
  unfold restD
  simp only [go_sem]
  refine WWD_seqB tab_ok mdE ?_
  simp only [go_sem, n2]
  refine WWD_seqB tab_ok mdE ?_
  simp only [go_sem, n3]
  -- another call
  refine WWD_seqB tab_ok mdE ?_
  simp only [go_sem]
  refine act_callE c8 ?_
  simp only [go_sem]
  refine act_callE c9 ?_
  simp only [go_sem]
  rw [Ob.t_mk gk] at c10g
  refine WWD_seqB tab_ok mdE ?_
  simp only [go_sem]
  refine act_callE c10g ?_
  simp only [go_sem, hb, hb2]
  refine WWD_seqB tab_ok mdE ?_
  simp only [go_sem]
  refine WWD_seq ?_
  refine WWD_region tab_ok mdE 2 rfl rfl rfl ?_
  simp only [go_sem]
  refine ⟨[.b (.v (mkTop (.mk gk gn gs gks gkids) 1).t), .b (.v (.int .i64 ((1 : Nat) : Int)))], _, [], [], _, CSD_scal rfl hh, ⟨_, _, _, rfl, rfl, RdA_ob _ _ gk gn gs (mkL 1 gks.length) (mkKs gkids (1 + gks.length)) y2 z2 (by simp) (by simp), _, _, _, rfl, rfl, .inr rfl, rfl, rfl, rfl⟩, .refl _, ?_⟩
  rintro _ _ ⟨_, rfl, rfl, _, rfl⟩
  unfold restD
  simp only [go_sem]
  refine WWD_seqB tab_ok mdE ?_
  simp only [go_sem, n2]
  refine WWD_seqB tab_ok mdE ?_
  simp only [go_sem, n3]
  refine WWD_act tab_ok mdE ?_
  simp only [go_sem]
  exact ⟨[.bool true], [], by simp only [go_sem], rfl, [], _, RAL_true, .refl _⟩
theorem c3 (o : Ob) (key : ByteArray) (hW : Wd o) (hkey : key.size ≤ 9223372036854775807) : CS Try.prog false 3 [.v o.t, .v (.str key)] [.bool true] [] := by
  obtain ⟨k, n, s, ks, kids⟩ := o
  exact CS_of_CSD rfl (d3 k n s ks kids key hW hkey)
end Go.Proofs.Ytjpcicjkbbbpiaa.M
