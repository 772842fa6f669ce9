/- The table of types of the seat. Made by tab.py. -/
import Derived.Test.YtbmibaopkfenbaaDoorProg
import Derived.Test.YtbmibaopkfenbaaDoorKExactDocTextCard5
/- The table of types of the seat. Made by tab.py. -/
namespace Go.Proofs.YtbmibaopkfenbaaDoor.M
open Go Go.Proofs
set_option maxRecDepth 100000
def tab : Tab := [
 (2, ⟨1, 8, [.t (.int .i64 0)], .int .i64⟩),
 (3, ⟨1, 8, [.t (.int .i64 0)], .int .i64⟩),
 (4, ⟨1, 1, [.t (.bool false)], .bool⟩),
 (5, ⟨1, 1, [.t (.int .u8 0)], .int .u8⟩),
 (6, ⟨1, 1, [.t (.int .u8 0)], .int .u8⟩),
 (7, ⟨4, 24, [.t (.int .i64 0), .t (.int .i64 0), .t (.bool false), .t (.int .u8 0)], .struct [(0, 2), (1, 3), (2, 4), (3, 6)]⟩),
 (8, ⟨4, 24, [.t (.int .i64 0), .t (.int .i64 0), .t (.bool false), .t (.int .u8 0)], .struct [(0, 2), (1, 3), (2, 4), (3, 6)]⟩),
 (9, ⟨1, 16, [.t (.str ⟨#[]⟩)], .str⟩),
 (10, ⟨1, 16, [.t (.str ⟨#[]⟩)], .str⟩),
 (11, ⟨1, 16, [.t (.str ⟨#[]⟩)], .str⟩),
 (12, ⟨1, 8, [.t (.int .u64 0)], .int .u64⟩),
 (13, ⟨2, 24, [.t (.str ⟨#[]⟩), .t (.int .u64 0)], .struct [(0, 9), (1, 12)]⟩),
 (14, ⟨2, 24, [.t (.str ⟨#[]⟩), .t (.int .u64 0)], .struct [(0, 9), (1, 12)]⟩),
 (15, ⟨1, 8, [.nilp], .ptr 184⟩),
 (16, ⟨1, 8, [.nilp], .ptr 187⟩),
 (17, ⟨1, 8, [.nilp], .ptr 194⟩),
 (18, ⟨1, 8, [.nilp], .struct [(0, 17)]⟩),
 (19, ⟨1, 8, [.nilp], .struct [(0, 17)]⟩),
 (21, ⟨1, 4, [.t (.int .i32 0)], .int .i32⟩),
 (22, ⟨1, 24, [.nil 1], .slice 9⟩),
 (23, ⟨1, 24, [.nil 5], .slice 25⟩),
 (24, ⟨5, 80, [.t (.int .i64 0), .t (.int .i64 0), .t (.str ⟨#[]⟩), .nil 1, .nil 5], .struct [(0, 3), (1, 3), (2, 9), (3, 22), (4, 23)]⟩),
 (25, ⟨5, 80, [.t (.int .i64 0), .t (.int .i64 0), .t (.str ⟨#[]⟩), .nil 1, .nil 5], .struct [(0, 3), (1, 3), (2, 9), (3, 22), (4, 23)]⟩),
 (29, ⟨1, 24, [.nil 5], .slice 31⟩),
 (30, ⟨5, 80, [.t (.int .i64 0), .t (.int .i64 0), .t (.str ⟨#[]⟩), .nil 1, .nil 5], .struct [(0, 3), (1, 3), (2, 9), (3, 22), (4, 29)]⟩),
 (31, ⟨5, 80, [.t (.int .i64 0), .t (.int .i64 0), .t (.str ⟨#[]⟩), .nil 1, .nil 5], .struct [(0, 3), (1, 3), (2, 9), (3, 22), (4, 29)]⟩),
 (35, ⟨1, 24, [.nil 8], .slice 86⟩),
 (36, ⟨2, 32, [.nil 8, .t (.int .i64 0)], .struct [(0, 35), (1, 3)]⟩),
 (37, ⟨2, 32, [.nil 8, .t (.int .i64 0)], .struct [(0, 35), (1, 3)]⟩),
 (40, ⟨1, 24, [.nil 8], .slice 63⟩),
 (41, ⟨2, 32, [.nil 8, .t (.int .i64 0)], .struct [(0, 40), (1, 3)]⟩),
 (42, ⟨2, 32, [.nil 8, .t (.int .i64 0)], .struct [(0, 40), (1, 3)]⟩),
 (46, ⟨1, 24, [.nil 1], .slice 5⟩),
 (61, ⟨1, 24, [.nil 1], .slice 3⟩),
 (62, ⟨8, 112, [.t (.int .i64 0), .t (.int .i64 0), .t (.int .i64 0), .t (.str ⟨#[]⟩), .nil 1, .nil 5, .t (.bool false), .t (.str ⟨#[]⟩)], .struct [(0, 3), (1, 31), (6, 4), (7, 9)]⟩),
 (63, ⟨8, 112, [.t (.int .i64 0), .t (.int .i64 0), .t (.int .i64 0), .t (.str ⟨#[]⟩), .nil 1, .nil 5, .t (.bool false), .t (.str ⟨#[]⟩)], .struct [(0, 3), (1, 31), (6, 4), (7, 9)]⟩),
 (72, ⟨1, 8, [.nilp], .ptr 111⟩),
 (75, ⟨1, 8, [.nilp], .ptr 77⟩),
 (76, ⟨3, 32, [.t (.str ⟨#[]⟩), .t (.int .i64 0), .t (.bool false)], .struct [(0, 9), (1, 3), (2, 4)]⟩),
 (77, ⟨3, 32, [.t (.str ⟨#[]⟩), .t (.int .i64 0), .t (.bool false)], .struct [(0, 9), (1, 3), (2, 4)]⟩),
 (81, ⟨1, 8, [.nilp], .ptr 3⟩),
 (85, ⟨8, 112, [.t (.int .i64 0), .t (.int .i64 0), .t (.int .i64 0), .t (.str ⟨#[]⟩), .nil 1, .nil 5, .t (.bool false), .t (.str ⟨#[]⟩)], .struct [(0, 3), (1, 25), (6, 4), (7, 9)]⟩),
 (86, ⟨8, 112, [.t (.int .i64 0), .t (.int .i64 0), .t (.int .i64 0), .t (.str ⟨#[]⟩), .nil 1, .nil 5, .t (.bool false), .t (.str ⟨#[]⟩)], .struct [(0, 3), (1, 25), (6, 4), (7, 9)]⟩),
 (90, ⟨1, 8, [.t (.int .u64 0)], .int .u64⟩),
 (94, ⟨1, 8, [.nilp], .ptr 96⟩),
 (95, ⟨2, 32, [.nilp, .nil 1], .struct [(0, 94), (1, 46)]⟩),
 (96, ⟨2, 32, [.nilp, .nil 1], .struct [(0, 94), (1, 46)]⟩),
 (110, ⟨3, 40, [.nil 1, .t (.int .i64 0), .t (.int .i64 0)], .struct [(0, 46), (1, 3), (2, 3)]⟩),
 (111, ⟨3, 40, [.nil 1, .t (.int .i64 0), .t (.int .i64 0)], .struct [(0, 46), (1, 3), (2, 3)]⟩),
 (118, ⟨1, 4, [.t (.int .u32 0)], .int .u32⟩),
 (121, ⟨1, 8, [.t (.int .u64 0)], .int .u64⟩),
 (126, ⟨1, 8, [.nilp], .ptr 5⟩),
 (148, ⟨256, 256, [.t (.bool false), .t (.bool false), .t (.bool false), .t (.bool false), .t (.bool false), .t (.bool false), .t (.bool false), .t (.bool false), .t (.bool false), .t (.bool false), .t (.bool false), .t (.bool false), .t (.bool false), .t (.bool false), .t (.bool false), .t (.bool false), .t (.bool false), .t (.bool false), .t (.bool false), .t (.bool false), .t (.bool false), .t (.bool false), .t (.bool false), .t (.bool false), .t (.bool false), .t (.bool false), .t (.bool false), .t (.bool false), .t (.bool false), .t (.bool false), .t (.bool false), .t (.bool false), .t (.bool false), .t (.bool false), .t (.bool false), .t (.bool false), .t (.bool false), .t (.bool false), .t (.bool false), .t (.bool false), .t (.bool false), .t (.bool false), .t (.bool false), .t (.bool false), .t (.bool false), .t (.bool false), .t (.bool false), .t (.bool false), .t (.bool false), .t (.bool false), .t (.bool false), .t (.bool false), .t (.bool false), .t (.bool false), .t (.bool false), .t (.bool false), .t (.bool false), .t (.bool false), .t (.bool false), .t (.bool false), .t (.bool false), .t (.bool false), .t (.bool false), .t (.bool false), .t (.bool false), .t (.bool false), .t (.bool false), .t (.bool false), .t (.bool false), .t (.bool false), .t (.bool false), .t (.bool false), .t (.bool false), .t (.bool false), .t (.bool false), .t (.bool false), .t (.bool false), .t (.bool false), .t (.bool false), .t (.bool false), .t (.bool false), .t (.bool false), .t (.bool false), .t (.bool false), .t (.bool false), .t (.bool false), .t (.bool false), .t (.bool false), .t (.bool false), .t (.bool false), .t (.bool false), .t (.bool false), .t (.bool false), .t (.bool false), .t (.bool false), .t (.bool false), .t (.bool false), .t (.bool false), .t (.bool false), .t (.bool false), .t (.bool false), .t (.bool false), .t (.bool false), .t (.bool false), .t (.bool false), .t (.bool false), .t (.bool false), .t (.bool false), .t (.bool false), .t (.bool false), .t (.bool false), .t (.bool false), .t (.bool false), .t (.bool false), .t (.bool false), .t (.bool false), .t (.bool false), .t (.bool false), .t (.bool false), .t (.bool false), .t (.bool false), .t (.bool false), .t (.bool false), .t (.bool false), .t (.bool false), .t (.bool false), .t (.bool false), .t (.bool false), .t (.bool false), .t (.bool false), .t (.bool false), .t (.bool false), .t (.bool false), .t (.bool false), .t (.bool false), .t (.bool false), .t (.bool false), .t (.bool false), .t (.bool false), .t (.bool false), .t (.bool false), .t (.bool false), .t (.bool false), .t (.bool false), .t (.bool false), .t (.bool false), .t (.bool false), .t (.bool false), .t (.bool false), .t (.bool false), .t (.bool false), .t (.bool false), .t (.bool false), .t (.bool false), .t (.bool false), .t (.bool false), .t (.bool false), .t (.bool false), .t (.bool false), .t (.bool false), .t (.bool false), .t (.bool false), .t (.bool false), .t (.bool false), .t (.bool false), .t (.bool false), .t (.bool false), .t (.bool false), .t (.bool false), .t (.bool false), .t (.bool false), .t (.bool false), .t (.bool false), .t (.bool false), .t (.bool false), .t (.bool false), .t (.bool false), .t (.bool false), .t (.bool false), .t (.bool false), .t (.bool false), .t (.bool false), .t (.bool false), .t (.bool false), .t (.bool false), .t (.bool false), .t (.bool false), .t (.bool false), .t (.bool false), .t (.bool false), .t (.bool false), .t (.bool false), .t (.bool false), .t (.bool false), .t (.bool false), .t (.bool false), .t (.bool false), .t (.bool false), .t (.bool false), .t (.bool false), .t (.bool false), .t (.bool false), .t (.bool false), .t (.bool false), .t (.bool false), .t (.bool false), .t (.bool false), .t (.bool false), .t (.bool false), .t (.bool false), .t (.bool false), .t (.bool false), .t (.bool false), .t (.bool false), .t (.bool false), .t (.bool false), .t (.bool false), .t (.bool false), .t (.bool false), .t (.bool false), .t (.bool false), .t (.bool false), .t (.bool false), .t (.bool false), .t (.bool false), .t (.bool false), .t (.bool false), .t (.bool false), .t (.bool false), .t (.bool false), .t (.bool false), .t (.bool false), .t (.bool false), .t (.bool false), .t (.bool false), .t (.bool false), .t (.bool false), .t (.bool false), .t (.bool false), .t (.bool false), .t (.bool false), .t (.bool false), .t (.bool false), .t (.bool false), .t (.bool false), .t (.bool false), .t (.bool false), .t (.bool false), .t (.bool false), .t (.bool false), .t (.bool false), .t (.bool false), .t (.bool false), .t (.bool false), .t (.bool false), .t (.bool false)], .array 256 4⟩),
 (149, ⟨256, 256, [.t (.bool false), .t (.bool false), .t (.bool false), .t (.bool false), .t (.bool false), .t (.bool false), .t (.bool false), .t (.bool false), .t (.bool false), .t (.bool false), .t (.bool false), .t (.bool false), .t (.bool false), .t (.bool false), .t (.bool false), .t (.bool false), .t (.bool false), .t (.bool false), .t (.bool false), .t (.bool false), .t (.bool false), .t (.bool false), .t (.bool false), .t (.bool false), .t (.bool false), .t (.bool false), .t (.bool false), .t (.bool false), .t (.bool false), .t (.bool false), .t (.bool false), .t (.bool false), .t (.bool false), .t (.bool false), .t (.bool false), .t (.bool false), .t (.bool false), .t (.bool false), .t (.bool false), .t (.bool false), .t (.bool false), .t (.bool false), .t (.bool false), .t (.bool false), .t (.bool false), .t (.bool false), .t (.bool false), .t (.bool false), .t (.bool false), .t (.bool false), .t (.bool false), .t (.bool false), .t (.bool false), .t (.bool false), .t (.bool false), .t (.bool false), .t (.bool false), .t (.bool false), .t (.bool false), .t (.bool false), .t (.bool false), .t (.bool false), .t (.bool false), .t (.bool false), .t (.bool false), .t (.bool false), .t (.bool false), .t (.bool false), .t (.bool false), .t (.bool false), .t (.bool false), .t (.bool false), .t (.bool false), .t (.bool false), .t (.bool false), .t (.bool false), .t (.bool false), .t (.bool false), .t (.bool false), .t (.bool false), .t (.bool false), .t (.bool false), .t (.bool false), .t (.bool false), .t (.bool false), .t (.bool false), .t (.bool false), .t (.bool false), .t (.bool false), .t (.bool false), .t (.bool false), .t (.bool false), .t (.bool false), .t (.bool false), .t (.bool false), .t (.bool false), .t (.bool false), .t (.bool false), .t (.bool false), .t (.bool false), .t (.bool false), .t (.bool false), .t (.bool false), .t (.bool false), .t (.bool false), .t (.bool false), .t (.bool false), .t (.bool false), .t (.bool false), .t (.bool false), .t (.bool false), .t (.bool false), .t (.bool false), .t (.bool false), .t (.bool false), .t (.bool false), .t (.bool false), .t (.bool false), .t (.bool false), .t (.bool false), .t (.bool false), .t (.bool false), .t (.bool false), .t (.bool false), .t (.bool false), .t (.bool false), .t (.bool false), .t (.bool false), .t (.bool false), .t (.bool false), .t (.bool false), .t (.bool false), .t (.bool false), .t (.bool false), .t (.bool false), .t (.bool false), .t (.bool false), .t (.bool false), .t (.bool false), .t (.bool false), .t (.bool false), .t (.bool false), .t (.bool false), .t (.bool false), .t (.bool false), .t (.bool false), .t (.bool false), .t (.bool false), .t (.bool false), .t (.bool false), .t (.bool false), .t (.bool false), .t (.bool false), .t (.bool false), .t (.bool false), .t (.bool false), .t (.bool false), .t (.bool false), .t (.bool false), .t (.bool false), .t (.bool false), .t (.bool false), .t (.bool false), .t (.bool false), .t (.bool false), .t (.bool false), .t (.bool false), .t (.bool false), .t (.bool false), .t (.bool false), .t (.bool false), .t (.bool false), .t (.bool false), .t (.bool false), .t (.bool false), .t (.bool false), .t (.bool false), .t (.bool false), .t (.bool false), .t (.bool false), .t (.bool false), .t (.bool false), .t (.bool false), .t (.bool false), .t (.bool false), .t (.bool false), .t (.bool false), .t (.bool false), .t (.bool false), .t (.bool false), .t (.bool false), .t (.bool false), .t (.bool false), .t (.bool false), .t (.bool false), .t (.bool false), .t (.bool false), .t (.bool false), .t (.bool false), .t (.bool false), .t (.bool false), .t (.bool false), .t (.bool false), .t (.bool false), .t (.bool false), .t (.bool false), .t (.bool false), .t (.bool false), .t (.bool false), .t (.bool false), .t (.bool false), .t (.bool false), .t (.bool false), .t (.bool false), .t (.bool false), .t (.bool false), .t (.bool false), .t (.bool false), .t (.bool false), .t (.bool false), .t (.bool false), .t (.bool false), .t (.bool false), .t (.bool false), .t (.bool false), .t (.bool false), .t (.bool false), .t (.bool false), .t (.bool false), .t (.bool false), .t (.bool false), .t (.bool false), .t (.bool false), .t (.bool false), .t (.bool false), .t (.bool false), .t (.bool false), .t (.bool false), .t (.bool false), .t (.bool false), .t (.bool false), .t (.bool false), .t (.bool false), .t (.bool false), .t (.bool false), .t (.bool false), .t (.bool false), .t (.bool false), .t (.bool false), .t (.bool false), .t (.bool false), .t (.bool false), .t (.bool false), .t (.bool false), .t (.bool false), .t (.bool false)], .array 256 4⟩),
 (155, ⟨24, 24, [.t (.int .u8 0), .t (.int .u8 0), .t (.int .u8 0), .t (.int .u8 0), .t (.int .u8 0), .t (.int .u8 0), .t (.int .u8 0), .t (.int .u8 0), .t (.int .u8 0), .t (.int .u8 0), .t (.int .u8 0), .t (.int .u8 0), .t (.int .u8 0), .t (.int .u8 0), .t (.int .u8 0), .t (.int .u8 0), .t (.int .u8 0), .t (.int .u8 0), .t (.int .u8 0), .t (.int .u8 0), .t (.int .u8 0), .t (.int .u8 0), .t (.int .u8 0), .t (.int .u8 0)], .array 24 5⟩),
 (162, ⟨1, 8, [.nilp], .ptr 149⟩),
 (163, ⟨1, 8, [.t (.int .i64 0)], .int .i64⟩),
 (165, ⟨1, 8, [.nilp], .ptr 175⟩),
 (169, ⟨20, 160, [.t (.int .u64 0), .t (.int .u64 0), .t (.int .u64 0), .t (.int .u64 0), .t (.int .u64 0), .t (.int .u64 0), .t (.int .u64 0), .t (.int .u64 0), .t (.int .u64 0), .t (.int .u64 0), .t (.int .u64 0), .t (.int .u64 0), .t (.int .u64 0), .t (.int .u64 0), .t (.int .u64 0), .t (.int .u64 0), .t (.int .u64 0), .t (.int .u64 0), .t (.int .u64 0), .t (.int .u64 0)], .array 20 121⟩),
 (170, ⟨65, 65, [.t (.int .u8 0), .t (.int .u8 0), .t (.int .u8 0), .t (.int .u8 0), .t (.int .u8 0), .t (.int .u8 0), .t (.int .u8 0), .t (.int .u8 0), .t (.int .u8 0), .t (.int .u8 0), .t (.int .u8 0), .t (.int .u8 0), .t (.int .u8 0), .t (.int .u8 0), .t (.int .u8 0), .t (.int .u8 0), .t (.int .u8 0), .t (.int .u8 0), .t (.int .u8 0), .t (.int .u8 0), .t (.int .u8 0), .t (.int .u8 0), .t (.int .u8 0), .t (.int .u8 0), .t (.int .u8 0), .t (.int .u8 0), .t (.int .u8 0), .t (.int .u8 0), .t (.int .u8 0), .t (.int .u8 0), .t (.int .u8 0), .t (.int .u8 0), .t (.int .u8 0), .t (.int .u8 0), .t (.int .u8 0), .t (.int .u8 0), .t (.int .u8 0), .t (.int .u8 0), .t (.int .u8 0), .t (.int .u8 0), .t (.int .u8 0), .t (.int .u8 0), .t (.int .u8 0), .t (.int .u8 0), .t (.int .u8 0), .t (.int .u8 0), .t (.int .u8 0), .t (.int .u8 0), .t (.int .u8 0), .t (.int .u8 0), .t (.int .u8 0), .t (.int .u8 0), .t (.int .u8 0), .t (.int .u8 0), .t (.int .u8 0), .t (.int .u8 0), .t (.int .u8 0), .t (.int .u8 0), .t (.int .u8 0), .t (.int .u8 0), .t (.int .u8 0), .t (.int .u8 0), .t (.int .u8 0), .t (.int .u8 0), .t (.int .u8 0)], .array 65 5⟩),
 (178, ⟨1, 8, [.nilp], .ptr 180⟩),
 (179, ⟨1, 16, [.t (.str ⟨#[]⟩)], .struct [(0, 9)]⟩),
 (180, ⟨1, 16, [.t (.str ⟨#[]⟩)], .struct [(0, 9)]⟩),
 (181, ⟨32, 32, [.t (.int .u8 0), .t (.int .u8 0), .t (.int .u8 0), .t (.int .u8 0), .t (.int .u8 0), .t (.int .u8 0), .t (.int .u8 0), .t (.int .u8 0), .t (.int .u8 0), .t (.int .u8 0), .t (.int .u8 0), .t (.int .u8 0), .t (.int .u8 0), .t (.int .u8 0), .t (.int .u8 0), .t (.int .u8 0), .t (.int .u8 0), .t (.int .u8 0), .t (.int .u8 0), .t (.int .u8 0), .t (.int .u8 0), .t (.int .u8 0), .t (.int .u8 0), .t (.int .u8 0), .t (.int .u8 0), .t (.int .u8 0), .t (.int .u8 0), .t (.int .u8 0), .t (.int .u8 0), .t (.int .u8 0), .t (.int .u8 0), .t (.int .u8 0)], .array 32 5⟩),
 (182, ⟨64, 64, [.t (.int .u8 0), .t (.int .u8 0), .t (.int .u8 0), .t (.int .u8 0), .t (.int .u8 0), .t (.int .u8 0), .t (.int .u8 0), .t (.int .u8 0), .t (.int .u8 0), .t (.int .u8 0), .t (.int .u8 0), .t (.int .u8 0), .t (.int .u8 0), .t (.int .u8 0), .t (.int .u8 0), .t (.int .u8 0), .t (.int .u8 0), .t (.int .u8 0), .t (.int .u8 0), .t (.int .u8 0), .t (.int .u8 0), .t (.int .u8 0), .t (.int .u8 0), .t (.int .u8 0), .t (.int .u8 0), .t (.int .u8 0), .t (.int .u8 0), .t (.int .u8 0), .t (.int .u8 0), .t (.int .u8 0), .t (.int .u8 0), .t (.int .u8 0), .t (.int .u8 0), .t (.int .u8 0), .t (.int .u8 0), .t (.int .u8 0), .t (.int .u8 0), .t (.int .u8 0), .t (.int .u8 0), .t (.int .u8 0), .t (.int .u8 0), .t (.int .u8 0), .t (.int .u8 0), .t (.int .u8 0), .t (.int .u8 0), .t (.int .u8 0), .t (.int .u8 0), .t (.int .u8 0), .t (.int .u8 0), .t (.int .u8 0), .t (.int .u8 0), .t (.int .u8 0), .t (.int .u8 0), .t (.int .u8 0), .t (.int .u8 0), .t (.int .u8 0), .t (.int .u8 0), .t (.int .u8 0), .t (.int .u8 0), .t (.int .u8 0), .t (.int .u8 0), .t (.int .u8 0), .t (.int .u8 0), .t (.int .u8 0)], .array 64 5⟩),
 (183, ⟨4, 40, [.nilp, .nilp, .nilp, .t (.str ⟨#[]⟩)], .struct [(0, 17), (1, 17), (2, 17), (3, 9)]⟩),
 (184, ⟨4, 40, [.nilp, .nilp, .nilp, .t (.str ⟨#[]⟩)], .struct [(0, 17), (1, 17), (2, 17), (3, 9)]⟩),
 (185, ⟨0, 0, [], .array 0 16⟩),
 (186, ⟨0, 0, [], .struct [(0, 185)]⟩),
 (187, ⟨0, 0, [], .struct [(0, 185)]⟩),
 (188, ⟨1, 1, [.t (.int .u8 0)], .int .u8⟩),
 (189, ⟨1, 1, [.t (.int .u8 0)], .int .u8⟩),
 (191, ⟨1, 4, [.t (.int .i32 0)], .int .i32⟩),
 (192, ⟨1, 4, [.t (.int .i32 0)], .int .i32⟩)
]
theorem mix : Tryd.prog.follows .mixedOrders = true := by kernel_rfl
theorem tab_ok : TOk Tryd.prog tab := tabB_ok (by kernel_rfl)
@[go_sem] theorem f2 : find tab 2 = some ⟨1, 8, [.t (.int .i64 0)], .int .i64⟩ := rfl
@[go_sem] theorem t2 : tg tab 2 = ⟨1, 8, [.t (.int .i64 0)], .int .i64⟩ := rfl
@[go_sem] theorem f3 : find tab 3 = some ⟨1, 8, [.t (.int .i64 0)], .int .i64⟩ := rfl
@[go_sem] theorem t3 : tg tab 3 = ⟨1, 8, [.t (.int .i64 0)], .int .i64⟩ := rfl
@[go_sem] theorem f4 : find tab 4 = some ⟨1, 1, [.t (.bool false)], .bool⟩ := rfl
@[go_sem] theorem t4 : tg tab 4 = ⟨1, 1, [.t (.bool false)], .bool⟩ := rfl
@[go_sem] theorem f5 : find tab 5 = some ⟨1, 1, [.t (.int .u8 0)], .int .u8⟩ := rfl
@[go_sem] theorem t5 : tg tab 5 = ⟨1, 1, [.t (.int .u8 0)], .int .u8⟩ := rfl
@[go_sem] theorem f6 : find tab 6 = some ⟨1, 1, [.t (.int .u8 0)], .int .u8⟩ := rfl
@[go_sem] theorem t6 : tg tab 6 = ⟨1, 1, [.t (.int .u8 0)], .int .u8⟩ := rfl
@[go_sem] theorem f7 : find tab 7 = some ⟨4, 24, [.t (.int .i64 0), .t (.int .i64 0), .t (.bool false), .t (.int .u8 0)], .struct [(0, 2), (1, 3), (2, 4), (3, 6)]⟩ := rfl
@[go_sem] theorem t7 : tg tab 7 = ⟨4, 24, [.t (.int .i64 0), .t (.int .i64 0), .t (.bool false), .t (.int .u8 0)], .struct [(0, 2), (1, 3), (2, 4), (3, 6)]⟩ := rfl
@[go_sem] theorem f8 : find tab 8 = some ⟨4, 24, [.t (.int .i64 0), .t (.int .i64 0), .t (.bool false), .t (.int .u8 0)], .struct [(0, 2), (1, 3), (2, 4), (3, 6)]⟩ := rfl
@[go_sem] theorem t8 : tg tab 8 = ⟨4, 24, [.t (.int .i64 0), .t (.int .i64 0), .t (.bool false), .t (.int .u8 0)], .struct [(0, 2), (1, 3), (2, 4), (3, 6)]⟩ := rfl
@[go_sem] theorem f9 : find tab 9 = some ⟨1, 16, [.t (.str ⟨#[]⟩)], .str⟩ := rfl
@[go_sem] theorem t9 : tg tab 9 = ⟨1, 16, [.t (.str ⟨#[]⟩)], .str⟩ := rfl
@[go_sem] theorem f10 : find tab 10 = some ⟨1, 16, [.t (.str ⟨#[]⟩)], .str⟩ := rfl
@[go_sem] theorem t10 : tg tab 10 = ⟨1, 16, [.t (.str ⟨#[]⟩)], .str⟩ := rfl
@[go_sem] theorem f11 : find tab 11 = some ⟨1, 16, [.t (.str ⟨#[]⟩)], .str⟩ := rfl
@[go_sem] theorem t11 : tg tab 11 = ⟨1, 16, [.t (.str ⟨#[]⟩)], .str⟩ := rfl
@[go_sem] theorem f12 : find tab 12 = some ⟨1, 8, [.t (.int .u64 0)], .int .u64⟩ := rfl
@[go_sem] theorem t12 : tg tab 12 = ⟨1, 8, [.t (.int .u64 0)], .int .u64⟩ := rfl
@[go_sem] theorem f13 : find tab 13 = some ⟨2, 24, [.t (.str ⟨#[]⟩), .t (.int .u64 0)], .struct [(0, 9), (1, 12)]⟩ := rfl
@[go_sem] theorem t13 : tg tab 13 = ⟨2, 24, [.t (.str ⟨#[]⟩), .t (.int .u64 0)], .struct [(0, 9), (1, 12)]⟩ := rfl
@[go_sem] theorem f14 : find tab 14 = some ⟨2, 24, [.t (.str ⟨#[]⟩), .t (.int .u64 0)], .struct [(0, 9), (1, 12)]⟩ := rfl
@[go_sem] theorem t14 : tg tab 14 = ⟨2, 24, [.t (.str ⟨#[]⟩), .t (.int .u64 0)], .struct [(0, 9), (1, 12)]⟩ := rfl
@[go_sem] theorem f15 : find tab 15 = some ⟨1, 8, [.nilp], .ptr 184⟩ := rfl
@[go_sem] theorem t15 : tg tab 15 = ⟨1, 8, [.nilp], .ptr 184⟩ := rfl
@[go_sem] theorem f16 : find tab 16 = some ⟨1, 8, [.nilp], .ptr 187⟩ := rfl
@[go_sem] theorem t16 : tg tab 16 = ⟨1, 8, [.nilp], .ptr 187⟩ := rfl
@[go_sem] theorem f17 : find tab 17 = some ⟨1, 8, [.nilp], .ptr 194⟩ := rfl
@[go_sem] theorem t17 : tg tab 17 = ⟨1, 8, [.nilp], .ptr 194⟩ := rfl
@[go_sem] theorem f18 : find tab 18 = some ⟨1, 8, [.nilp], .struct [(0, 17)]⟩ := rfl
@[go_sem] theorem t18 : tg tab 18 = ⟨1, 8, [.nilp], .struct [(0, 17)]⟩ := rfl
@[go_sem] theorem f19 : find tab 19 = some ⟨1, 8, [.nilp], .struct [(0, 17)]⟩ := rfl
@[go_sem] theorem t19 : tg tab 19 = ⟨1, 8, [.nilp], .struct [(0, 17)]⟩ := rfl
@[go_sem] theorem f21 : find tab 21 = some ⟨1, 4, [.t (.int .i32 0)], .int .i32⟩ := rfl
@[go_sem] theorem t21 : tg tab 21 = ⟨1, 4, [.t (.int .i32 0)], .int .i32⟩ := rfl
@[go_sem] theorem f22 : find tab 22 = some ⟨1, 24, [.nil 1], .slice 9⟩ := rfl
@[go_sem] theorem t22 : tg tab 22 = ⟨1, 24, [.nil 1], .slice 9⟩ := rfl
@[go_sem] theorem f23 : find tab 23 = some ⟨1, 24, [.nil 5], .slice 25⟩ := rfl
@[go_sem] theorem t23 : tg tab 23 = ⟨1, 24, [.nil 5], .slice 25⟩ := rfl
@[go_sem] theorem f24 : find tab 24 = some ⟨5, 80, [.t (.int .i64 0), .t (.int .i64 0), .t (.str ⟨#[]⟩), .nil 1, .nil 5], .struct [(0, 3), (1, 3), (2, 9), (3, 22), (4, 23)]⟩ := rfl
@[go_sem] theorem t24 : tg tab 24 = ⟨5, 80, [.t (.int .i64 0), .t (.int .i64 0), .t (.str ⟨#[]⟩), .nil 1, .nil 5], .struct [(0, 3), (1, 3), (2, 9), (3, 22), (4, 23)]⟩ := rfl
@[go_sem] theorem f25 : find tab 25 = some ⟨5, 80, [.t (.int .i64 0), .t (.int .i64 0), .t (.str ⟨#[]⟩), .nil 1, .nil 5], .struct [(0, 3), (1, 3), (2, 9), (3, 22), (4, 23)]⟩ := rfl
@[go_sem] theorem t25 : tg tab 25 = ⟨5, 80, [.t (.int .i64 0), .t (.int .i64 0), .t (.str ⟨#[]⟩), .nil 1, .nil 5], .struct [(0, 3), (1, 3), (2, 9), (3, 22), (4, 23)]⟩ := rfl
@[go_sem] theorem f29 : find tab 29 = some ⟨1, 24, [.nil 5], .slice 31⟩ := rfl
@[go_sem] theorem t29 : tg tab 29 = ⟨1, 24, [.nil 5], .slice 31⟩ := rfl
@[go_sem] theorem f30 : find tab 30 = some ⟨5, 80, [.t (.int .i64 0), .t (.int .i64 0), .t (.str ⟨#[]⟩), .nil 1, .nil 5], .struct [(0, 3), (1, 3), (2, 9), (3, 22), (4, 29)]⟩ := rfl
@[go_sem] theorem t30 : tg tab 30 = ⟨5, 80, [.t (.int .i64 0), .t (.int .i64 0), .t (.str ⟨#[]⟩), .nil 1, .nil 5], .struct [(0, 3), (1, 3), (2, 9), (3, 22), (4, 29)]⟩ := rfl
@[go_sem] theorem f31 : find tab 31 = some ⟨5, 80, [.t (.int .i64 0), .t (.int .i64 0), .t (.str ⟨#[]⟩), .nil 1, .nil 5], .struct [(0, 3), (1, 3), (2, 9), (3, 22), (4, 29)]⟩ := rfl
@[go_sem] theorem t31 : tg tab 31 = ⟨5, 80, [.t (.int .i64 0), .t (.int .i64 0), .t (.str ⟨#[]⟩), .nil 1, .nil 5], .struct [(0, 3), (1, 3), (2, 9), (3, 22), (4, 29)]⟩ := rfl
@[go_sem] theorem f35 : find tab 35 = some ⟨1, 24, [.nil 8], .slice 86⟩ := rfl
@[go_sem] theorem t35 : tg tab 35 = ⟨1, 24, [.nil 8], .slice 86⟩ := rfl
@[go_sem] theorem f36 : find tab 36 = some ⟨2, 32, [.nil 8, .t (.int .i64 0)], .struct [(0, 35), (1, 3)]⟩ := rfl
@[go_sem] theorem t36 : tg tab 36 = ⟨2, 32, [.nil 8, .t (.int .i64 0)], .struct [(0, 35), (1, 3)]⟩ := rfl
@[go_sem] theorem f37 : find tab 37 = some ⟨2, 32, [.nil 8, .t (.int .i64 0)], .struct [(0, 35), (1, 3)]⟩ := rfl
@[go_sem] theorem t37 : tg tab 37 = ⟨2, 32, [.nil 8, .t (.int .i64 0)], .struct [(0, 35), (1, 3)]⟩ := rfl
@[go_sem] theorem f40 : find tab 40 = some ⟨1, 24, [.nil 8], .slice 63⟩ := rfl
@[go_sem] theorem t40 : tg tab 40 = ⟨1, 24, [.nil 8], .slice 63⟩ := rfl
@[go_sem] theorem f41 : find tab 41 = some ⟨2, 32, [.nil 8, .t (.int .i64 0)], .struct [(0, 40), (1, 3)]⟩ := rfl
@[go_sem] theorem t41 : tg tab 41 = ⟨2, 32, [.nil 8, .t (.int .i64 0)], .struct [(0, 40), (1, 3)]⟩ := rfl
@[go_sem] theorem f42 : find tab 42 = some ⟨2, 32, [.nil 8, .t (.int .i64 0)], .struct [(0, 40), (1, 3)]⟩ := rfl
@[go_sem] theorem t42 : tg tab 42 = ⟨2, 32, [.nil 8, .t (.int .i64 0)], .struct [(0, 40), (1, 3)]⟩ := rfl
@[go_sem] theorem f46 : find tab 46 = some ⟨1, 24, [.nil 1], .slice 5⟩ := rfl
@[go_sem] theorem t46 : tg tab 46 = ⟨1, 24, [.nil 1], .slice 5⟩ := rfl
@[go_sem] theorem f61 : find tab 61 = some ⟨1, 24, [.nil 1], .slice 3⟩ := rfl
@[go_sem] theorem t61 : tg tab 61 = ⟨1, 24, [.nil 1], .slice 3⟩ := rfl
@[go_sem] theorem f62 : find tab 62 = some ⟨8, 112, [.t (.int .i64 0), .t (.int .i64 0), .t (.int .i64 0), .t (.str ⟨#[]⟩), .nil 1, .nil 5, .t (.bool false), .t (.str ⟨#[]⟩)], .struct [(0, 3), (1, 31), (6, 4), (7, 9)]⟩ := rfl
@[go_sem] theorem t62 : tg tab 62 = ⟨8, 112, [.t (.int .i64 0), .t (.int .i64 0), .t (.int .i64 0), .t (.str ⟨#[]⟩), .nil 1, .nil 5, .t (.bool false), .t (.str ⟨#[]⟩)], .struct [(0, 3), (1, 31), (6, 4), (7, 9)]⟩ := rfl
@[go_sem] theorem f63 : find tab 63 = some ⟨8, 112, [.t (.int .i64 0), .t (.int .i64 0), .t (.int .i64 0), .t (.str ⟨#[]⟩), .nil 1, .nil 5, .t (.bool false), .t (.str ⟨#[]⟩)], .struct [(0, 3), (1, 31), (6, 4), (7, 9)]⟩ := rfl
@[go_sem] theorem t63 : tg tab 63 = ⟨8, 112, [.t (.int .i64 0), .t (.int .i64 0), .t (.int .i64 0), .t (.str ⟨#[]⟩), .nil 1, .nil 5, .t (.bool false), .t (.str ⟨#[]⟩)], .struct [(0, 3), (1, 31), (6, 4), (7, 9)]⟩ := rfl
@[go_sem] theorem f72 : find tab 72 = some ⟨1, 8, [.nilp], .ptr 111⟩ := rfl
@[go_sem] theorem t72 : tg tab 72 = ⟨1, 8, [.nilp], .ptr 111⟩ := rfl
@[go_sem] theorem f75 : find tab 75 = some ⟨1, 8, [.nilp], .ptr 77⟩ := rfl
@[go_sem] theorem t75 : tg tab 75 = ⟨1, 8, [.nilp], .ptr 77⟩ := rfl
@[go_sem] theorem f76 : find tab 76 = some ⟨3, 32, [.t (.str ⟨#[]⟩), .t (.int .i64 0), .t (.bool false)], .struct [(0, 9), (1, 3), (2, 4)]⟩ := rfl
@[go_sem] theorem t76 : tg tab 76 = ⟨3, 32, [.t (.str ⟨#[]⟩), .t (.int .i64 0), .t (.bool false)], .struct [(0, 9), (1, 3), (2, 4)]⟩ := rfl
@[go_sem] theorem f77 : find tab 77 = some ⟨3, 32, [.t (.str ⟨#[]⟩), .t (.int .i64 0), .t (.bool false)], .struct [(0, 9), (1, 3), (2, 4)]⟩ := rfl
@[go_sem] theorem t77 : tg tab 77 = ⟨3, 32, [.t (.str ⟨#[]⟩), .t (.int .i64 0), .t (.bool false)], .struct [(0, 9), (1, 3), (2, 4)]⟩ := rfl
@[go_sem] theorem f81 : find tab 81 = some ⟨1, 8, [.nilp], .ptr 3⟩ := rfl
@[go_sem] theorem t81 : tg tab 81 = ⟨1, 8, [.nilp], .ptr 3⟩ := rfl
@[go_sem] theorem f85 : find tab 85 = some ⟨8, 112, [.t (.int .i64 0), .t (.int .i64 0), .t (.int .i64 0), .t (.str ⟨#[]⟩), .nil 1, .nil 5, .t (.bool false), .t (.str ⟨#[]⟩)], .struct [(0, 3), (1, 25), (6, 4), (7, 9)]⟩ := rfl
@[go_sem] theorem t85 : tg tab 85 = ⟨8, 112, [.t (.int .i64 0), .t (.int .i64 0), .t (.int .i64 0), .t (.str ⟨#[]⟩), .nil 1, .nil 5, .t (.bool false), .t (.str ⟨#[]⟩)], .struct [(0, 3), (1, 25), (6, 4), (7, 9)]⟩ := rfl
@[go_sem] theorem f86 : find tab 86 = some ⟨8, 112, [.t (.int .i64 0), .t (.int .i64 0), .t (.int .i64 0), .t (.str ⟨#[]⟩), .nil 1, .nil 5, .t (.bool false), .t (.str ⟨#[]⟩)], .struct [(0, 3), (1, 25), (6, 4), (7, 9)]⟩ := rfl
@[go_sem] theorem t86 : tg tab 86 = ⟨8, 112, [.t (.int .i64 0), .t (.int .i64 0), .t (.int .i64 0), .t (.str ⟨#[]⟩), .nil 1, .nil 5, .t (.bool false), .t (.str ⟨#[]⟩)], .struct [(0, 3), (1, 25), (6, 4), (7, 9)]⟩ := rfl
@[go_sem] theorem f90 : find tab 90 = some ⟨1, 8, [.t (.int .u64 0)], .int .u64⟩ := rfl
@[go_sem] theorem t90 : tg tab 90 = ⟨1, 8, [.t (.int .u64 0)], .int .u64⟩ := rfl
@[go_sem] theorem f94 : find tab 94 = some ⟨1, 8, [.nilp], .ptr 96⟩ := rfl
@[go_sem] theorem t94 : tg tab 94 = ⟨1, 8, [.nilp], .ptr 96⟩ := rfl
@[go_sem] theorem f95 : find tab 95 = some ⟨2, 32, [.nilp, .nil 1], .struct [(0, 94), (1, 46)]⟩ := rfl
@[go_sem] theorem t95 : tg tab 95 = ⟨2, 32, [.nilp, .nil 1], .struct [(0, 94), (1, 46)]⟩ := rfl
@[go_sem] theorem f96 : find tab 96 = some ⟨2, 32, [.nilp, .nil 1], .struct [(0, 94), (1, 46)]⟩ := rfl
@[go_sem] theorem t96 : tg tab 96 = ⟨2, 32, [.nilp, .nil 1], .struct [(0, 94), (1, 46)]⟩ := rfl
@[go_sem] theorem f110 : find tab 110 = some ⟨3, 40, [.nil 1, .t (.int .i64 0), .t (.int .i64 0)], .struct [(0, 46), (1, 3), (2, 3)]⟩ := rfl
@[go_sem] theorem t110 : tg tab 110 = ⟨3, 40, [.nil 1, .t (.int .i64 0), .t (.int .i64 0)], .struct [(0, 46), (1, 3), (2, 3)]⟩ := rfl
@[go_sem] theorem f111 : find tab 111 = some ⟨3, 40, [.nil 1, .t (.int .i64 0), .t (.int .i64 0)], .struct [(0, 46), (1, 3), (2, 3)]⟩ := rfl
@[go_sem] theorem t111 : tg tab 111 = ⟨3, 40, [.nil 1, .t (.int .i64 0), .t (.int .i64 0)], .struct [(0, 46), (1, 3), (2, 3)]⟩ := rfl
@[go_sem] theorem f118 : find tab 118 = some ⟨1, 4, [.t (.int .u32 0)], .int .u32⟩ := rfl
@[go_sem] theorem t118 : tg tab 118 = ⟨1, 4, [.t (.int .u32 0)], .int .u32⟩ := rfl
@[go_sem] theorem f121 : find tab 121 = some ⟨1, 8, [.t (.int .u64 0)], .int .u64⟩ := rfl
@[go_sem] theorem t121 : tg tab 121 = ⟨1, 8, [.t (.int .u64 0)], .int .u64⟩ := rfl
@[go_sem] theorem f126 : find tab 126 = some ⟨1, 8, [.nilp], .ptr 5⟩ := rfl
@[go_sem] theorem t126 : tg tab 126 = ⟨1, 8, [.nilp], .ptr 5⟩ := rfl
@[go_sem] theorem f148 : find tab 148 = some ⟨256, 256, [.t (.bool false), .t (.bool false), .t (.bool false), .t (.bool false), .t (.bool false), .t (.bool false), .t (.bool false), .t (.bool false), .t (.bool false), .t (.bool false), .t (.bool false), .t (.bool false), .t (.bool false), .t (.bool false), .t (.bool false), .t (.bool false), .t (.bool false), .t (.bool false), .t (.bool false), .t (.bool false), .t (.bool false), .t (.bool false), .t (.bool false), .t (.bool false), .t (.bool false), .t (.bool false), .t (.bool false), .t (.bool false), .t (.bool false), .t (.bool false), .t (.bool false), .t (.bool false), .t (.bool false), .t (.bool false), .t (.bool false), .t (.bool false), .t (.bool false), .t (.bool false), .t (.bool false), .t (.bool false), .t (.bool false), .t (.bool false), .t (.bool false), .t (.bool false), .t (.bool false), .t (.bool false), .t (.bool false), .t (.bool false), .t (.bool false), .t (.bool false), .t (.bool false), .t (.bool false), .t (.bool false), .t (.bool false), .t (.bool false), .t (.bool false), .t (.bool false), .t (.bool false), .t (.bool false), .t (.bool false), .t (.bool false), .t (.bool false), .t (.bool false), .t (.bool false), .t (.bool false), .t (.bool false), .t (.bool false), .t (.bool false), .t (.bool false), .t (.bool false), .t (.bool false), .t (.bool false), .t (.bool false), .t (.bool false), .t (.bool false), .t (.bool false), .t (.bool false), .t (.bool false), .t (.bool false), .t (.bool false), .t (.bool false), .t (.bool false), .t (.bool false), .t (.bool false), .t (.bool false), .t (.bool false), .t (.bool false), .t (.bool false), .t (.bool false), .t (.bool false), .t (.bool false), .t (.bool false), .t (.bool false), .t (.bool false), .t (.bool false), .t (.bool false), .t (.bool false), .t (.bool false), .t (.bool false), .t (.bool false), .t (.bool false), .t (.bool false), .t (.bool false), .t (.bool false), .t (.bool false), .t (.bool false), .t (.bool false), .t (.bool false), .t (.bool false), .t (.bool false), .t (.bool false), .t (.bool false), .t (.bool false), .t (.bool false), .t (.bool false), .t (.bool false), .t (.bool false), .t (.bool false), .t (.bool false), .t (.bool false), .t (.bool false), .t (.bool false), .t (.bool false), .t (.bool false), .t (.bool false), .t (.bool false), .t (.bool false), .t (.bool false), .t (.bool false), .t (.bool false), .t (.bool false), .t (.bool false), .t (.bool false), .t (.bool false), .t (.bool false), .t (.bool false), .t (.bool false), .t (.bool false), .t (.bool false), .t (.bool false), .t (.bool false), .t (.bool false), .t (.bool false), .t (.bool false), .t (.bool false), .t (.bool false), .t (.bool false), .t (.bool false), .t (.bool false), .t (.bool false), .t (.bool false), .t (.bool false), .t (.bool false), .t (.bool false), .t (.bool false), .t (.bool false), .t (.bool false), .t (.bool false), .t (.bool false), .t (.bool false), .t (.bool false), .t (.bool false), .t (.bool false), .t (.bool false), .t (.bool false), .t (.bool false), .t (.bool false), .t (.bool false), .t (.bool false), .t (.bool false), .t (.bool false), .t (.bool false), .t (.bool false), .t (.bool false), .t (.bool false), .t (.bool false), .t (.bool false), .t (.bool false), .t (.bool false), .t (.bool false), .t (.bool false), .t (.bool false), .t (.bool false), .t (.bool false), .t (.bool false), .t (.bool false), .t (.bool false), .t (.bool false), .t (.bool false), .t (.bool false), .t (.bool false), .t (.bool false), .t (.bool false), .t (.bool false), .t (.bool false), .t (.bool false), .t (.bool false), .t (.bool false), .t (.bool false), .t (.bool false), .t (.bool false), .t (.bool false), .t (.bool false), .t (.bool false), .t (.bool false), .t (.bool false), .t (.bool false), .t (.bool false), .t (.bool false), .t (.bool false), .t (.bool false), .t (.bool false), .t (.bool false), .t (.bool false), .t (.bool false), .t (.bool false), .t (.bool false), .t (.bool false), .t (.bool false), .t (.bool false), .t (.bool false), .t (.bool false), .t (.bool false), .t (.bool false), .t (.bool false), .t (.bool false), .t (.bool false), .t (.bool false), .t (.bool false), .t (.bool false), .t (.bool false), .t (.bool false), .t (.bool false), .t (.bool false), .t (.bool false), .t (.bool false), .t (.bool false), .t (.bool false), .t (.bool false), .t (.bool false), .t (.bool false), .t (.bool false), .t (.bool false), .t (.bool false), .t (.bool false), .t (.bool false), .t (.bool false), .t (.bool false), .t (.bool false), .t (.bool false), .t (.bool false), .t (.bool false), .t (.bool false), .t (.bool false), .t (.bool false), .t (.bool false)], .array 256 4⟩ := rfl
@[go_sem] theorem t148 : tg tab 148 = ⟨256, 256, [.t (.bool false), .t (.bool false), .t (.bool false), .t (.bool false), .t (.bool false), .t (.bool false), .t (.bool false), .t (.bool false), .t (.bool false), .t (.bool false), .t (.bool false), .t (.bool false), .t (.bool false), .t (.bool false), .t (.bool false), .t (.bool false), .t (.bool false), .t (.bool false), .t (.bool false), .t (.bool false), .t (.bool false), .t (.bool false), .t (.bool false), .t (.bool false), .t (.bool false), .t (.bool false), .t (.bool false), .t (.bool false), .t (.bool false), .t (.bool false), .t (.bool false), .t (.bool false), .t (.bool false), .t (.bool false), .t (.bool false), .t (.bool false), .t (.bool false), .t (.bool false), .t (.bool false), .t (.bool false), .t (.bool false), .t (.bool false), .t (.bool false), .t (.bool false), .t (.bool false), .t (.bool false), .t (.bool false), .t (.bool false), .t (.bool false), .t (.bool false), .t (.bool false), .t (.bool false), .t (.bool false), .t (.bool false), .t (.bool false), .t (.bool false), .t (.bool false), .t (.bool false), .t (.bool false), .t (.bool false), .t (.bool false), .t (.bool false), .t (.bool false), .t (.bool false), .t (.bool false), .t (.bool false), .t (.bool false), .t (.bool false), .t (.bool false), .t (.bool false), .t (.bool false), .t (.bool false), .t (.bool false), .t (.bool false), .t (.bool false), .t (.bool false), .t (.bool false), .t (.bool false), .t (.bool false), .t (.bool false), .t (.bool false), .t (.bool false), .t (.bool false), .t (.bool false), .t (.bool false), .t (.bool false), .t (.bool false), .t (.bool false), .t (.bool false), .t (.bool false), .t (.bool false), .t (.bool false), .t (.bool false), .t (.bool false), .t (.bool false), .t (.bool false), .t (.bool false), .t (.bool false), .t (.bool false), .t (.bool false), .t (.bool false), .t (.bool false), .t (.bool false), .t (.bool false), .t (.bool false), .t (.bool false), .t (.bool false), .t (.bool false), .t (.bool false), .t (.bool false), .t (.bool false), .t (.bool false), .t (.bool false), .t (.bool false), .t (.bool false), .t (.bool false), .t (.bool false), .t (.bool false), .t (.bool false), .t (.bool false), .t (.bool false), .t (.bool false), .t (.bool false), .t (.bool false), .t (.bool false), .t (.bool false), .t (.bool false), .t (.bool false), .t (.bool false), .t (.bool false), .t (.bool false), .t (.bool false), .t (.bool false), .t (.bool false), .t (.bool false), .t (.bool false), .t (.bool false), .t (.bool false), .t (.bool false), .t (.bool false), .t (.bool false), .t (.bool false), .t (.bool false), .t (.bool false), .t (.bool false), .t (.bool false), .t (.bool false), .t (.bool false), .t (.bool false), .t (.bool false), .t (.bool false), .t (.bool false), .t (.bool false), .t (.bool false), .t (.bool false), .t (.bool false), .t (.bool false), .t (.bool false), .t (.bool false), .t (.bool false), .t (.bool false), .t (.bool false), .t (.bool false), .t (.bool false), .t (.bool false), .t (.bool false), .t (.bool false), .t (.bool false), .t (.bool false), .t (.bool false), .t (.bool false), .t (.bool false), .t (.bool false), .t (.bool false), .t (.bool false), .t (.bool false), .t (.bool false), .t (.bool false), .t (.bool false), .t (.bool false), .t (.bool false), .t (.bool false), .t (.bool false), .t (.bool false), .t (.bool false), .t (.bool false), .t (.bool false), .t (.bool false), .t (.bool false), .t (.bool false), .t (.bool false), .t (.bool false), .t (.bool false), .t (.bool false), .t (.bool false), .t (.bool false), .t (.bool false), .t (.bool false), .t (.bool false), .t (.bool false), .t (.bool false), .t (.bool false), .t (.bool false), .t (.bool false), .t (.bool false), .t (.bool false), .t (.bool false), .t (.bool false), .t (.bool false), .t (.bool false), .t (.bool false), .t (.bool false), .t (.bool false), .t (.bool false), .t (.bool false), .t (.bool false), .t (.bool false), .t (.bool false), .t (.bool false), .t (.bool false), .t (.bool false), .t (.bool false), .t (.bool false), .t (.bool false), .t (.bool false), .t (.bool false), .t (.bool false), .t (.bool false), .t (.bool false), .t (.bool false), .t (.bool false), .t (.bool false), .t (.bool false), .t (.bool false), .t (.bool false), .t (.bool false), .t (.bool false), .t (.bool false), .t (.bool false), .t (.bool false), .t (.bool false), .t (.bool false), .t (.bool false), .t (.bool false), .t (.bool false), .t (.bool false), .t (.bool false), .t (.bool false), .t (.bool false), .t (.bool false), .t (.bool false), .t (.bool false), .t (.bool false), .t (.bool false), .t (.bool false), .t (.bool false)], .array 256 4⟩ := rfl
@[go_sem] theorem f149 : find tab 149 = some ⟨256, 256, [.t (.bool false), .t (.bool false), .t (.bool false), .t (.bool false), .t (.bool false), .t (.bool false), .t (.bool false), .t (.bool false), .t (.bool false), .t (.bool false), .t (.bool false), .t (.bool false), .t (.bool false), .t (.bool false), .t (.bool false), .t (.bool false), .t (.bool false), .t (.bool false), .t (.bool false), .t (.bool false), .t (.bool false), .t (.bool false), .t (.bool false), .t (.bool false), .t (.bool false), .t (.bool false), .t (.bool false), .t (.bool false), .t (.bool false), .t (.bool false), .t (.bool false), .t (.bool false), .t (.bool false), .t (.bool false), .t (.bool false), .t (.bool false), .t (.bool false), .t (.bool false), .t (.bool false), .t (.bool false), .t (.bool false), .t (.bool false), .t (.bool false), .t (.bool false), .t (.bool false), .t (.bool false), .t (.bool false), .t (.bool false), .t (.bool false), .t (.bool false), .t (.bool false), .t (.bool false), .t (.bool false), .t (.bool false), .t (.bool false), .t (.bool false), .t (.bool false), .t (.bool false), .t (.bool false), .t (.bool false), .t (.bool false), .t (.bool false), .t (.bool false), .t (.bool false), .t (.bool false), .t (.bool false), .t (.bool false), .t (.bool false), .t (.bool false), .t (.bool false), .t (.bool false), .t (.bool false), .t (.bool false), .t (.bool false), .t (.bool false), .t (.bool false), .t (.bool false), .t (.bool false), .t (.bool false), .t (.bool false), .t (.bool false), .t (.bool false), .t (.bool false), .t (.bool false), .t (.bool false), .t (.bool false), .t (.bool false), .t (.bool false), .t (.bool false), .t (.bool false), .t (.bool false), .t (.bool false), .t (.bool false), .t (.bool false), .t (.bool false), .t (.bool false), .t (.bool false), .t (.bool false), .t (.bool false), .t (.bool false), .t (.bool false), .t (.bool false), .t (.bool false), .t (.bool false), .t (.bool false), .t (.bool false), .t (.bool false), .t (.bool false), .t (.bool false), .t (.bool false), .t (.bool false), .t (.bool false), .t (.bool false), .t (.bool false), .t (.bool false), .t (.bool false), .t (.bool false), .t (.bool false), .t (.bool false), .t (.bool false), .t (.bool false), .t (.bool false), .t (.bool false), .t (.bool false), .t (.bool false), .t (.bool false), .t (.bool false), .t (.bool false), .t (.bool false), .t (.bool false), .t (.bool false), .t (.bool false), .t (.bool false), .t (.bool false), .t (.bool false), .t (.bool false), .t (.bool false), .t (.bool false), .t (.bool false), .t (.bool false), .t (.bool false), .t (.bool false), .t (.bool false), .t (.bool false), .t (.bool false), .t (.bool false), .t (.bool false), .t (.bool false), .t (.bool false), .t (.bool false), .t (.bool false), .t (.bool false), .t (.bool false), .t (.bool false), .t (.bool false), .t (.bool false), .t (.bool false), .t (.bool false), .t (.bool false), .t (.bool false), .t (.bool false), .t (.bool false), .t (.bool false), .t (.bool false), .t (.bool false), .t (.bool false), .t (.bool false), .t (.bool false), .t (.bool false), .t (.bool false), .t (.bool false), .t (.bool false), .t (.bool false), .t (.bool false), .t (.bool false), .t (.bool false), .t (.bool false), .t (.bool false), .t (.bool false), .t (.bool false), .t (.bool false), .t (.bool false), .t (.bool false), .t (.bool false), .t (.bool false), .t (.bool false), .t (.bool false), .t (.bool false), .t (.bool false), .t (.bool false), .t (.bool false), .t (.bool false), .t (.bool false), .t (.bool false), .t (.bool false), .t (.bool false), .t (.bool false), .t (.bool false), .t (.bool false), .t (.bool false), .t (.bool false), .t (.bool false), .t (.bool false), .t (.bool false), .t (.bool false), .t (.bool false), .t (.bool false), .t (.bool false), .t (.bool false), .t (.bool false), .t (.bool false), .t (.bool false), .t (.bool false), .t (.bool false), .t (.bool false), .t (.bool false), .t (.bool false), .t (.bool false), .t (.bool false), .t (.bool false), .t (.bool false), .t (.bool false), .t (.bool false), .t (.bool false), .t (.bool false), .t (.bool false), .t (.bool false), .t (.bool false), .t (.bool false), .t (.bool false), .t (.bool false), .t (.bool false), .t (.bool false), .t (.bool false), .t (.bool false), .t (.bool false), .t (.bool false), .t (.bool false), .t (.bool false), .t (.bool false), .t (.bool false), .t (.bool false), .t (.bool false), .t (.bool false), .t (.bool false), .t (.bool false), .t (.bool false), .t (.bool false), .t (.bool false), .t (.bool false), .t (.bool false), .t (.bool false), .t (.bool false), .t (.bool false), .t (.bool false), .t (.bool false)], .array 256 4⟩ := rfl
@[go_sem] theorem t149 : tg tab 149 = ⟨256, 256, [.t (.bool false), .t (.bool false), .t (.bool false), .t (.bool false), .t (.bool false), .t (.bool false), .t (.bool false), .t (.bool false), .t (.bool false), .t (.bool false), .t (.bool false), .t (.bool false), .t (.bool false), .t (.bool false), .t (.bool false), .t (.bool false), .t (.bool false), .t (.bool false), .t (.bool false), .t (.bool false), .t (.bool false), .t (.bool false), .t (.bool false), .t (.bool false), .t (.bool false), .t (.bool false), .t (.bool false), .t (.bool false), .t (.bool false), .t (.bool false), .t (.bool false), .t (.bool false), .t (.bool false), .t (.bool false), .t (.bool false), .t (.bool false), .t (.bool false), .t (.bool false), .t (.bool false), .t (.bool false), .t (.bool false), .t (.bool false), .t (.bool false), .t (.bool false), .t (.bool false), .t (.bool false), .t (.bool false), .t (.bool false), .t (.bool false), .t (.bool false), .t (.bool false), .t (.bool false), .t (.bool false), .t (.bool false), .t (.bool false), .t (.bool false), .t (.bool false), .t (.bool false), .t (.bool false), .t (.bool false), .t (.bool false), .t (.bool false), .t (.bool false), .t (.bool false), .t (.bool false), .t (.bool false), .t (.bool false), .t (.bool false), .t (.bool false), .t (.bool false), .t (.bool false), .t (.bool false), .t (.bool false), .t (.bool false), .t (.bool false), .t (.bool false), .t (.bool false), .t (.bool false), .t (.bool false), .t (.bool false), .t (.bool false), .t (.bool false), .t (.bool false), .t (.bool false), .t (.bool false), .t (.bool false), .t (.bool false), .t (.bool false), .t (.bool false), .t (.bool false), .t (.bool false), .t (.bool false), .t (.bool false), .t (.bool false), .t (.bool false), .t (.bool false), .t (.bool false), .t (.bool false), .t (.bool false), .t (.bool false), .t (.bool false), .t (.bool false), .t (.bool false), .t (.bool false), .t (.bool false), .t (.bool false), .t (.bool false), .t (.bool false), .t (.bool false), .t (.bool false), .t (.bool false), .t (.bool false), .t (.bool false), .t (.bool false), .t (.bool false), .t (.bool false), .t (.bool false), .t (.bool false), .t (.bool false), .t (.bool false), .t (.bool false), .t (.bool false), .t (.bool false), .t (.bool false), .t (.bool false), .t (.bool false), .t (.bool false), .t (.bool false), .t (.bool false), .t (.bool false), .t (.bool false), .t (.bool false), .t (.bool false), .t (.bool false), .t (.bool false), .t (.bool false), .t (.bool false), .t (.bool false), .t (.bool false), .t (.bool false), .t (.bool false), .t (.bool false), .t (.bool false), .t (.bool false), .t (.bool false), .t (.bool false), .t (.bool false), .t (.bool false), .t (.bool false), .t (.bool false), .t (.bool false), .t (.bool false), .t (.bool false), .t (.bool false), .t (.bool false), .t (.bool false), .t (.bool false), .t (.bool false), .t (.bool false), .t (.bool false), .t (.bool false), .t (.bool false), .t (.bool false), .t (.bool false), .t (.bool false), .t (.bool false), .t (.bool false), .t (.bool false), .t (.bool false), .t (.bool false), .t (.bool false), .t (.bool false), .t (.bool false), .t (.bool false), .t (.bool false), .t (.bool false), .t (.bool false), .t (.bool false), .t (.bool false), .t (.bool false), .t (.bool false), .t (.bool false), .t (.bool false), .t (.bool false), .t (.bool false), .t (.bool false), .t (.bool false), .t (.bool false), .t (.bool false), .t (.bool false), .t (.bool false), .t (.bool false), .t (.bool false), .t (.bool false), .t (.bool false), .t (.bool false), .t (.bool false), .t (.bool false), .t (.bool false), .t (.bool false), .t (.bool false), .t (.bool false), .t (.bool false), .t (.bool false), .t (.bool false), .t (.bool false), .t (.bool false), .t (.bool false), .t (.bool false), .t (.bool false), .t (.bool false), .t (.bool false), .t (.bool false), .t (.bool false), .t (.bool false), .t (.bool false), .t (.bool false), .t (.bool false), .t (.bool false), .t (.bool false), .t (.bool false), .t (.bool false), .t (.bool false), .t (.bool false), .t (.bool false), .t (.bool false), .t (.bool false), .t (.bool false), .t (.bool false), .t (.bool false), .t (.bool false), .t (.bool false), .t (.bool false), .t (.bool false), .t (.bool false), .t (.bool false), .t (.bool false), .t (.bool false), .t (.bool false), .t (.bool false), .t (.bool false), .t (.bool false), .t (.bool false), .t (.bool false), .t (.bool false), .t (.bool false), .t (.bool false), .t (.bool false), .t (.bool false), .t (.bool false), .t (.bool false), .t (.bool false), .t (.bool false), .t (.bool false), .t (.bool false), .t (.bool false)], .array 256 4⟩ := rfl
@[go_sem] theorem f155 : find tab 155 = some ⟨24, 24, [.t (.int .u8 0), .t (.int .u8 0), .t (.int .u8 0), .t (.int .u8 0), .t (.int .u8 0), .t (.int .u8 0), .t (.int .u8 0), .t (.int .u8 0), .t (.int .u8 0), .t (.int .u8 0), .t (.int .u8 0), .t (.int .u8 0), .t (.int .u8 0), .t (.int .u8 0), .t (.int .u8 0), .t (.int .u8 0), .t (.int .u8 0), .t (.int .u8 0), .t (.int .u8 0), .t (.int .u8 0), .t (.int .u8 0), .t (.int .u8 0), .t (.int .u8 0), .t (.int .u8 0)], .array 24 5⟩ := rfl
@[go_sem] theorem t155 : tg tab 155 = ⟨24, 24, [.t (.int .u8 0), .t (.int .u8 0), .t (.int .u8 0), .t (.int .u8 0), .t (.int .u8 0), .t (.int .u8 0), .t (.int .u8 0), .t (.int .u8 0), .t (.int .u8 0), .t (.int .u8 0), .t (.int .u8 0), .t (.int .u8 0), .t (.int .u8 0), .t (.int .u8 0), .t (.int .u8 0), .t (.int .u8 0), .t (.int .u8 0), .t (.int .u8 0), .t (.int .u8 0), .t (.int .u8 0), .t (.int .u8 0), .t (.int .u8 0), .t (.int .u8 0), .t (.int .u8 0)], .array 24 5⟩ := rfl
@[go_sem] theorem f162 : find tab 162 = some ⟨1, 8, [.nilp], .ptr 149⟩ := rfl
@[go_sem] theorem t162 : tg tab 162 = ⟨1, 8, [.nilp], .ptr 149⟩ := rfl
@[go_sem] theorem f163 : find tab 163 = some ⟨1, 8, [.t (.int .i64 0)], .int .i64⟩ := rfl
@[go_sem] theorem t163 : tg tab 163 = ⟨1, 8, [.t (.int .i64 0)], .int .i64⟩ := rfl
@[go_sem] theorem f165 : find tab 165 = some ⟨1, 8, [.nilp], .ptr 175⟩ := rfl
@[go_sem] theorem t165 : tg tab 165 = ⟨1, 8, [.nilp], .ptr 175⟩ := rfl
@[go_sem] theorem f169 : find tab 169 = some ⟨20, 160, [.t (.int .u64 0), .t (.int .u64 0), .t (.int .u64 0), .t (.int .u64 0), .t (.int .u64 0), .t (.int .u64 0), .t (.int .u64 0), .t (.int .u64 0), .t (.int .u64 0), .t (.int .u64 0), .t (.int .u64 0), .t (.int .u64 0), .t (.int .u64 0), .t (.int .u64 0), .t (.int .u64 0), .t (.int .u64 0), .t (.int .u64 0), .t (.int .u64 0), .t (.int .u64 0), .t (.int .u64 0)], .array 20 121⟩ := rfl
@[go_sem] theorem t169 : tg tab 169 = ⟨20, 160, [.t (.int .u64 0), .t (.int .u64 0), .t (.int .u64 0), .t (.int .u64 0), .t (.int .u64 0), .t (.int .u64 0), .t (.int .u64 0), .t (.int .u64 0), .t (.int .u64 0), .t (.int .u64 0), .t (.int .u64 0), .t (.int .u64 0), .t (.int .u64 0), .t (.int .u64 0), .t (.int .u64 0), .t (.int .u64 0), .t (.int .u64 0), .t (.int .u64 0), .t (.int .u64 0), .t (.int .u64 0)], .array 20 121⟩ := rfl
@[go_sem] theorem f170 : find tab 170 = some ⟨65, 65, [.t (.int .u8 0), .t (.int .u8 0), .t (.int .u8 0), .t (.int .u8 0), .t (.int .u8 0), .t (.int .u8 0), .t (.int .u8 0), .t (.int .u8 0), .t (.int .u8 0), .t (.int .u8 0), .t (.int .u8 0), .t (.int .u8 0), .t (.int .u8 0), .t (.int .u8 0), .t (.int .u8 0), .t (.int .u8 0), .t (.int .u8 0), .t (.int .u8 0), .t (.int .u8 0), .t (.int .u8 0), .t (.int .u8 0), .t (.int .u8 0), .t (.int .u8 0), .t (.int .u8 0), .t (.int .u8 0), .t (.int .u8 0), .t (.int .u8 0), .t (.int .u8 0), .t (.int .u8 0), .t (.int .u8 0), .t (.int .u8 0), .t (.int .u8 0), .t (.int .u8 0), .t (.int .u8 0), .t (.int .u8 0), .t (.int .u8 0), .t (.int .u8 0), .t (.int .u8 0), .t (.int .u8 0), .t (.int .u8 0), .t (.int .u8 0), .t (.int .u8 0), .t (.int .u8 0), .t (.int .u8 0), .t (.int .u8 0), .t (.int .u8 0), .t (.int .u8 0), .t (.int .u8 0), .t (.int .u8 0), .t (.int .u8 0), .t (.int .u8 0), .t (.int .u8 0), .t (.int .u8 0), .t (.int .u8 0), .t (.int .u8 0), .t (.int .u8 0), .t (.int .u8 0), .t (.int .u8 0), .t (.int .u8 0), .t (.int .u8 0), .t (.int .u8 0), .t (.int .u8 0), .t (.int .u8 0), .t (.int .u8 0), .t (.int .u8 0)], .array 65 5⟩ := rfl
@[go_sem] theorem t170 : tg tab 170 = ⟨65, 65, [.t (.int .u8 0), .t (.int .u8 0), .t (.int .u8 0), .t (.int .u8 0), .t (.int .u8 0), .t (.int .u8 0), .t (.int .u8 0), .t (.int .u8 0), .t (.int .u8 0), .t (.int .u8 0), .t (.int .u8 0), .t (.int .u8 0), .t (.int .u8 0), .t (.int .u8 0), .t (.int .u8 0), .t (.int .u8 0), .t (.int .u8 0), .t (.int .u8 0), .t (.int .u8 0), .t (.int .u8 0), .t (.int .u8 0), .t (.int .u8 0), .t (.int .u8 0), .t (.int .u8 0), .t (.int .u8 0), .t (.int .u8 0), .t (.int .u8 0), .t (.int .u8 0), .t (.int .u8 0), .t (.int .u8 0), .t (.int .u8 0), .t (.int .u8 0), .t (.int .u8 0), .t (.int .u8 0), .t (.int .u8 0), .t (.int .u8 0), .t (.int .u8 0), .t (.int .u8 0), .t (.int .u8 0), .t (.int .u8 0), .t (.int .u8 0), .t (.int .u8 0), .t (.int .u8 0), .t (.int .u8 0), .t (.int .u8 0), .t (.int .u8 0), .t (.int .u8 0), .t (.int .u8 0), .t (.int .u8 0), .t (.int .u8 0), .t (.int .u8 0), .t (.int .u8 0), .t (.int .u8 0), .t (.int .u8 0), .t (.int .u8 0), .t (.int .u8 0), .t (.int .u8 0), .t (.int .u8 0), .t (.int .u8 0), .t (.int .u8 0), .t (.int .u8 0), .t (.int .u8 0), .t (.int .u8 0), .t (.int .u8 0), .t (.int .u8 0)], .array 65 5⟩ := rfl
@[go_sem] theorem f178 : find tab 178 = some ⟨1, 8, [.nilp], .ptr 180⟩ := rfl
@[go_sem] theorem t178 : tg tab 178 = ⟨1, 8, [.nilp], .ptr 180⟩ := rfl
@[go_sem] theorem f179 : find tab 179 = some ⟨1, 16, [.t (.str ⟨#[]⟩)], .struct [(0, 9)]⟩ := rfl
@[go_sem] theorem t179 : tg tab 179 = ⟨1, 16, [.t (.str ⟨#[]⟩)], .struct [(0, 9)]⟩ := rfl
@[go_sem] theorem f180 : find tab 180 = some ⟨1, 16, [.t (.str ⟨#[]⟩)], .struct [(0, 9)]⟩ := rfl
@[go_sem] theorem t180 : tg tab 180 = ⟨1, 16, [.t (.str ⟨#[]⟩)], .struct [(0, 9)]⟩ := rfl
@[go_sem] theorem f181 : find tab 181 = some ⟨32, 32, [.t (.int .u8 0), .t (.int .u8 0), .t (.int .u8 0), .t (.int .u8 0), .t (.int .u8 0), .t (.int .u8 0), .t (.int .u8 0), .t (.int .u8 0), .t (.int .u8 0), .t (.int .u8 0), .t (.int .u8 0), .t (.int .u8 0), .t (.int .u8 0), .t (.int .u8 0), .t (.int .u8 0), .t (.int .u8 0), .t (.int .u8 0), .t (.int .u8 0), .t (.int .u8 0), .t (.int .u8 0), .t (.int .u8 0), .t (.int .u8 0), .t (.int .u8 0), .t (.int .u8 0), .t (.int .u8 0), .t (.int .u8 0), .t (.int .u8 0), .t (.int .u8 0), .t (.int .u8 0), .t (.int .u8 0), .t (.int .u8 0), .t (.int .u8 0)], .array 32 5⟩ := rfl
@[go_sem] theorem t181 : tg tab 181 = ⟨32, 32, [.t (.int .u8 0), .t (.int .u8 0), .t (.int .u8 0), .t (.int .u8 0), .t (.int .u8 0), .t (.int .u8 0), .t (.int .u8 0), .t (.int .u8 0), .t (.int .u8 0), .t (.int .u8 0), .t (.int .u8 0), .t (.int .u8 0), .t (.int .u8 0), .t (.int .u8 0), .t (.int .u8 0), .t (.int .u8 0), .t (.int .u8 0), .t (.int .u8 0), .t (.int .u8 0), .t (.int .u8 0), .t (.int .u8 0), .t (.int .u8 0), .t (.int .u8 0), .t (.int .u8 0), .t (.int .u8 0), .t (.int .u8 0), .t (.int .u8 0), .t (.int .u8 0), .t (.int .u8 0), .t (.int .u8 0), .t (.int .u8 0), .t (.int .u8 0)], .array 32 5⟩ := rfl
@[go_sem] theorem f182 : find tab 182 = some ⟨64, 64, [.t (.int .u8 0), .t (.int .u8 0), .t (.int .u8 0), .t (.int .u8 0), .t (.int .u8 0), .t (.int .u8 0), .t (.int .u8 0), .t (.int .u8 0), .t (.int .u8 0), .t (.int .u8 0), .t (.int .u8 0), .t (.int .u8 0), .t (.int .u8 0), .t (.int .u8 0), .t (.int .u8 0), .t (.int .u8 0), .t (.int .u8 0), .t (.int .u8 0), .t (.int .u8 0), .t (.int .u8 0), .t (.int .u8 0), .t (.int .u8 0), .t (.int .u8 0), .t (.int .u8 0), .t (.int .u8 0), .t (.int .u8 0), .t (.int .u8 0), .t (.int .u8 0), .t (.int .u8 0), .t (.int .u8 0), .t (.int .u8 0), .t (.int .u8 0), .t (.int .u8 0), .t (.int .u8 0), .t (.int .u8 0), .t (.int .u8 0), .t (.int .u8 0), .t (.int .u8 0), .t (.int .u8 0), .t (.int .u8 0), .t (.int .u8 0), .t (.int .u8 0), .t (.int .u8 0), .t (.int .u8 0), .t (.int .u8 0), .t (.int .u8 0), .t (.int .u8 0), .t (.int .u8 0), .t (.int .u8 0), .t (.int .u8 0), .t (.int .u8 0), .t (.int .u8 0), .t (.int .u8 0), .t (.int .u8 0), .t (.int .u8 0), .t (.int .u8 0), .t (.int .u8 0), .t (.int .u8 0), .t (.int .u8 0), .t (.int .u8 0), .t (.int .u8 0), .t (.int .u8 0), .t (.int .u8 0), .t (.int .u8 0)], .array 64 5⟩ := rfl
@[go_sem] theorem t182 : tg tab 182 = ⟨64, 64, [.t (.int .u8 0), .t (.int .u8 0), .t (.int .u8 0), .t (.int .u8 0), .t (.int .u8 0), .t (.int .u8 0), .t (.int .u8 0), .t (.int .u8 0), .t (.int .u8 0), .t (.int .u8 0), .t (.int .u8 0), .t (.int .u8 0), .t (.int .u8 0), .t (.int .u8 0), .t (.int .u8 0), .t (.int .u8 0), .t (.int .u8 0), .t (.int .u8 0), .t (.int .u8 0), .t (.int .u8 0), .t (.int .u8 0), .t (.int .u8 0), .t (.int .u8 0), .t (.int .u8 0), .t (.int .u8 0), .t (.int .u8 0), .t (.int .u8 0), .t (.int .u8 0), .t (.int .u8 0), .t (.int .u8 0), .t (.int .u8 0), .t (.int .u8 0), .t (.int .u8 0), .t (.int .u8 0), .t (.int .u8 0), .t (.int .u8 0), .t (.int .u8 0), .t (.int .u8 0), .t (.int .u8 0), .t (.int .u8 0), .t (.int .u8 0), .t (.int .u8 0), .t (.int .u8 0), .t (.int .u8 0), .t (.int .u8 0), .t (.int .u8 0), .t (.int .u8 0), .t (.int .u8 0), .t (.int .u8 0), .t (.int .u8 0), .t (.int .u8 0), .t (.int .u8 0), .t (.int .u8 0), .t (.int .u8 0), .t (.int .u8 0), .t (.int .u8 0), .t (.int .u8 0), .t (.int .u8 0), .t (.int .u8 0), .t (.int .u8 0), .t (.int .u8 0), .t (.int .u8 0), .t (.int .u8 0), .t (.int .u8 0)], .array 64 5⟩ := rfl
@[go_sem] theorem f183 : find tab 183 = some ⟨4, 40, [.nilp, .nilp, .nilp, .t (.str ⟨#[]⟩)], .struct [(0, 17), (1, 17), (2, 17), (3, 9)]⟩ := rfl
@[go_sem] theorem t183 : tg tab 183 = ⟨4, 40, [.nilp, .nilp, .nilp, .t (.str ⟨#[]⟩)], .struct [(0, 17), (1, 17), (2, 17), (3, 9)]⟩ := rfl
@[go_sem] theorem f184 : find tab 184 = some ⟨4, 40, [.nilp, .nilp, .nilp, .t (.str ⟨#[]⟩)], .struct [(0, 17), (1, 17), (2, 17), (3, 9)]⟩ := rfl
@[go_sem] theorem t184 : tg tab 184 = ⟨4, 40, [.nilp, .nilp, .nilp, .t (.str ⟨#[]⟩)], .struct [(0, 17), (1, 17), (2, 17), (3, 9)]⟩ := rfl
@[go_sem] theorem f185 : find tab 185 = some ⟨0, 0, [], .array 0 16⟩ := rfl
@[go_sem] theorem t185 : tg tab 185 = ⟨0, 0, [], .array 0 16⟩ := rfl
@[go_sem] theorem f186 : find tab 186 = some ⟨0, 0, [], .struct [(0, 185)]⟩ := rfl
@[go_sem] theorem t186 : tg tab 186 = ⟨0, 0, [], .struct [(0, 185)]⟩ := rfl
@[go_sem] theorem f187 : find tab 187 = some ⟨0, 0, [], .struct [(0, 185)]⟩ := rfl
@[go_sem] theorem t187 : tg tab 187 = ⟨0, 0, [], .struct [(0, 185)]⟩ := rfl
@[go_sem] theorem f188 : find tab 188 = some ⟨1, 1, [.t (.int .u8 0)], .int .u8⟩ := rfl
@[go_sem] theorem t188 : tg tab 188 = ⟨1, 1, [.t (.int .u8 0)], .int .u8⟩ := rfl
@[go_sem] theorem f189 : find tab 189 = some ⟨1, 1, [.t (.int .u8 0)], .int .u8⟩ := rfl
@[go_sem] theorem t189 : tg tab 189 = ⟨1, 1, [.t (.int .u8 0)], .int .u8⟩ := rfl
@[go_sem] theorem f191 : find tab 191 = some ⟨1, 4, [.t (.int .i32 0)], .int .i32⟩ := rfl
@[go_sem] theorem t191 : tg tab 191 = ⟨1, 4, [.t (.int .i32 0)], .int .i32⟩ := rfl
@[go_sem] theorem f192 : find tab 192 = some ⟨1, 4, [.t (.int .i32 0)], .int .i32⟩ := rfl
@[go_sem] theorem t192 : tg tab 192 = ⟨1, 4, [.t (.int .i32 0)], .int .i32⟩ := rfl
end Go.Proofs.YtbmibaopkfenbaaDoor.M

/- Contracts for ObjOk, part 1: lists of strings (mdO: no results of one's own). No condition. -/
namespace Go.Proofs.YtbmibaopkfenbaaDoor.M
open Go Go.Proofs
set_option maxRecDepth 100000
set_option maxHeartbeats 2000000
@[go_sem] def mdO : Nat → Md := fun _ => ⟨false, []⟩
attribute [go_sem] List.getD_cons_zero Int.toNat_natCast Nat.zero_add
set_option linter.unusedSimpArgs false
theorem wrap64O {n : Int} (h0 : -9223372036854775808 ≤ n) (h1 : n < 9223372036854775808) : IntKind.wrap .i64 n = n := by
  simp only [IntKind.wrap, IntKind.bits, IntKind.signed]; simp; split <;> omega
theorem fill_set {α β : Type} (f : α → β) (z : β) (a : List α) (i : Nat) (x : α) (hx : a[i]? = some x) :
    ((a.take i).map f ++ List.replicate (a.length - i) z).set i (f x) = (a.take (i + 1)).map f ++ List.replicate (a.length - (i + 1)) z := by
  have hi : i < a.length := (List.getElem?_eq_some_iff.1 hx).1
  obtain ⟨k, hk⟩ : ∃ k, a.length - i = k + 1 := ⟨a.length - i - 1, by omega⟩
  have hk2 : a.length - (i + 1) = k := by omega
  rw [hk, hk2, List.set_append_right _ _ (by simp; omega), List.take_add_one, hx]
  have : i - ((a.take i).map f).length = 0 := by simp; omega
  rw [this, List.replicate_succ, List.set_cons_zero]
  simp
theorem fill_get {α β : Type} (f : α → β) (z : β) (a : List α) (i : Nat) (hi : i < a.length) : ((a.take i).map f ++ List.replicate (a.length - i) z)[i]? = some z := by
  rw [List.getElem?_append_right (by simp; omega)]
  rw [List.getElem?_replicate]
  simp; omega
def strs (l : List ByteArray) : T := .list 1 (l.map T.str)
theorem oc55 (a : List ByteArray) (ha : a.length ≤ 1048576) : CS Tryd.prog false 24 [.v (strs a)] [strs a] [] := by
  refine CS_act tab_ok mdO Tryd.func24 rfl rfl Tryd.ntmps24 (rl := [.tmp 2]) rfl (Nat.le_of_ble_eq_true rfl) ?_
  simp only [go_sem, strs, List.length_map]
  refine ⟨by omega, by omega, by omega, by omega, ?_⟩
  refine act_loop_of (md := mdO) tab_ok [0,3,4] [48] 1000 (ι := {i : Nat // i ≤ a.length}) (fun i => ⟨[(0, .a (.c (.t (.list 1 (a.map T.str))))), (3, .a (.c (.own 48 0 0 a.length))), (4, .a (.c (.t (.int .i64 i.1))))], [(48, .arr 1 ((a.take i.1).map T.str ++ List.replicate (a.length - i.1) (.str ⟨#[]⟩)) 0)], 1000, 22⟩) (fun i => a.length - i.1) ⟨0, by omega⟩ (Nat.le_of_ble_eq_true rfl) (by simp only [go_sem]) (by simp only [go_sem]; simp) fun i => ?_
  obtain ⟨i, hi⟩ := i
  simp only [go_sem, List.length_map]
  refine act_split (fun h => ?_) (fun h => ?_) <;> simp only [go_sem] <;> simp only [decide_eq_true_eq, decide_eq_false_iff_not] at h
  · obtain ⟨x, hx⟩ : ∃ x, a[i]? = some x := ⟨_, List.getElem?_eq_getElem (by omega)⟩
    have hg := fill_get T.str (.str ⟨#[]⟩) a i (by omega)
    simp only [go_sem, List.getElem?_map, hx, List.length_map, hg]
    refine ⟨by omega, by omega, by omega, by omega, ?_⟩
    refine nextK_of ⟨i + 1, by omega⟩ (by simp only [go_sem]) ?_ (by dsimp only; omega)
    simp only [go_sem]
    rw [wrap64O (by omega) (by omega), fill_set T.str _ a i x hx]; rfl
  · have : i = a.length := by omega
    subst this
    simp
    exact List.take_of_length_le (by simp)
end Go.Proofs.YtbmibaopkfenbaaDoor.M

/- Contracts for ObjOk, part 2: the size of lists of strings. No condition. -/
namespace Go.Proofs.YtbmibaopkfenbaaDoor.M
open Go Go.Proofs
set_option maxRecDepth 100000
set_option maxHeartbeats 2000000
set_option linter.unusedSimpArgs false
/-- What is left of a measure, or -1. -/
def szF : Int → List Nat → Int
  | left, [] => left
  | left, n :: r => if left - n < 0 then -1 else szF (left - n) r
theorem oc51 (a : List ByteArray) (left : Int) (h0 : 0 ≤ left) (h1 : left ≤ 1048576) (hl : a.length ≤ 9223372036854775807) (hs : ∀ s ∈ a, s.size ≤ 9223372036854775807) :
    CS Tryd.prog false 20 [.v (strs a), .v (.int .i64 left)] [.int .i64 (szF left (a.length :: a.map (·.size)))] [] := by
  refine CS_act tab_ok mdO Tryd.func20 rfl rfl Tryd.ntmps20 (rl := [.tmp 4]) rfl (Nat.le_of_ble_eq_true rfl) ?_
  simp only [go_sem, strs, List.length_map, wrap64O (n := left - a.length) (by omega) (by omega)]
  refine act_split (fun h => ?_) (fun h => ?_) <;> simp only [go_sem] <;> simp only [decide_eq_true_eq, decide_eq_false_iff_not] at h
  · simp [szF, h]
  refine act_loop_of (md := mdO) tab_ok [0,1,5] [] 1000 (ι := {p : Nat × Int // p.1 ≤ a.length ∧ 0 ≤ p.2 ∧ p.2 ≤ 1048576 ∧ szF p.2 ((a.map (·.size)).drop p.1) = szF (left - a.length) (a.map (·.size))})
    (fun p => ⟨[(0, .a (.c (.t (.list 1 (a.map T.str))))), (1, .a (.c (.t (.int .i64 p.1.2)))), (5, .a (.c (.t (.int .i64 p.1.1))))], [], 1000, 28⟩) (fun p => a.length - p.1.1) ⟨(0, left - a.length), by omega, by omega, by omega, rfl⟩ (Nat.le_of_ble_eq_true rfl) (by simp only [go_sem]) (by simp only [go_sem]; rfl) fun p => ?_
  obtain ⟨⟨i, l⟩, hi, hl0, hl1, hz⟩ := p
  simp only [go_sem, List.length_map]
  refine act_split (fun h2 => ?_) (fun h2 => ?_) <;> simp only [go_sem] <;> simp only [decide_eq_true_eq, decide_eq_false_iff_not] at h2
  · obtain ⟨x, hx⟩ : ∃ x, a[i]? = some x := ⟨_, List.getElem?_eq_getElem (by omega)⟩
    have hxs := hs x (List.mem_of_getElem? hx)
    have hd : (a.map (·.size)).drop i = x.size :: (a.map (·.size)).drop (i + 1) := by
      rw [List.drop_eq_getElem_cons (by simp; omega)]
      have : a[i]'(by omega) = x := by
        rw [List.getElem?_eq_getElem (by omega)] at hx; exact Option.some.inj hx
      simp [this]
    rw [hd, szF] at hz
    simp only [go_sem, List.getElem?_map, hx, List.length_map]
    refine ⟨by omega, by omega, ?_⟩
    rw [wrap64O (n := l - x.size) (by omega) (by omega)]
    refine act_split (fun h3 => ?_) (fun h3 => ?_) <;> simp only [go_sem] <;> simp only [decide_eq_true_eq, decide_eq_false_iff_not] at h3
    · rw [if_pos h3] at hz
      simp only [szF, if_neg h, ← hz]
    · rw [if_neg h3] at hz
      refine nextK_of ⟨(i + 1, l - x.size), by omega, by omega, by omega, hz⟩ (by simp only [go_sem]) ?_ (by dsimp only; omega)
      simp only [go_sem]
      rw [wrap64O (by omega) (by omega)]; rfl
  · have : i = a.length := by omega
    subst this
    rw [List.drop_of_length_le (by simp), szF] at hz
    simp only [szF, if_neg h, ← hz]
end Go.Proofs.YtbmibaopkfenbaaDoor.M

/- Contracts for ObjOk, part 3: a list of strings against itself. No condition. -/
namespace Go.Proofs.YtbmibaopkfenbaaDoor.M
open Go Go.Proofs
set_option maxRecDepth 100000
set_option maxHeartbeats 2000000
set_option linter.unusedSimpArgs false
theorem oc59 (a : List ByteArray) (ha : a.length ≤ 1048576) : CS Tryd.prog false 27 [.v (strs a), .v (strs a)] [.bool true] [] := by
  refine CS_act tab_ok mdO Tryd.func27 rfl rfl Tryd.ntmps27 (rl := [.tmp 4]) rfl (Nat.le_of_ble_eq_true rfl) ?_
  simp only [go_sem, strs, List.length_map, bne_self_eq_false]
  refine act_loop_of (md := mdO) tab_ok [0,1,5] [] 1000 (ι := {i : Nat // i ≤ a.length}) (fun i => ⟨[(0, .a (.c (.t (.list 1 (a.map T.str))))), (1, .a (.c (.t (.list 1 (a.map T.str))))), (5, .a (.c (.t (.int .i64 i.1))))], [], 1000, 26⟩) (fun i => a.length - i.1) ⟨0, by omega⟩ (Nat.le_of_ble_eq_true rfl) (by simp only [go_sem]) (by simp only [go_sem]; rfl) fun i => ?_
  obtain ⟨i, hi⟩ := i
  simp only [go_sem, List.length_map]
  refine act_split (fun h => ?_) (fun h => ?_) <;> simp only [go_sem] <;> simp only [decide_eq_true_eq, decide_eq_false_iff_not] at h
  obtain ⟨x, hx⟩ : ∃ x, a[i]? = some x := ⟨_, List.getElem?_eq_getElem (by omega)⟩
  refine act_draw_of tab_ok mix mdO ?_
  simp only [go_sem, List.getElem?_map, hx, List.length_map, beq_self_eq_true]
  refine ⟨by omega, by omega, by omega, by omega, drawOk_of (by kernel_rfl), ?_⟩
  refine nextK_of ⟨i + 1, by omega⟩ (by simp only [go_sem]) ?_ (by dsimp only; omega)
  simp only [go_sem]
  rw [wrap64O (by omega) (by omega)]; rfl
end Go.Proofs.YtbmibaopkfenbaaDoor.M

/- Contracts for ObjOk, part 4: trees, and their copies. No condition. -/
namespace Go.Proofs.YtbmibaopkfenbaaDoor.M
open Go Go.Proofs
set_option maxRecDepth 100000
set_option maxHeartbeats 2000000
set_option linter.unusedSimpArgs false
inductive Ob where
  | mk (kind num : Int) (text : ByteArray) (keys : List ByteArray) (kids : List Ob)
def Ob.t : Ob → T
  | .mk k n s ks kids => .agg [.int .i64 k, .int .i64 n, .str s, strs ks, .list 5 (kids.map Ob.t)]
def obs (l : List Ob) : T := .list 5 (l.map Ob.t)
theorem oc21 (k n : Int) (s : ByteArray) (ks : List ByteArray) (kids : List Ob) (h1 : ks.length ≤ 1048576) (h : CS Tryd.prog false 25 [.v (obs kids)] [obs kids] []) :
    CS Tryd.prog false 8 [.v (Ob.mk k n s ks kids).t] [(Ob.mk k n s ks kids).t] [] := by
  have e : (Ob.mk k n s ks kids).t = .agg [.int .i64 k, .int .i64 n, .str s, strs ks, obs kids] := by rw [Ob.t]; rfl
  rw [e]
  refine CS_act tab_ok mdO Tryd.func8 rfl rfl Tryd.ntmps8 (rl := [.cell 2 31]) rfl (Nat.le_of_ble_eq_true rfl) ?_
  simp only [go_sem, strs, obs]
  refine act_callE (oc55 ks h1) ?_
  simp only [go_sem, strs, obs]
  refine act_callE h ?_
  simp only [go_sem, strs, obs]
end Go.Proofs.YtbmibaopkfenbaaDoor.M

/- Contracts for ObjOk, part 5: copies of lists of trees. No condition. -/
namespace Go.Proofs.YtbmibaopkfenbaaDoor.M
open Go Go.Proofs
set_option maxRecDepth 100000
set_option maxHeartbeats 2000000
set_option linter.unusedSimpArgs false
theorem Ob.t_mk (k n : Int) (s : ByteArray) (ks : List ByteArray) (kids : List Ob) : (Ob.mk k n s ks kids).t = .agg [.int .i64 k, .int .i64 n, .str s, .list 1 (ks.map T.str), .list 5 (kids.map Ob.t)] := by rw [Ob.t]; rfl
abbrev ob0 : T := .agg [.int .i64 0, .int .i64 0, .str ⟨#[]⟩, .list 1 [], .list 5 []]
theorem oc56 (a : List Ob) (ha : a.length ≤ 1048576) (h : ∀ o ∈ a, CS Tryd.prog false 8 [.v o.t] [o.t] []) : CS Tryd.prog false 25 [.v (obs a)] [obs a] [] := by
  refine CS_act tab_ok mdO Tryd.func25 rfl rfl Tryd.ntmps25 (rl := [.tmp 2]) rfl (Nat.le_of_ble_eq_true rfl) ?_
  simp only [go_sem, obs, List.length_map]
  refine ⟨by omega, by omega, by omega, by omega, ?_⟩
  refine act_loop_of (md := mdO) tab_ok [0,3,4] [48] 1000 (ι := {i : Nat // i ≤ a.length}) (fun i => ⟨[(0, .a (.c (.t (.list 5 (a.map Ob.t))))), (3, .a (.c (.own 48 0 0 a.length))), (4, .a (.c (.t (.int .i64 i.1))))], [(48, .arr 5 ((a.take i.1).map Ob.t ++ List.replicate (a.length - i.1) ob0) 0)], 1000, 23⟩) (fun i => a.length - i.1) ⟨0, by omega⟩ (Nat.le_of_ble_eq_true rfl) (by simp only [go_sem]) (by simp only [go_sem]; simp) fun i => ?_
  obtain ⟨i, hi⟩ := i
  simp only [go_sem, List.length_map]
  refine act_split (fun h2 => ?_) (fun h2 => ?_) <;> simp only [go_sem] <;> simp only [decide_eq_true_eq, decide_eq_false_iff_not] at h2
  · obtain ⟨x, hx⟩ : ∃ x, a[i]? = some x := ⟨_, List.getElem?_eq_getElem (by omega)⟩
    have hc := h x (List.mem_of_getElem? hx)
    have hg := fill_get Ob.t ob0 a i (by omega)
    have hf := fill_set Ob.t ob0 a i x hx
    obtain ⟨k, n, s, ks, kids⟩ := x
    rw [Ob.t_mk] at hc hf
    simp only [go_sem, List.getElem?_map, hx, List.length_map, hg, Ob.t_mk]
    refine ⟨by omega, by omega, ?_⟩
    refine act_callE hc ?_
    simp only [go_sem, List.length_append, List.length_map, hg]
    refine ⟨by omega, by omega, ?_⟩
    refine nextK_of ⟨i + 1, by omega⟩ (by simp only [go_sem]) ?_ (by dsimp only; omega)
    simp only [go_sem]
    rw [wrap64O (by omega) (by omega), hf]; rfl
  · have : i = a.length := by omega
    subst this
    simp
    exact List.take_of_length_le (by simp)
end Go.Proofs.YtbmibaopkfenbaaDoor.M

/- Contracts for ObjOk, part 6: copies of trees. No condition. -/
namespace Go.Proofs.YtbmibaopkfenbaaDoor.M
open Go Go.Proofs
set_option linter.unusedSimpArgs false
/-- A tree whose lists are not long. -/
inductive Sm : Ob → Prop where
  | mk (k n : Int) (s : ByteArray) (ks : List ByteArray) (kids : List Ob) (h1 : ks.length ≤ 1048576) (h2 : kids.length ≤ 1048576) (h3 : ∀ o ∈ kids, Sm o) : Sm (.mk k n s ks kids)
theorem oc21' : ∀ o : Ob, Sm o → CS Tryd.prog false 8 [.v o.t] [o.t] []
  | .mk k n s ks kids, h => by
    cases h with
    | mk _ _ _ _ _ h1 h2 h3 => exact oc21 k n s ks kids h1 (oc56 kids h2 fun o ho => oc21' o (h3 o ho))
  decreasing_by
  have := List.sizeOf_lt_of_mem ho
  simp only [Ob.mk.sizeOf_spec]
  omega
end Go.Proofs.YtbmibaopkfenbaaDoor.M

/- Contracts for ObjOk, part 7: a tree against itself. No condition. -/
namespace Go.Proofs.YtbmibaopkfenbaaDoor.M
open Go Go.Proofs
set_option maxRecDepth 100000
set_option maxHeartbeats 2000000
set_option linter.unusedSimpArgs false
theorem oc23 (k n : Int) (s : ByteArray) (ks : List ByteArray) (kids : List Ob) (h1 : ks.length ≤ 1048576) (h : CS Tryd.prog false 28 [.v (obs kids), .v (obs kids)] [.bool true] []) :
    CS Tryd.prog false 10 [.v (Ob.mk k n s ks kids).t, .v (Ob.mk k n s ks kids).t] [.bool true] [] := by
  rw [Ob.t_mk]
  refine CS_act tab_ok mdO Tryd.func10 rfl rfl Tryd.ntmps10 (rl := [.tmp 4]) rfl (Nat.le_of_ble_eq_true rfl) ?_
  simp only [go_sem, bne_self_eq_false, beq_self_eq_true]
  refine act_callE (oc59 ks h1) ?_
  simp only [go_sem]
  refine act_callE h ?_
  simp only [go_sem]
end Go.Proofs.YtbmibaopkfenbaaDoor.M

/- Contracts for ObjOk, part 8: lists of trees against themselves. No condition. -/
namespace Go.Proofs.YtbmibaopkfenbaaDoor.M
open Go Go.Proofs
set_option maxRecDepth 100000
set_option maxHeartbeats 2000000
set_option linter.unusedSimpArgs false
theorem oc60 (a : List Ob) (ha : a.length ≤ 1048576) (hh : ∀ o ∈ a, CS Tryd.prog false 10 [.v o.t, .v o.t] [.bool true] []) : CS Tryd.prog false 28 [.v (obs a), .v (obs a)] [.bool true] [] := by
  refine CS_act tab_ok mdO Tryd.func28 rfl rfl Tryd.ntmps28 (rl := [.tmp 4]) rfl (Nat.le_of_ble_eq_true rfl) ?_
  simp only [go_sem, obs, List.length_map, bne_self_eq_false]
  refine act_loop_of (md := mdO) tab_ok [0,1,5] [] 1000 (ι := {i : Nat // i ≤ a.length}) (fun i => ⟨[(0, .a (.c (.t (.list 5 (a.map Ob.t))))), (1, .a (.c (.t (.list 5 (a.map Ob.t))))), (5, .a (.c (.t (.int .i64 i.1))))], [], 1000, 27⟩) (fun i => a.length - i.1) ⟨0, by omega⟩ (Nat.le_of_ble_eq_true rfl) (by simp only [go_sem]) (by simp only [go_sem]; rfl) fun i => ?_
  obtain ⟨i, hi⟩ := i
  simp only [go_sem, List.length_map]
  refine act_split (fun h => ?_) (fun h => ?_) <;> simp only [go_sem] <;> simp only [decide_eq_true_eq, decide_eq_false_iff_not] at h
  obtain ⟨x, hx⟩ : ∃ x, a[i]? = some x := ⟨_, List.getElem?_eq_getElem (by omega)⟩
  have hc := hh x (List.mem_of_getElem? hx)
  obtain ⟨k, n, s, ks, kids⟩ := x
  rw [Ob.t_mk] at hc
  refine act_draw_of tab_ok mix mdO ?_
  simp only [go_sem, List.getElem?_map, hx, List.length_map, Ob.t_mk]
  refine ⟨by omega, by omega, by omega, by omega, ?_⟩
  refine act_callE hc ?_
  simp only [go_sem]
  refine ⟨drawOk_of (by kernel_rfl), ?_⟩
  refine nextK_of ⟨i + 1, by omega⟩ (by simp only [go_sem]) ?_ (by dsimp only; omega)
  simp only [go_sem]
  rw [wrap64O (by omega) (by omega)]; rfl
theorem oc23' : ∀ o : Ob, Sm o → CS Tryd.prog false 10 [.v o.t, .v o.t] [.bool true] []
  | .mk k n s ks kids, h => by
    cases h with
    | mk _ _ _ _ _ h1 h2 h3 => exact oc23 k n s ks kids h1 (oc60 kids h2 fun o ho => oc23' o (h3 o ho))
  decreasing_by
  have := List.sizeOf_lt_of_mem ho
  simp only [Ob.mk.sizeOf_spec]
  omega
end Go.Proofs.YtbmibaopkfenbaaDoor.M

/- Contracts for ObjOk, part 9: the size of trees. No condition. -/
namespace Go.Proofs.YtbmibaopkfenbaaDoor.M
open Go Go.Proofs
set_option maxRecDepth 100000
set_option maxHeartbeats 2000000
set_option linter.unusedSimpArgs false
mutual
def szO : Ob → Int → Int
  | .mk _ _ s ks kids, left => if left - s.size < 0 then -1 else if szF (left - s.size) (ks.length :: ks.map (·.size)) < 0 then -1 else
    if szF (left - s.size) (ks.length :: ks.map (·.size)) - kids.length < 0 then -1 else szL kids (szF (left - s.size) (ks.length :: ks.map (·.size)) - kids.length)
def szL : List Ob → Int → Int
  | [], left => left
  | o :: r, left => if szO o left < 0 then -1 else szL r (szO o left)
end
theorem szF_le : ∀ (l : List Nat) (left : Int), 0 ≤ left → szF left l ≤ left
  | [], left, _ => by simp [szF]
  | n :: r, left, h => by
    rw [szF]
    split
    · omega
    · have := szF_le r (left - n) (by omega); omega
def szS (l : List Ob) (left : Int) : Int := if left - l.length < 0 then -1 else szL l (left - l.length)
theorem szO_mk (k n : Int) (s : ByteArray) (ks : List ByteArray) (kids : List Ob) (left : Int) : szO (.mk k n s ks kids) left = if left - s.size < 0 then -1 else if szF (left - s.size) (ks.length :: ks.map (·.size)) < 0 then -1 else szS kids (szF (left - s.size) (ks.length :: ks.map (·.size))) := by rw [szO, szS]
theorem szL_neg : ∀ (l : List Ob) (left : Int), 0 ≤ left → szL l left = -1 ∨ 0 ≤ szL l left
  | [], left, h => by rw [szL]; exact .inr h
  | o :: r, left, h => by
    rw [szL]
    split
    · exact .inl rfl
    · exact szL_neg r _ (by omega)
theorem szS_neg (l : List Ob) (left : Int) (h : szS l left < 0) : szS l left = -1 := by
  unfold szS at h ⊢
  split
  · rfl
  · rename_i h2
    rw [if_neg h2] at h
    rcases szL_neg l (left - l.length) (by omega) with h3 | h3
    · exact h3
    · omega
theorem oc19 (k n : Int) (s : ByteArray) (ks : List ByteArray) (kids : List Ob) (left : Int) (h0 : 0 ≤ left) (h1 : left ≤ 1048576) (hs : s.size ≤ 9223372036854775807) (hl : ks.length ≤ 9223372036854775807) (hk : ∀ s ∈ ks, s.size ≤ 9223372036854775807)
    (h : ∀ l : Int, 0 ≤ l → l ≤ 1048576 → CS Tryd.prog false 21 [.v (obs kids), .v (.int .i64 l)] [.int .i64 (szS kids l)] []) :
    CS Tryd.prog false 6 [.v (Ob.mk k n s ks kids).t, .v (.int .i64 left)] [.int .i64 (szO (.mk k n s ks kids) left)] [] := by
  rw [Ob.t_mk, szO_mk]
  refine CS_act tab_ok mdO Tryd.func6 rfl rfl Tryd.ntmps6 (rl := [.tmp 4]) rfl (Nat.le_of_ble_eq_true rfl) ?_
  simp only [go_sem, wrap64O (n := left - s.size) (by omega) (by omega)]
  refine act_split (fun h2 => ?_) (fun h2 => ?_) <;> simp only [go_sem] <;> simp only [decide_eq_true_eq, decide_eq_false_iff_not] at h2
  · rw [if_pos h2]
  rw [if_neg h2]
  have hle := szF_le (ks.length :: ks.map (·.size)) (left - s.size) (by omega)
  refine act_callE (oc51 ks _ (by omega) (by omega) hl hk) ?_
  simp only [go_sem]
  refine act_split (fun h3 => ?_) (fun h3 => ?_) <;> simp only [go_sem] <;> simp only [decide_eq_true_eq, decide_eq_false_iff_not] at h3
  · rw [if_pos h3]
  rw [if_neg h3]
  refine act_callE (h _ (by omega) (by omega)) ?_
  simp only [go_sem]
  refine act_split (fun h4 => ?_) (fun h4 => ?_) <;> simp only [go_sem] <;> simp only [decide_eq_true_eq, decide_eq_false_iff_not] at h4
  rw [szS_neg _ _ h4]
end Go.Proofs.YtbmibaopkfenbaaDoor.M

/- Contracts for ObjOk, part 10: the size of lists of trees. No condition. -/
namespace Go.Proofs.YtbmibaopkfenbaaDoor.M
open Go Go.Proofs
set_option maxRecDepth 100000
set_option maxHeartbeats 2000000
set_option linter.unusedSimpArgs false
theorem szO_le : ∀ (l : List Ob) (left : Int), 0 ≤ left → (∀ o ∈ l, ∀ x : Int, 0 ≤ x → szO o x ≤ x) → szL l left ≤ left
  | [], left, h, _ => by rw [szL]; omega
  | o :: r, left, h, ho => by
    rw [szL]
    split
    · omega
    · have h1 := ho o (by simp) left h
      have := szO_le r (szO o left) (by omega) fun o' h' => ho o' (by simp [h'])
      omega
theorem oc52 (a : List Ob) (left : Int) (h0 : 0 ≤ left) (h1 : left ≤ 1048576) (hl : a.length ≤ 9223372036854775807) (hle : ∀ o ∈ a, ∀ x : Int, 0 ≤ x → szO o x ≤ x)
    (hh : ∀ o ∈ a, ∀ x : Int, 0 ≤ x → x ≤ 1048576 → CS Tryd.prog false 6 [.v o.t, .v (.int .i64 x)] [.int .i64 (szO o x)] []) :
    CS Tryd.prog false 21 [.v (obs a), .v (.int .i64 left)] [.int .i64 (szS a left)] [] := by
  refine CS_act tab_ok mdO Tryd.func21 rfl rfl Tryd.ntmps21 (rl := [.tmp 4]) rfl (Nat.le_of_ble_eq_true rfl) ?_
  simp only [go_sem, obs, List.length_map, wrap64O (n := left - a.length) (by omega) (by omega)]
  refine act_split (fun h => ?_) (fun h => ?_) <;> simp only [go_sem] <;> simp only [decide_eq_true_eq, decide_eq_false_iff_not] at h
  · simp [szS, h]
  refine act_loop_of (md := mdO) tab_ok [0,1,5] [] 1000 (ι := {p : Nat × Int // p.1 ≤ a.length ∧ 0 ≤ p.2 ∧ p.2 ≤ 1048576 ∧ szL (a.drop p.1) p.2 = szS a left})
    (fun p => ⟨[(0, .a (.c (.t (.list 5 (a.map Ob.t))))), (1, .a (.c (.t (.int .i64 p.1.2)))), (5, .a (.c (.t (.int .i64 p.1.1))))], [], 1000, 27⟩) (fun p => a.length - p.1.1) ⟨(0, left - a.length), by omega, by omega, by omega, by simp [szS, h]⟩ (Nat.le_of_ble_eq_true rfl) (by simp only [go_sem]) (by simp only [go_sem]; rfl) fun p => ?_
  obtain ⟨⟨i, l⟩, hi, hl0, hl1, hz⟩ := p
  simp only [go_sem, List.length_map]
  refine act_split (fun h2 => ?_) (fun h2 => ?_) <;> simp only [go_sem] <;> simp only [decide_eq_true_eq, decide_eq_false_iff_not] at h2
  · obtain ⟨x, hx⟩ : ∃ x, a[i]? = some x := ⟨_, List.getElem?_eq_getElem (by omega)⟩
    have hc := hh x (List.mem_of_getElem? hx) l hl0 hl1
    have hxl := hle x (List.mem_of_getElem? hx) l hl0
    have hd : a.drop i = x :: a.drop (i + 1) := by
      rw [List.drop_eq_getElem_cons (by omega)]
      rw [List.getElem?_eq_getElem (by omega)] at hx; rw [Option.some.inj hx]
    dsimp only at hz
    rw [hd, szL] at hz
    generalize szO x l = y at hc hxl hz
    obtain ⟨k, n, s, ks, kids⟩ := x
    rw [Ob.t_mk] at hc
    simp only [go_sem, List.getElem?_map, hx, List.length_map, Ob.t_mk]
    refine ⟨by omega, by omega, ?_⟩
    refine act_callE hc ?_
    simp only [go_sem]
    refine act_split (fun h3 => ?_) (fun h3 => ?_) <;> simp only [go_sem] <;> simp only [decide_eq_true_eq, decide_eq_false_iff_not] at h3
    · rw [if_pos h3] at hz
      rw [← hz]
    · rw [if_neg h3] at hz
      refine nextK_of ⟨(i + 1, y), by omega, by omega, by omega, hz⟩ (by simp only [go_sem]) ?_ (by dsimp only; omega)
      simp only [go_sem]
      rw [wrap64O (by omega) (by omega)]; rfl
  · have : i = a.length := by omega
    subst this
    dsimp only at hz
    rw [List.drop_length, szL] at hz
    rw [← hz]
end Go.Proofs.YtbmibaopkfenbaaDoor.M

/- Contracts: WordOk and what it calls (results as views). No condition. -/
namespace Go.Proofs.YtbmibaopkfenbaaDoor.M
open Go Go.Proofs
set_option maxRecDepth 100000
set_option maxHeartbeats 2000000
set_option linter.unusedSimpArgs false
attribute [go_sem] beq_false
theorem act_split_notO {c : Bool} {A B : Prop} {a : Shut A} {b : Shut B} (h1 : c = false → act A) (h2 : c = true → act B) : act (brK (!c) A B a b) :=
  ⟨fun h => h1 (by simpa using h), fun h => h2 (by simpa using h)⟩
def inBO (x l m : Int) : Bool := decide (x ≥ l) && decide (x ≤ m)
theorem oc44 (x l m : Int) : CS Tryd.prog false 51 [.v (.int .i64 x), .v (.int .i64 l), .v (.int .i64 m)] [.bool (inBO x l m)] [] := by
  refine CS_act tab_ok mdO Tryd.func51 rfl rfl Tryd.ntmps51 (rl := [.tmp 6]) rfl (Nat.le_of_ble_eq_true rfl) ?_
  simp only [go_sem]
  refine act_split (fun h => ?_) (fun h => ?_) <;> simp only [go_sem, h, inBO]
theorem oc45 (x l m : Int) : CS Tryd.prog false 44 [.v (.int .i64 x), .v (.int .i64 l), .v (.int .i64 m)] [.bool (inBO x l m)] [] := by
  refine CS_act tab_ok mdO Tryd.func44 rfl rfl Tryd.ntmps44 (rl := [.tmp 6]) rfl (Nat.le_of_ble_eq_true rfl) ?_
  simp only [go_sem]
  refine act_split (fun h => ?_) (fun h => ?_) <;> simp only [go_sem, h, inBO]
  all_goals simp_all [inBO]
def markB (x : Int) : Bool := x == 40 || x == 41 || x == 60 || x == 62 || x == 91 || x == 93 || x == 123 || x == 125 || x == 47 || x == 37
theorem oc90 (x : Int) : CS Tryd.prog false 124 [.v (.int .u8 x)] [.bool (markB x)] [] := by
  refine CS_act tab_ok mdO Tryd.func124 rfl rfl Tryd.ntmps124 (rl := [.tmp 2]) rfl (Nat.le_of_ble_eq_true rfl) ?_
  simp only [go_sem]
  repeat' (first | (refine act_split_notO (fun h => ?_) (fun h => ?_) <;> simp only [go_sem, h]) | (refine act_split (fun h => ?_) (fun h => ?_) <;> simp only [go_sem, h]))
  all_goals simp_all [markB]
theorem oc116 (s : ByteArray) (c : Int) : CS Tryd.prog false 129 [.v (.str s), .v (.int .u8 c)] [.int .i64 (Lib.indexByte s.data.toList c.toNat.toUInt8)] [] :=
  CS_indexByteString Tryd.func129 (by kernel_rfl) (by kernel_rfl) (by kernel_rfl) (by kernel_rfl) s c
theorem oc110 (s : ByteArray) (c : Int) : CS Tryd.prog false 112 [.v (.str s), .v (.int .u8 c)] [.int .i64 (Lib.indexByte s.data.toList c.toNat.toUInt8)] [] := by
  refine CS_act tab_ok mdO Tryd.func112 rfl rfl Tryd.ntmps112 (rl := [.tmp 4]) rfl (Nat.le_of_ble_eq_true rfl) ?_
  simp only [go_sem]
  refine act_callE (oc116 _ _) ?_
  simp only [go_sem]
theorem oc91 (s : ByteArray) (c : Int) : CS Tryd.prog false 93 [.v (.str s), .v (.int .u8 c)] [.int .i64 (Lib.indexByte s.data.toList c.toNat.toUInt8)] [] := by
  refine CS_act tab_ok mdO Tryd.func93 rfl rfl Tryd.ntmps93 (rl := [.tmp 4]) rfl (Nat.le_of_ble_eq_true rfl) ?_
  simp only [go_sem]
  refine act_callE (oc110 _ _) ?_
  simp only [go_sem]
def plainB (x : Int) : Bool := inBO x 33 126 && !markB x
theorem oc49 (x : Int) : CS Tryd.prog false 103 [.v (.int .u8 x)] [.bool (plainB x)] [] := by
  refine CS_act tab_ok mdO Tryd.func103 rfl rfl Tryd.ntmps103 (rl := [.tmp 2]) rfl (Nat.le_of_ble_eq_true rfl) ?_
  simp only [go_sem]
  refine act_split (fun h => ?_) (fun h => ?_) <;> simp only [go_sem, h]
  · refine act_split (fun h2 => ?_) (fun h2 => ?_) <;> simp only [go_sem, h2]
    · refine act_callE (oc90 _) ?_
      simp only [go_sem]
      simp_all [plainB, inBO]
    · simp_all [plainB, inBO]; intros; omega
  · simp_all [plainB, inBO]; intros; omega
theorem mark_eq (x : Int) (h0 : 0 ≤ x) (h1 : x < 256) : decide (Lib.indexByte [40, 41, 60, 62, 91, 93, 123, 125, 47, 37] x.toNat.toUInt8 < 0) = !markB x := by
  obtain ⟨n, rfl⟩ : ∃ n : Nat, x = n := ⟨x.toNat, by omega⟩
  have hn : n < 256 := by omega
  have key : ∀ m : Fin 256, decide (Lib.indexByte [40, 41, 60, 62, 91, 93, 123, 125, 47, 37] (m.val : Int).toNat.toUInt8 < 0) = !markB (m.val : Int) := by decide +kernel
  exact key ⟨n, hn⟩
theorem oc50 (x : Int) (h0 : 0 ≤ x) (h1 : x < 256) : CS Tryd.prog false 70 [.v (.int .u8 x)] [.bool (plainB x)] [] := by
  refine CS_act tab_ok mdO Tryd.func70 rfl rfl Tryd.ntmps70 (rl := [.tmp 2]) rfl (Nat.le_of_ble_eq_true rfl) ?_
  simp only [go_sem, wrap64O (n := x) (by omega) (by omega)]
  refine act_callE (oc45 _ _ _) ?_
  simp only [go_sem]
  refine act_split (fun h => ?_) (fun h => ?_) <;> simp only [go_sem, h]
  · refine act_callE (oc91 _ _) ?_
    simp only [go_sem]
    have := mark_eq x h0 h1
    simp_all [plainB]
  · simp_all [plainB]
attribute [go_sem] Bool.not_not
def bt (s : ByteArray) (j : Nat) : Int := ((s.data.getD j 0).toNat : Int)
theorem bt_lt (s : ByteArray) (j : Nat) : 0 ≤ bt s j ∧ bt s j < 256 := by
  unfold bt; have := (s.data.getD j 0).toNat_lt; omega
def okB (x : Int) : Bool := plainB x && !(x == 35)
def wordB (s : ByteArray) : Bool := inBO s.size 1 40 && (List.range s.size).all fun j => okB (bt s j)
theorem wordB_no {s : ByteArray} {i : Nat} (hi : i < s.size) (h : okB (bt s i) = false) : wordB s = false := by
  unfold wordB
  rw [Bool.and_eq_false_iff]
  right
  rw [List.all_eq_false]
  exact ⟨i, List.mem_range.2 hi, by simp [h]⟩
theorem wordB_yes {s : ByteArray} (h : ∀ j, j < s.size → okB (bt s j) = true) : wordB s = inBO s.size 1 40 := by
  unfold wordB
  rw [List.all_eq_true.2 fun j hj => h j (List.mem_range.1 hj), Bool.and_true]
theorem wordB_long {s : ByteArray} (h : 40 < s.size) : wordB s = inBO s.size 1 40 := by
  have : inBO s.size 1 40 = false := by simp [inBO]; omega
  unfold wordB
  rw [this, Bool.false_and]
theorem oc18 (s : ByteArray) (hs : s.size ≤ 1048576) : CS Tryd.prog false 101 [.v (.str s)] [.bool (wordB s)] [] := by
  refine CS_act tab_ok mdO Tryd.func101 rfl rfl Tryd.ntmps101 (rl := [.tmp 2]) rfl (Nat.le_of_ble_eq_true rfl) ?_
  simp only [go_sem]
  refine act_loop_of (md := mdO) tab_ok [0,5,6] [] 1000 (ι := {i : Nat // i ≤ s.size ∧ ∀ j, j < i → okB (bt s j) = true}) (fun i => ⟨[(0, .a (.c (.t (.str s)))), (5, .a (.c (.t (.int .i64 s.size)))), (6, .a (.c (.t (.int .i64 i.1))))], [], 1000, 24⟩) (fun i => s.size - i.1) ⟨0, by omega, by simp⟩ (Nat.le_of_ble_eq_true rfl) (by simp only [go_sem]) (by simp only [go_sem]; rfl) fun i => ?_
  obtain ⟨i, hi, ht⟩ := i
  have hb := bt_lt s i
  simp only [go_sem]
  refine act_split (fun h => ?_) (fun h => ?_) <;> simp only [go_sem] <;> simp only [decide_eq_true_eq, decide_eq_false_iff_not] at h
  · refine ⟨by omega, by omega, ?_⟩
    have e : ((s.data.getD i 0).toNat : Int) = bt s i := rfl
    simp only [e]
    refine act_callE (oc50 _ hb.1 hb.2) ?_
    simp only [go_sem, e]
    refine act_split (fun h2 => ?_) (fun h2 => ?_) <;> simp only [go_sem, h2, e]
    · refine ⟨by omega, by omega, ?_⟩
      refine act_split (fun h3 => ?_) (fun h3 => ?_) <;> simp only [go_sem]
      · rw [wordB_no (i := i) (by omega) (by simp [okB, h3])]
      · refine nextK_of ⟨i + 1, by omega, fun j hj => ?_⟩ (by simp only [go_sem]) ?_ (by dsimp only; omega)
        · rcases Nat.lt_succ_iff_lt_or_eq.1 hj with hj | rfl
          · exact ht j hj
          · simp [okB, h2, h3]
        · simp only [go_sem]
          rw [wrap64O (by omega) (by omega)]; rfl
    · rw [wordB_no (i := i) (by omega) (by simp [okB, h2])]
  · refine act_callE (oc45 _ _ _) ?_
    simp only [go_sem]
    rw [wordB_yes fun j hj => ht j (by omega)]
theorem oc17 (s : ByteArray) (hs : s.size ≤ 1048576) : CS Tryd.prog false 79 [.v (.str s)] [.bool (wordB s)] [] := by
  refine CS_act tab_ok mdO Tryd.func79 rfl rfl Tryd.ntmps79 (rl := [.tmp 2]) rfl (Nat.le_of_ble_eq_true rfl) ?_
  simp only [go_sem]
  refine act_loop_of (md := mdO) tab_ok [0,3] [] 1000 (ι := {i : Nat // i ≤ s.size ∧ ∀ j, j < i → okB (bt s j) = true}) (fun i => ⟨[(0, .a (.c (.t (.str s)))), (3, .a (.c (.t (.int .i64 i.1))))], [], 1000, 29⟩) (fun i => s.size - i.1) ⟨0, by omega, by simp⟩ (Nat.le_of_ble_eq_true rfl) (by simp only [go_sem]) (by simp only [go_sem]; rfl) fun i => ?_
  obtain ⟨i, hi, ht⟩ := i
  have hb := bt_lt s i
  have e : ((s.data.getD i 0).toNat : Int) = bt s i := rfl
  simp only [go_sem]
  refine act_split (fun h => ?_) (fun h => ?_) <;> simp only [go_sem, h] <;> simp only [decide_eq_true_eq, decide_eq_false_iff_not] at h
  · refine act_split (fun h1 => ?_) (fun h1 => ?_) <;> simp only [go_sem, h1] <;> simp only [decide_eq_true_eq, decide_eq_false_iff_not] at h1
    · refine ⟨by omega, by omega, ?_⟩
      simp only [e]
      refine act_callE (oc49 _) ?_
      simp only [go_sem, e]
      refine act_split (fun h2 => ?_) (fun h2 => ?_) <;> simp only [go_sem, h2, e]
      · refine ⟨by omega, by omega, ?_⟩
        refine act_split (fun h3 => ?_) (fun h3 => ?_) <;> simp only [go_sem]
        · rw [wordB_no (i := i) (by omega) (by simp [okB, h3])]
        · refine nextK_of ⟨i + 1, by omega, fun j hj => ?_⟩ (by simp only [go_sem]) ?_ (by dsimp only; omega)
          · rcases Nat.lt_succ_iff_lt_or_eq.1 hj with hj | rfl
            · exact ht j hj
            · simp [okB, h2, h3]
          · simp only [go_sem]
            rw [wrap64O (by omega) (by omega)]; rfl
      · rw [wordB_no (i := i) (by omega) (by simp [okB, h2])]
    · refine act_callE (oc44 _ _ _) ?_
      simp only [go_sem]
      rw [wordB_long (by omega)]
  · refine act_callE (oc44 _ _ _) ?_
    simp only [go_sem]
    rw [wordB_yes fun j hj => ht j (by omega)]
end Go.Proofs.YtbmibaopkfenbaaDoor.M

/- Contracts for ObjOk: the size of trees, tied. No condition. -/
namespace Go.Proofs.YtbmibaopkfenbaaDoor.M
open Go Go.Proofs
set_option linter.unusedSimpArgs false
/-- A tree whose lists and strings are not wider than any machine's. -/
inductive Wd : Ob → Prop where
  | mk (k n : Int) (s : ByteArray) (ks : List ByteArray) (kids : List Ob) (h0 : s.size ≤ 9223372036854775807) (h1 : ks.length ≤ 9223372036854775807) (h2 : ∀ s ∈ ks, s.size ≤ 9223372036854775807)
      (h3 : kids.length ≤ 9223372036854775807) (h4 : ∀ o ∈ kids, Wd o) : Wd (.mk k n s ks kids)
theorem szO_le' : ∀ (o : Ob) (x : Int), 0 ≤ x → szO o x ≤ x
  | .mk k n s ks kids, x, h => by
    rw [szO_mk]
    split
    · omega
    · have h1 := szF_le (ks.length :: ks.map (·.size)) (x - s.size) (by omega)
      split
      · omega
      · rw [szS]
        split
        · omega
        · have := szO_le kids (szF (x - s.size) (ks.length :: ks.map (·.size)) - kids.length) (by omega) fun o ho => szO_le' o
          omega
  decreasing_by
  have := List.sizeOf_lt_of_mem ho
  simp only [Ob.mk.sizeOf_spec]
  omega
theorem oc19' (o : Ob) (h : Wd o) : ∀ left : Int, 0 ≤ left → left ≤ 1048576 → CS Tryd.prog false 6 [.v o.t, .v (.int .i64 left)] [.int .i64 (szO o left)] [] := by
  match o, h with
  | .mk k n s ks kids, h =>
    have hk : s.size ≤ 9223372036854775807 ∧ ks.length ≤ 9223372036854775807 ∧ (∀ s ∈ ks, s.size ≤ 9223372036854775807) ∧ kids.length ≤ 9223372036854775807 ∧ ∀ o ∈ kids, Wd o := by
      cases h; exact ⟨by assumption, by assumption, by assumption, by assumption, by assumption⟩
    have hr : ∀ o ∈ kids, ∀ left : Int, 0 ≤ left → left ≤ 1048576 → CS Tryd.prog false 6 [.v o.t, .v (.int .i64 left)] [.int .i64 (szO o left)] [] := fun o ho => oc19' o (hk.2.2.2.2 o ho)
    exact fun left h0 h1 => oc19 k n s ks kids left h0 h1 hk.1 hk.2.1 hk.2.2.1 fun l hl0 hl1 => oc52 kids l hl0 hl1 hk.2.2.2.1 (fun o _ => szO_le' o) hr
termination_by o
decreasing_by
  have := List.sizeOf_lt_of_mem ho
  simp only [Ob.mk.sizeOf_spec]
  omega
/-- A tree that is measured is small. -/
inductive Tn : Ob → Prop where
  | mk (k n : Int) (s : ByteArray) (ks : List ByteArray) (kids : List Ob) (h0 : s.size ≤ 1048576) (h1 : ks.length ≤ 1048576) (hk : ∀ s ∈ ks, s.size ≤ 1048576) (h2 : kids.length ≤ 1048576) (h3 : ∀ o ∈ kids, Tn o) : Tn (.mk k n s ks kids)
theorem Tn.sm : ∀ {o : Ob}, Tn o → Sm o
  | .mk _ _ _ _ kids, h => by
    cases h with
    | mk _ _ _ _ _ h0 h1 hk h2 h3 => exact .mk _ _ _ _ _ h1 h2 fun o ho => Tn.sm (h3 o ho)
  decreasing_by
  have := List.sizeOf_lt_of_mem ho
  simp only [Ob.mk.sizeOf_spec]
  omega
theorem szF_pos : ∀ (l : List Nat) (x : Int), x ≤ 1048576 → 0 ≤ szF x l → ∀ n ∈ l, n ≤ 1048576
  | [], _, _, _ => by simp
  | m :: r, x, hx, h => by
    rw [szF] at h
    split at h
    · omega
    · intro n hn
      rcases List.mem_cons.1 hn with rfl | hn
      · omega
      · exact szF_pos r _ (by omega) h n hn
theorem szL_pos : ∀ (l : List Ob) (x : Int), x ≤ 1048576 → 0 ≤ szL l x → ∀ o ∈ l, ∃ y : Int, y ≤ 1048576 ∧ 0 ≤ szO o y
  | [], _, _, _ => by simp
  | m :: r, x, hx, h => by
    rw [szL] at h
    split at h
    · omega
    · intro o ho
      rcases List.mem_cons.1 ho with rfl | ho
      · exact ⟨x, hx, by omega⟩
      · refine szL_pos r _ ?_ h o ho
        by_cases h0 : 0 ≤ x
        · have := szO_le' m x h0; omega
        · have : szO m x < 0 := by
            cases m with | mk k n s ks kids => rw [szO_mk, if_pos (by omega)]; omega
          omega
theorem tn_of_sz : ∀ (o : Ob) (x : Int), x ≤ 1048576 → 0 ≤ szO o x → Tn o
  | .mk k n s ks kids, x, hx, h => by
    rw [szO_mk] at h
    split at h
    · omega
    split at h
    · omega
    rename_i h1 h2
    have h3 := szF_le (ks.length :: ks.map (·.size)) (x - s.size) (by omega)
    have h4 := szF_pos _ _ (by omega) (Int.not_lt.1 h2)
    rw [szS] at h
    split at h
    · omega
    refine .mk _ _ _ _ _ (by omega) (h4 _ (by simp)) (fun t ht => h4 _ (by simp; exact .inr ⟨t, ht, rfl⟩)) (by omega) fun o ho => ?_
    obtain ⟨y, hy, h5⟩ := szL_pos kids _ (by omega) h o ho
    exact tn_of_sz o y hy h5
  decreasing_by
  have := List.sizeOf_lt_of_mem ho
  simp only [Ob.mk.sizeOf_spec]
  omega
end Go.Proofs.YtbmibaopkfenbaaDoor.M

/- Contracts for ObjOk: keysOk, fieldsOk. No condition. -/
namespace Go.Proofs.YtbmibaopkfenbaaDoor.M
open Go Go.Proofs
set_option maxRecDepth 100000
set_option maxHeartbeats 2000000
set_option linter.unusedSimpArgs false
def geB (a b : ByteArray) : Bool := !(Op.bytesLess a.toList b.toList)
def keyB (ks : List ByteArray) (i : Nat) : Bool :=
  match ks[i]? with
  | some x => wordB x && !(decide (i > 0) && match ks[i - 1]? with | some y => geB y x | none => false)
  | none => true
def keysB (ks : List ByteArray) : Bool := (List.range ks.length).all (keyB ks)
theorem keysB_no {ks : List ByteArray} {i : Nat} (hi : i < ks.length) (h : keyB ks i = false) : keysB ks = false := by
  unfold keysB
  rw [List.all_eq_false]
  exact ⟨i, List.mem_range.2 hi, by simp [h]⟩
theorem keysB_yes {ks : List ByteArray} (h : ∀ j, j < ks.length → keyB ks j = true) : keysB ks = true := by
  unfold keysB
  exact List.all_eq_true.2 fun j hj => h j (List.mem_range.1 hj)
theorem all_succ {p : Nat → Prop} {i : Nat} (h : ∀ j, j < i → p j) (h2 : p i) : ∀ j, j < i + 1 → p j := fun j hj => by
  rcases Nat.lt_succ_iff_lt_or_eq.1 hj with hj | rfl
  · exact h j hj
  · exact h2
theorem oc111 (a : List ByteArray) (ha : a.length ≤ 1048576) (hs : ∀ s ∈ a, s.size ≤ 1048576) : CS Tryd.prog false 102 [.v (strs a)] [.bool (keysB a)] [] := by
  refine CS_act tab_ok mdO Tryd.func102 rfl rfl Tryd.ntmps102 (rl := [.tmp 2]) rfl (Nat.le_of_ble_eq_true rfl) ?_
  simp only [go_sem, strs, List.length_map]
  refine act_loop_of (md := mdO) tab_ok [0,5,6,7] [] 1000 (ι := {i : Nat // i ≤ a.length ∧ ∀ j, j < i → keyB a j = true}) (fun i => ⟨[(0, .a (.c (.t (.list 1 (a.map T.str))))), (5, .a (.c (.t (.list 1 (a.map T.str))))), (6, .a (.c (.t (.int .i64 a.length)))), (7, .a (.c (.t (.int .i64 i.1))))], [], 1000, 29⟩) (fun i => a.length - i.1) ⟨0, by omega, by simp⟩ (Nat.le_of_ble_eq_true rfl) (by simp only [go_sem]) (by simp only [go_sem]; rfl) fun i => ?_
  obtain ⟨i, hi, ht⟩ := i
  simp only [go_sem, List.length_map]
  refine act_split (fun h => ?_) (fun h => ?_) <;> simp only [go_sem] <;> simp only [decide_eq_true_eq, decide_eq_false_iff_not] at h
  · obtain ⟨x, hx⟩ : ∃ x, a[i]? = some x := ⟨_, List.getElem?_eq_getElem (by omega)⟩
    have hb := hs x (List.mem_of_getElem? hx)
    simp only [go_sem, List.getElem?_map, hx, List.length_map]
    refine ⟨by omega, by omega, ?_⟩
    refine act_callE (oc18 _ hb) ?_
    simp only [go_sem]
    refine act_split (fun h2 => ?_) (fun h2 => ?_) <;> simp only [go_sem, h2]
    · refine act_split (fun h3 => ?_) (fun h3 => ?_) <;> simp only [go_sem, h3] <;> simp only [decide_eq_true_eq, decide_eq_false_iff_not] at h3
      · obtain ⟨y, hy⟩ : ∃ y, a[i - 1]? = some y := ⟨_, List.getElem?_eq_getElem (by omega)⟩
        have e : ((i : Int) - 1).toNat = i - 1 := by omega
        simp only [go_sem, wrap64O (n := (i : Int) - 1) (by omega) (by omega), e, List.getElem?_map, hx, hy, List.length_map]
        refine ⟨by omega, by omega, ?_⟩
        refine act_split_notO (fun h4 => ?_) (fun h4 => ?_) <;> simp only [go_sem, h4]
        · rw [keysB_no (i := i) (by omega) (by simp [keyB, hx, h2, hy, geB, h4]; omega)]
        · refine nextK_of ⟨i + 1, by omega, all_succ ht (by simp [keyB, hx, h2, hy, geB, h4])⟩ (by simp only [go_sem]) ?_ (by dsimp only; omega)
          simp only [go_sem]
          rw [wrap64O (by omega) (by omega)]; rfl
      · refine nextK_of ⟨i + 1, by omega, all_succ ht (by simp [keyB, hx, h2]; omega)⟩ (by simp only [go_sem]) ?_ (by dsimp only; omega)
        simp only [go_sem]
        rw [wrap64O (by omega) (by omega)]; rfl
    · rw [keysB_no (i := i) (by omega) (by simp [keyB, hx, h2])]
  · rw [keysB_yes fun j hj => ht j (by omega)]
/-- The fields of a tree are as its kind tells. -/
def fieldsB (k n : Int) (s : ByteArray) (ks : List ByteArray) (kl : Nat) : Bool :=
  if (k != 8 && decide (0 < ks.length)) || ((k != 8 && k != 7) && decide (0 < kl)) then false else
  let num := n == 0
  let txt := s.toList == (⟨#[]⟩ : ByteArray).toList
  if k == 1 || k == 2 || k == 3 || k == 7 then num && txt
  else if k == 4 then inBO n (-1000000000) 1000000000 && txt
  else if k == 5 then num && wordB s
  else if k == 6 then num && decide (s.size ≤ 200)
  else if k == 8 then num && txt && decide (ks.length = kl) && keysB ks
  else k == 9 && inBO n 1 1000000000 && txt
end Go.Proofs.YtbmibaopkfenbaaDoor.M

/- Contracts for ObjOk: fieldsOk. No condition. -/
namespace Go.Proofs.YtbmibaopkfenbaaDoor.M
open Go Go.Proofs
set_option maxRecDepth 100000
set_option maxHeartbeats 2000000
set_option linter.unusedSimpArgs false
attribute [go_sem] Bool.true_eq_false Int.reduceBEq Int.reduceBNe Int.reduceLT Int.reduceLE Int.reduceGT Int.reduceGE Int.reduceAdd Int.reduceSub Int.reduceMul Int.reduceNeg
theorem oc93 (k n : Int) (s : ByteArray) (ks : List ByteArray) (kids : List Ob) (h : Tn (.mk k n s ks kids)) :
    CS Tryd.prog false 78 [.v (Ob.mk k n s ks kids).t] [.bool (fieldsB k n s ks kids.length)] [] := by
  obtain ⟨g0, g1, g2, g3⟩ : s.size ≤ 1048576 ∧ ks.length ≤ 1048576 ∧ (∀ s ∈ ks, s.size ≤ 1048576) ∧ kids.length ≤ 1048576 := by cases h; exact ⟨by assumption, by assumption, by assumption, by assumption⟩
  rw [Ob.t_mk]
  have key : k = 1 ∨ k = 2 ∨ k = 3 ∨ k = 7 ∨ k = 4 ∨ k = 5 ∨ k = 6 ∨ k = 8 ∨ k = 9 ∨ ((k == 1) = false ∧ (k == 2) = false ∧ (k == 3) = false ∧ (k == 7) = false ∧ (k == 4) = false ∧ (k == 5) = false ∧ (k == 6) = false ∧ (k == 8) = false ∧ (k == 9) = false) := by
    simp only [beq_eq_false_iff_ne]; omega
  clear h
  rcases key with rfl | rfl | rfl | rfl | rfl | rfl | rfl | rfl | rfl | ⟨e1, e2, e3, e4, e5, e6, e7, e8, e9⟩
  all_goals
    refine CS_act tab_ok mdO Tryd.func78 rfl rfl Tryd.ntmps78 (rl := [.tmp 2]) rfl (Nat.le_of_ble_eq_true rfl) ?_
    simp only [go_sem, bne, List.length_map, *]
  all_goals
    repeat' (first
    | (refine act_callE (oc45 _ _ _) ?_; simp only [go_sem, *])
    | (refine act_callE (oc18 _ g0) ?_; simp only [go_sem, *])
    | (refine act_callE (oc111 _ g1 g2) ?_; simp only [go_sem, *])
    | (refine act_split_notO (fun h => ?_) (fun h => ?_) <;> simp only [go_sem, h, List.length_map, *])
    | (refine act_split (fun h => ?_) (fun h => ?_) <;> simp only [go_sem, h, List.length_map, *]))
  all_goals first | (simp_all [fieldsB]; done) | (simp_all [fieldsB]; omega) | (simp_all [fieldsB]; intros; omega) | skip
end Go.Proofs.YtbmibaopkfenbaaDoor.M

/- Contracts for ObjOk: countOf, and the plain law of both counts. No condition. -/
namespace Go.Proofs.YtbmibaopkfenbaaDoor.M
open Go Go.Proofs
set_option maxRecDepth 100000
set_option maxHeartbeats 2000000
set_option linter.unusedSimpArgs false
mutual
def cntO : Ob → Int → Int
  | .mk k n s ks kids, d => if 6 < d then 121 else if fieldsB k n s ks kids.length = false then 121 else cntLO kids (d + 1) 1
def cntLO : List Ob → Int → Int → Int
  | [], _, c => c
  | o :: r, d, c => if 120 < c + cntO o d then 121 else cntLO r d (c + cntO o d)
end
mutual
def lefO : Ob → Int → Int → Option Int
  | .mk k n s ks kids, d, left => if left - 1 < 0 then none else if 6 < d then none else if fieldsB k n s ks kids.length = false then none else lefL kids (d + 1) (left - 1)
def lefL : List Ob → Int → Int → Option Int
  | [], _, left => some left
  | o :: r, d, left => match lefO o d left with
    | some l => lefL r d l
    | none => none
end
theorem cntL_ge : ∀ (l : List Ob) (d c : Int), c ≤ 121 → (∀ o ∈ l, 1 ≤ cntO o d ∧ cntO o d ≤ 121) → c ≤ cntLO l d c ∧ cntLO l d c ≤ 121
  | [], d, c, h, _ => by rw [cntLO]; omega
  | o :: r, d, c, h, ho => by
    rw [cntLO]
    have h1 := ho o (by simp)
    split
    · omega
    · have := cntL_ge r d (c + cntO o d) (by omega) fun o' h' => ho o' (by simp [h'])
      omega
theorem cntO_ge : ∀ (o : Ob) (d : Int), 1 ≤ cntO o d ∧ cntO o d ≤ 121
  | .mk k n s ks kids, d => by
    rw [cntO]
    split
    · omega
    split
    · omega
    exact cntL_ge kids (d + 1) 1 (by omega) fun o ho => cntO_ge o (d + 1)
  decreasing_by
  have := List.sizeOf_lt_of_mem ho
  simp only [Ob.mk.sizeOf_spec]
  omega
theorem lefL_cnt : ∀ (l : List Ob) (d left c : Int), 0 ≤ c → 0 ≤ left → c + left ≤ 120 → (∀ o ∈ l, ∀ x : Int, 0 ≤ x → x ≤ 120 → lefO o d x = if cntO o d ≤ x then some (x - cntO o d) else none) →
    lefL l d left = if cntLO l d c ≤ c + left then some (c + left - cntLO l d c) else none
  | [], d, left, c, hc, h0, h1, _ => by
    rw [lefL, cntLO, if_pos (by omega)]
    congr 1; omega
  | o :: r, d, left, c, hc, h0, h1, ho => by
    have g := cntO_ge o d
    by_cases hc' : 0 ≤ c
    · rw [lefL, cntLO, ho o (by simp) left h0 (by omega)]
      by_cases h2 : cntO o d ≤ left
      · rw [if_pos h2, if_neg (show ¬ 120 < c + cntO o d by omega)]
        dsimp only
        rw [lefL_cnt r d (left - cntO o d) (c + cntO o d) (by omega) (by omega) (by omega) fun o' h' => ho o' (by simp [h'])]
        have : c + cntO o d + (left - cntO o d) = c + left := by omega
        rw [this]
      · rw [if_neg h2]
        dsimp only
        split
        · rw [if_neg (by omega)]
        · have := cntL_ge r d (c + cntO o d) (by omega) fun o' _ => cntO_ge o' d
          rw [if_neg (by omega)]
    · omega
theorem lefO_cnt : ∀ (o : Ob) (d left : Int), 0 ≤ left → left ≤ 120 → lefO o d left = if cntO o d ≤ left then some (left - cntO o d) else none
  | .mk k n s ks kids, d, left, h0, h1 => by
    have g := cntO_ge (.mk k n s ks kids) d
    by_cases hl : left - 1 < 0
    · rw [lefO, if_pos hl, if_neg (by omega)]
    rw [lefO, if_neg hl, cntO]
    split
    · rw [if_neg (by omega)]
    split
    · rw [if_neg (by omega)]
    rw [lefL_cnt kids (d + 1) (left - 1) 1 (by omega) (by omega) (by omega) fun o ho x hx0 hx1 => lefO_cnt o (d + 1) x hx0 hx1]
    have : 1 + (left - 1) = left := by omega
    rw [this]
  decreasing_by
  have := List.sizeOf_lt_of_mem ho
  simp only [Ob.mk.sizeOf_spec]
  omega
theorem oc66 (k n : Int) (s : ByteArray) (ks : List ByteArray) (kids : List Ob) (hT : Tn (.mk k n s ks kids)) (d : Int) (h0 : 0 ≤ d) (h1 : d ≤ 7)
    (hh : d + 1 ≤ 7 → ∀ o ∈ kids, CS Tryd.prog false 46 [.v o.t, .v (.int .i64 (d + 1))] [.int .i64 (cntO o (d + 1))] []) :
    CS Tryd.prog false 46 [.v (Ob.mk k n s ks kids).t, .v (.int .i64 d)] [.int .i64 (cntO (.mk k n s ks kids) d)] [] := by
  have hf := oc93 k n s ks kids hT
  have hkl : kids.length ≤ 1048576 := by cases hT; assumption
  rw [Ob.t_mk] at hf ⊢
  rw [cntO]
  refine CS_act tab_ok mdO Tryd.func46 rfl rfl Tryd.ntmps46 (rl := [.tmp 4]) rfl (Nat.le_of_ble_eq_true rfl) ?_
  simp only [go_sem]
  refine act_split_notO (fun h => ?_) (fun h => ?_) <;> simp only [go_sem, h] <;> simp only [decide_eq_true_eq, decide_eq_false_iff_not] at h
  rotate_left
  · rw [if_pos h]
  rw [if_neg h]
  refine act_callE hf ?_
  simp only [go_sem]
  refine act_split_notO (fun h2 => ?_) (fun h2 => ?_) <;> simp only [go_sem, h2]
  simp only [List.length_map]
  refine act_loop_of (md := mdO) tab_ok [1,5,16,17,18] [] 1000 (ι := {p : Nat × Int // p.1 ≤ kids.length ∧ 1 ≤ p.2 ∧ p.2 ≤ 120 ∧ cntLO (kids.drop p.1) (d + 1) p.2 = cntLO kids (d + 1) 1})
    (fun p => ⟨[(1, .a (.c (.t (.int .i64 d)))), (5, .a (.c (.t (.int .i64 p.1.2)))), (16, .a (.c (.t (.list 5 (kids.map Ob.t))))), (17, .a (.c (.t (.int .i64 kids.length)))), (18, .a (.c (.t (.int .i64 p.1.1))))], [], 1000, 32⟩)
    (fun p => kids.length - p.1.1) ⟨(0, 1), by omega, by omega, by omega, rfl⟩ (Nat.le_of_ble_eq_true rfl) (by simp only [go_sem]) (by simp only [go_sem]; rfl) fun p => ?_
  obtain ⟨⟨i, c⟩, hi, hc0, hc1, hz⟩ := p
  dsimp only at hi hc0 hc1 hz
  simp only [go_sem, List.length_map]
  refine act_split (fun h3 => ?_) (fun h3 => ?_) <;> simp only [go_sem] <;> simp only [decide_eq_true_eq, decide_eq_false_iff_not] at h3
  · obtain ⟨x, hx⟩ : ∃ x, kids[i]? = some x := ⟨_, List.getElem?_eq_getElem (by omega)⟩
    have hc := hh (by omega) x (List.mem_of_getElem? hx)
    have g := cntO_ge x (d + 1)
    have hd : kids.drop i = x :: kids.drop (i + 1) := by
      rw [List.drop_eq_getElem_cons (by omega)]
      rw [List.getElem?_eq_getElem (by omega)] at hx; rw [Option.some.inj hx]
    rw [hd, cntLO] at hz
    generalize cntO x (d + 1) = y at hc hz g
    obtain ⟨k', n', s', ks', kids'⟩ := x
    rw [Ob.t_mk] at hc
    simp only [go_sem, List.getElem?_map, hx, List.length_map, Ob.t_mk, wrap64O (n := d + 1) (by omega) (by omega)]
    refine ⟨by omega, by omega, ?_⟩
    refine act_callE hc ?_
    simp only [go_sem, wrap64O (n := c + y) (by omega) (by omega)]
    refine act_split (fun h4 => ?_) (fun h4 => ?_) <;> simp only [go_sem] <;> simp only [decide_eq_true_eq, decide_eq_false_iff_not] at h4
    · rw [if_pos h4] at hz
      rw [← hz]
    · rw [if_neg h4] at hz
      refine nextK_of ⟨(i + 1, c + y), by omega, by omega, by omega, hz⟩ (by simp only [go_sem]) ?_ (by dsimp only; omega)
      simp only [go_sem]
      rw [wrap64O (by omega) (by omega)]; rfl
  · have : i = kids.length := by omega
    subst this
    rw [List.drop_length, cntLO] at hz
    rw [← hz]
theorem oc66' (o : Ob) (hT : Tn o) : ∀ d : Int, 0 ≤ d → d ≤ 7 → CS Tryd.prog false 46 [.v o.t, .v (.int .i64 d)] [.int .i64 (cntO o d)] [] := by
  match o, hT with
  | .mk k n s ks kids, hT =>
    have hk : ∀ o ∈ kids, Tn o := by cases hT; assumption
    have hr : ∀ o ∈ kids, ∀ d : Int, 0 ≤ d → d ≤ 7 → CS Tryd.prog false 46 [.v o.t, .v (.int .i64 d)] [.int .i64 (cntO o d)] [] := fun o ho => oc66' o (hk o ho)
    exact fun d h0 h1 => oc66 k n s ks kids hT d h0 h1 fun h o ho => hr o ho (d + 1) (by omega) h
termination_by o
decreasing_by
  have := List.sizeOf_lt_of_mem ho
  simp only [Ob.mk.sizeOf_spec]
  omega
theorem oc27 (o : Ob) (hT : Tn o) : CS Tryd.prog false 19 [.v o.t] [.bool (decide (cntO o 0 ≤ 120))] [] := by
  have hc := oc66' o hT 0 (by omega) (by omega)
  obtain ⟨k, n, s, ks, kids⟩ := o
  rw [Ob.t_mk] at hc ⊢
  refine CS_act tab_ok mdO Tryd.func19 rfl rfl Tryd.ntmps19 (rl := [.tmp 2]) rfl (Nat.le_of_ble_eq_true rfl) ?_
  simp only [go_sem]
  refine act_callE hc ?_
  simp only [go_sem]
end Go.Proofs.YtbmibaopkfenbaaDoor.M

/- Contracts for ObjOk: the reference's count, its loops. No condition. -/
namespace Go.Proofs.YtbmibaopkfenbaaDoor.M
open Go Go.Proofs
set_option maxRecDepth 100000
set_option maxHeartbeats 2000000
set_option linter.unusedSimpArgs false
def preB (k n : Int) (s : ByteArray) (ks : List ByteArray) (kl : Nat) : Bool :=
  let num := k == 4 || k == 9
  let txt := k == 5 || k == 6
  let kds := k == 7 || k == 8
  (if k == 4 then inBO n (-1000000000) 1000000000 else if k == 9 then inBO n 1 1000000000 else if k == 5 then wordB s else if k == 6 then decide (s.size ≤ 200) else if k == 8 then decide (ks.length = kl) else k == 1 || k == 2 || k == 3 || k == 7)
    && !((!num && n != 0) || (!txt && !(s.toList == (⟨#[]⟩ : ByteArray).toList)) || (!kds && decide (0 < kl)) || (!(k == 8) && decide (0 < ks.length)))
mutual
def lefP : Ob → Int → Int → Bool × Int
  | .mk k n s ks kids, d, left => if left - 1 < 0 then (false, left - 1) else if 6 < d then (false, left - 1) else if preB k n s ks kids.length = false then (false, left - 1) else if keysB ks = false then (false, left - 1) else lefPL kids (d + 1) (left - 1)
def lefPL : List Ob → Int → Int → Bool × Int
  | [], _, left => (true, left)
  | o :: r, d, left => if (lefP o d left).1 = true then lefPL r d (lefP o d left).2 else (false, (lefP o d left).2)
end
theorem fields_pre (k n : Int) (s : ByteArray) (ks : List ByteArray) (kl : Nat) : fieldsB k n s ks kl = (preB k n s ks kl && keysB ks) := by
  have hk : ks.length = 0 → keysB ks = true := fun h => by rw [List.length_eq_zero_iff.1 h]; rfl
  unfold fieldsB preB
  simp only [bne]
  generalize inBO n (-1000000000) 1000000000 = b1
  generalize inBO n 1 1000000000 = b2
  generalize wordB s = b3
  generalize decide (s.size ≤ 200) = b4
  generalize (n == 0) = bn
  generalize (s.toList == (⟨#[]⟩ : ByteArray).toList) = bs
  generalize keysB ks = bk at hk ⊢
  generalize ks.length = kz at hk ⊢
  have key : k = 1 ∨ k = 2 ∨ k = 3 ∨ k = 7 ∨ k = 4 ∨ k = 5 ∨ k = 6 ∨ k = 8 ∨ k = 9 ∨ ((k == 1) = false ∧ (k == 2) = false ∧ (k == 3) = false ∧ (k == 7) = false ∧ (k == 4) = false ∧ (k == 5) = false ∧ (k == 6) = false ∧ (k == 8) = false ∧ (k == 9) = false) := by
    simp only [beq_eq_false_iff_ne]; omega
  rcases key with rfl | rfl | rfl | rfl | rfl | rfl | rfl | rfl | rfl | ⟨e1, e2, e3, e4, e5, e6, e7, e8, e9⟩
  all_goals
    rcases Nat.eq_zero_or_pos kl with rfl | hkl <;> rcases Nat.eq_zero_or_pos kz with rfl | hkz
  all_goals (try have hk := hk rfl)
  all_goals (try subst hk)
  all_goals (try simp only [e1, e2, e3, e4, e5, e6, e7, e8, e9])
  all_goals cases bn <;> cases bs <;> first | (simp; done) | simp_all
theorem lefL_P : ∀ (l : List Ob) (d x : Int), (∀ o ∈ l, ∀ x, lefO o d x = if (lefP o d x).1 = true then some (lefP o d x).2 else none) → lefL l d x = if (lefPL l d x).1 = true then some (lefPL l d x).2 else none
  | [], d, x, _ => by rw [lefL, lefPL]; rfl
  | o :: r, d, x, h => by
    rw [lefL, lefPL, h o (by simp) x]
    by_cases h1 : (lefP o d x).1 = true
    · simp only [h1, if_true]
      exact lefL_P r d _ fun o' h' => h o' (by simp [h'])
    · simp only [h1, if_false]; simp
theorem lefP_O : ∀ (o : Ob) (d l : Int), lefO o d l = if (lefP o d l).1 = true then some (lefP o d l).2 else none
  | .mk k n s ks kids, d, l => by
    rw [lefO, lefP]
    split
    · simp
    split
    · simp
    rw [fields_pre]
    by_cases h1 : preB k n s ks kids.length = false
    · simp [h1]
    by_cases h2 : keysB ks = false
    · simp [h1, h2]
    simp only [Bool.not_eq_false] at h1 h2
    simp only [h1, h2, Bool.and_true, Bool.true_eq_false, if_false]
    exact lefL_P kids (d + 1) (l - 1) fun o ho x => lefP_O o (d + 1) x
  decreasing_by
  have := List.sizeOf_lt_of_mem ho
  simp only [Ob.mk.sizeOf_spec]
  omega
theorem lefP_yes (o : Ob) (d x : Int) (h0 : 0 ≤ x) (h1 : x ≤ 120) : (lefP o d x).1 = decide (cntO o d ≤ x) ∧ ((lefP o d x).1 = true → (lefP o d x).2 = x - cntO o d) := by
  have h := lefP_O o d x
  rw [lefO_cnt o d x h0 h1] at h
  by_cases h2 : cntO o d ≤ x
  · rw [if_pos h2] at h
    split at h
    · rename_i h3; obtain h4 := Option.some.inj h; exact ⟨by rw [h3]; simp [h2], fun _ => h4.symm⟩
    · cases h
  · rw [if_neg h2] at h
    split at h
    · cases h
    · rename_i h3; exact ⟨by simp [h2, h3], fun h => absurd h h3⟩
abbrev L65 (o : Ob) (d left : Int) : Prop := CS Tryd.prog false 47 [.v o.t, .v (.int .i64 d), .mb [.t (.int .i64 left)]] [.bool (lefP o d left).1] [[.t (.int .i64 (lefP o d left).2)]]
theorem r65 (k n : Int) (s : ByteArray) (ks : List ByteArray) (kids : List Ob) (hT : Tn (.mk k n s ks kids)) (d left l0 : Int) (h0 : 0 ≤ d) (h1 : d ≤ 6) (h2 : 0 ≤ left) (h3 : left < 120)
    (hh : ∀ o ∈ kids, ∀ x : Int, 0 ≤ x → x ≤ 120 → L65 o (d + 1) x) (rs : List T) (os : List (List BC))
    (hr1 : keysB ks = false → rs = [.bool false] ∧ os = [[.t (.int .i64 left)]]) (hr2 : keysB ks = true → rs = [.bool (lefPL kids (d + 1) left).1] ∧ os = [[.t (.int .i64 (lefPL kids (d + 1) left).2)]]) {c : Code}
    (hc : subC Tryd.f47.body [true, true, true, true, true, true, true, true, true] = some c) :
    WWE Tryd.prog c ⟨[(1, .a (.c (.t (.int .i64 d)))), (2, .a (.c (.ptr 0 0))), (3, .a (.c (.ptr 1 0)))], [(0, .box [.t (.int .i64 left)]), (1, .box [.t (.int .i64 k), .t (.int .i64 n), .t (.str s), .t (.list 1 (ks.map T.str)), .t (.list 5 (kids.map Ob.t))])], 4000, 153⟩
      (endK tab false [.tmp 6] [.v (.agg [.int .i64 k, .int .i64 n, .str s, .list 1 (ks.map T.str), .list 5 (kids.map Ob.t)]), .v (.int .i64 d), .mb [.t (.int .i64 l0)]] rs os) .one .one := by
  obtain rfl := Option.some.inj hc
  clear hc
  refine WWE_of_act tab_ok mdO ?_
  simp only [go_sem]
  obtain ⟨g0, g1, g2, g3⟩ : s.size ≤ 1048576 ∧ ks.length ≤ 1048576 ∧ (∀ s ∈ ks, s.size ≤ 1048576) ∧ kids.length ≤ 1048576 := by cases hT; exact ⟨by assumption, by assumption, by assumption, by assumption⟩
  refine act_loop_of (md := mdO) tab_ok [1,2,3,11] [0,1] 6000 (ι := {i : Nat // i ≤ ks.length ∧ ∀ j, j < i → keyB ks j = true})
    (fun i => ⟨[(1, .a (.c (.t (.int .i64 d)))), (2, .a (.c (.ptr 0 0))), (3, .a (.c (.ptr 1 0))), (11, .a (.c (.t (.int .i64 i.1))))], [(0, .box [.t (.int .i64 left)]), (1, .box [.t (.int .i64 k), .t (.int .i64 n), .t (.str s), .t (.list 1 (ks.map T.str)), .t (.list 5 (kids.map Ob.t))])], 6000, 153⟩)
    (fun i => ks.length - i.1) ⟨0, by omega, by simp⟩ (Nat.le_of_ble_eq_true rfl) (by simp only [go_sem]) (by simp only [go_sem]; rfl) fun i => ?_
  obtain ⟨i, hi, ht⟩ := i
  simp only [go_sem, List.length_map]
  refine act_split (fun h => ?_) (fun h => ?_) <;> simp only [go_sem] <;> simp only [decide_eq_true_eq, decide_eq_false_iff_not] at h
  · obtain ⟨x, hx⟩ : ∃ x, ks[i]? = some x := ⟨_, List.getElem?_eq_getElem (by omega)⟩
    have hb := g2 x (List.mem_of_getElem? hx)
    refine act_draw_of tab_ok mix mdO ?_
    simp only [go_sem, List.getElem?_map, hx, List.length_map]
    refine ⟨by omega, by omega, ?_⟩
    refine act_callE (oc17 _ hb) ?_
    simp only [go_sem]
    refine act_split (fun h5 => ?_) (fun h5 => ?_) <;> simp only [go_sem, h5]
    · refine act_split (fun h3 => ?_) (fun h3 => ?_) <;> simp only [go_sem, h3] <;> simp only [decide_eq_true_eq, decide_eq_false_iff_not] at h3
      · obtain ⟨y, hy⟩ : ∃ y, ks[i - 1]? = some y := ⟨_, List.getElem?_eq_getElem (by omega)⟩
        have e : ((i : Int) - 1).toNat = i - 1 := by omega
        simp only [go_sem, wrap64O (n := (i : Int) - 1) (by omega) (by omega), e, List.getElem?_map, hx, hy, List.length_map]
        refine ⟨by omega, by omega, by omega, by omega, drawOk_of (by kernel_rfl), ?_⟩
        refine act_split_notO (fun h4 => ?_) (fun h4 => ?_) <;> simp only [go_sem, h4]
        · have := keysB_no (ks := ks) (i := i) (by omega) (by simp [keyB, hx, h5, hy, geB, h4]; omega)
          obtain ⟨rfl, rfl⟩ := hr1 this
          trivial
        · refine nextK_of ⟨i + 1, by omega, all_succ ht (by simp [keyB, hx, h5, hy, geB, h4])⟩ (by simp only [go_sem]) ?_ (by dsimp only; omega)
          simp only [go_sem]
          rw [wrap64O (by omega) (by omega)]; rfl
      · refine ⟨drawOk_of (by kernel_rfl), ?_⟩
        refine nextK_of ⟨i + 1, by omega, all_succ ht (by simp [keyB, hx, h5]; omega)⟩ (by simp only [go_sem]) ?_ (by dsimp only; omega)
        simp only [go_sem]
        rw [wrap64O (by omega) (by omega)]; rfl
    · refine ⟨drawOk_of (by kernel_rfl), ?_⟩
      have := keysB_no (ks := ks) (i := i) (by omega) (by simp [keyB, hx, h5])
      obtain ⟨rfl, rfl⟩ := hr1 this
      trivial
  · have hy := keysB_yes (ks := ks) fun j hj => ht j (by omega)
    obtain ⟨rfl, rfl⟩ := hr2 hy
    clear hr1 hr2
    refine act_loop_of (md := mdO) tab_ok [1,2,3,12] [0,1] 9000 (ι := {p : Nat × Int // p.1 ≤ kids.length ∧ 0 ≤ p.2 ∧ p.2 ≤ 120 ∧ lefPL (kids.drop p.1) (d + 1) p.2 = lefPL kids (d + 1) left})
      (fun p => ⟨[(1, .a (.c (.t (.int .i64 d)))), (2, .a (.c (.ptr 0 0))), (3, .a (.c (.ptr 1 0))), (12, .a (.c (.t (.int .i64 p.1.1))))], [(0, .box [.t (.int .i64 p.1.2)]), (1, .box [.t (.int .i64 k), .t (.int .i64 n), .t (.str s), .t (.list 1 (ks.map T.str)), .t (.list 5 (kids.map Ob.t))])], 9000, 153⟩)
      (fun p => kids.length - p.1.1) ⟨(0, left), by omega, by omega, by omega, rfl⟩ (Nat.le_of_ble_eq_true rfl) (by simp only [go_sem]) (by simp only [go_sem]; rfl) fun p => ?_
    obtain ⟨⟨j, l⟩, hj, hl0, hl1, hz⟩ := p
    dsimp only at hj hl0 hl1 hz
    simp only [go_sem, List.length_map]
    refine act_split (fun h6 => ?_) (fun h6 => ?_) <;> simp only [go_sem] <;> simp only [decide_eq_true_eq, decide_eq_false_iff_not] at h6
    · obtain ⟨x, hx⟩ : ∃ x, kids[j]? = some x := ⟨_, List.getElem?_eq_getElem (by omega)⟩
      have hc := hh x (List.mem_of_getElem? hx) l hl0 hl1
      have hp := lefP_yes x (d + 1) l hl0 hl1
      have hg := cntO_ge x (d + 1)
      have hd : kids.drop j = x :: kids.drop (j + 1) := by
        rw [List.drop_eq_getElem_cons (by omega)]
        rw [List.getElem?_eq_getElem (by omega)] at hx; rw [Option.some.inj hx]
      rw [hd, lefPL] at hz
      unfold L65 at hc
      generalize lefP x (d + 1) l = p at hc hz hp
      obtain ⟨b, y⟩ := p
      dsimp only at hc hz hp
      obtain ⟨k', n', s', ks', kids'⟩ := x
      rw [Ob.t_mk] at hc
      simp only [go_sem, List.getElem?_map, hx, List.length_map, Ob.t_mk, wrap64O (n := d + 1) (by omega) (by omega)]
      refine ⟨by omega, by omega, ?_⟩
      refine act_callE hc ?_
      simp only [go_sem]
      refine act_split_notO (fun h4 => ?_) (fun h4 => ?_) <;> simp only [go_sem] <;> subst h4
      · rw [if_neg (by simp)] at hz
        rw [← hz]; exact ⟨rfl, rfl⟩
      · rw [if_pos rfl] at hz
        have h7 := of_decide_eq_true hp.1.symm
        have h8 := hp.2 rfl
        refine nextK_of ⟨(j + 1, y), by omega, by omega, by omega, hz⟩ (by simp only [go_sem]) ?_ (by dsimp only; omega)
        simp only [go_sem]
        rw [wrap64O (by omega) (by omega)]; rfl
    · have : j = kids.length := by omega
      subst this
      rw [List.drop_length, lefPL] at hz
      rw [← hz]; exact ⟨rfl, rfl⟩
end Go.Proofs.YtbmibaopkfenbaaDoor.M

/- Contracts for ObjOk: the reference's count. No condition. -/
namespace Go.Proofs.YtbmibaopkfenbaaDoor.M
open Go Go.Proofs
set_option maxRecDepth 100000
set_option maxHeartbeats 2000000
set_option linter.unusedSimpArgs false
theorem oc65 (k n : Int) (s : ByteArray) (ks : List ByteArray) (kids : List Ob) (hT : Tn (.mk k n s ks kids)) (d left : Int) (h0 : 0 ≤ d) (h1 : d ≤ 7) (h2 : 0 ≤ left) (h3 : left ≤ 120)
    (hh : d + 1 ≤ 7 → ∀ o ∈ kids, ∀ x : Int, 0 ≤ x → x ≤ 120 → L65 o (d + 1) x) : L65 (.mk k n s ks kids) d left := by
  obtain ⟨g0, g1, g2, g3⟩ : s.size ≤ 1048576 ∧ ks.length ≤ 1048576 ∧ (∀ s ∈ ks, s.size ≤ 1048576) ∧ kids.length ≤ 1048576 := by cases hT; exact ⟨by assumption, by assumption, by assumption, by assumption⟩
  unfold L65
  rw [lefP, Ob.t_mk]
  refine CS_WW tab_ok Tryd.func47 rfl rfl Tryd.ntmps47 (rl := [.tmp 6]) rfl (Nat.le_of_ble_eq_true rfl) ?_
  have hw := wrap64O (n := left - 1) (by omega) (by omega)
  refine WWE_seq tab_ok mdO ?_
  simp only [go_sem]
  refine WWE_seq tab_ok mdO ?_
  simp only [go_sem, hw]
  refine WWE_seq tab_ok mdO ?_
  simp only [go_sem]
  refine act_split_notO (fun h => ?_) (fun h => ?_) <;> simp only [go_sem, h]
  rotate_left
  · simp only [decide_eq_true_eq] at h
    rw [if_pos h]; trivial
  simp only [decide_eq_false_iff_not] at h
  rw [if_neg h]
  refine act_split (fun h4 => ?_) (fun h4 => ?_) <;> simp only [go_sem]
  · simp only [decide_eq_true_eq] at h4
    rw [if_pos h4]; trivial
  simp only [decide_eq_false_iff_not] at h4
  rw [if_neg h4]
  refine WWE_seq tab_ok mdO ?_
  simp only [go_sem]
  refine WWE_seq tab_ok mdO ?_
  simp only [go_sem]
  refine WWE_seq tab_ok mdO ?_
  simp only [go_sem]
  refine WWE_seq tab_ok mdO ?_
  simp only [go_sem]
  have key : k = 1 ∨ k = 2 ∨ k = 3 ∨ k = 7 ∨ k = 4 ∨ k = 5 ∨ k = 6 ∨ k = 8 ∨ k = 9 ∨ ((k == 1) = false ∧ (k == 2) = false ∧ (k == 3) = false ∧ (k == 7) = false ∧ (k == 4) = false ∧ (k == 5) = false ∧ (k == 6) = false ∧ (k == 8) = false ∧ (k == 9) = false) := by
    simp only [beq_eq_false_iff_ne]; omega
  have hp : preB k n s ks kids.length = preB k n s ks kids.length := rfl
  conv at hp => rhs; unfold preB
  have rest := fun (hpre : preB k n s ks kids.length = true) => @r65 k n s ks kids hT d (left - 1) left h0 (by omega) (by omega) (by omega) (hh (by omega))
    [.bool (if preB k n s ks kids.length = false then (false, left - 1) else if keysB ks = false then (false, left - 1) else lefPL kids (d + 1) (left - 1)).1]
    [[.t (.int .i64 (if preB k n s ks kids.length = false then (false, left - 1) else if keysB ks = false then (false, left - 1) else lefPL kids (d + 1) (left - 1)).2)]]
    (fun hk => by simp [hpre, hk]) (fun hk => by simp [hpre, hk])
  generalize preB k n s ks kids.length = pb at hp rest ⊢
  rcases key with rfl | rfl | rfl | rfl | rfl | rfl | rfl | rfl | rfl | ⟨e1, e2, e3, e4, e5, e6, e7, e8, e9⟩
  all_goals (try simp only [e1, e2, e3, e4, e5, e6, e7, e8, e9] at hp)
  all_goals
    refine WWE_seq tab_ok mdO ?_
    simp only [go_sem, List.length_map]
    try simp only [e1, e2, e3, e4, e5, e6, e7, e8, e9, go_sem]
    repeat' (first
      | (refine act_callE (oc44 _ _ _) ?_; simp only [go_sem])
      | (refine act_callE (oc17 _ g0) ?_; simp only [go_sem])
      | (refine act_split_notO (fun h => ?_) (fun h => ?_) <;> simp only [go_sem, h])
      | (refine act_split (fun h => ?_) (fun h => ?_) <;> simp only [go_sem, h]))
  all_goals try
    refine WWE_seq tab_ok mdO ?_
    simp only [go_sem, List.length_map, bne]
    repeat' (first
      | (refine act_split_notO (fun h => ?_) (fun h => ?_) <;> simp only [go_sem, h, List.length_map])
      | (refine act_split (fun h => ?_) (fun h => ?_) <;> simp only [go_sem, h, List.length_map]))
  all_goals try
    refine WWE_cut [1,2,3] [0,1] 4000 _ (Nat.le_of_ble_eq_true rfl) (by simp only [go_sem]) (by simp only [go_sem]) (rest ?_ rfl)
  all_goals
    first
    | (have : pb = true := by
        rw [hp]; first | (simp_all; done) | (simp_all; omega)
       exact this)
    | (have : pb = false := by
        rw [hp]; first | (simp_all; done) | (simp_all; omega)
       rw [if_pos this]; exact ⟨rfl, rfl⟩)
end Go.Proofs.YtbmibaopkfenbaaDoor.M

/- Contracts for ObjOk: the law. No condition. -/
namespace Go.Proofs.YtbmibaopkfenbaaDoor.M
open Go Go.Proofs
set_option maxRecDepth 100000
set_option maxHeartbeats 2000000
set_option linter.unusedSimpArgs false
theorem oc65' (o : Ob) (hT : Tn o) : ∀ d left : Int, 0 ≤ d → d ≤ 7 → 0 ≤ left → left ≤ 120 → L65 o d left := by
  match o, hT with
  | .mk k n s ks kids, hT =>
    have hk : ∀ o ∈ kids, Tn o := by cases hT; assumption
    have hr : ∀ o ∈ kids, ∀ d left : Int, 0 ≤ d → d ≤ 7 → 0 ≤ left → left ≤ 120 → L65 o d left := fun o ho => oc65' o (hk o ho)
    exact fun d left h0 h1 h2 h3 => oc65 k n s ks kids hT d left h0 h1 h2 h3 fun h o ho x hx0 hx1 => hr o ho (d + 1) x (by omega) h hx0 hx1
termination_by o
decreasing_by
  have := List.sizeOf_lt_of_mem ho
  simp only [Ob.mk.sizeOf_spec]
  omega
theorem oc26 (o : Ob) (hT : Tn o) : CS Tryd.prog false 22 [.v o.t] [.bool (decide (cntO o 0 ≤ 120))] [] := by
  have hc := oc65' o hT 0 120 (by omega) (by omega) (by omega) (by omega)
  have he := (lefP_yes o 0 120 (by omega) (by omega)).1
  unfold L65 at hc
  rw [he] at hc
  generalize (lefP o 0 120).2 = y at hc
  generalize decide (cntO o 0 ≤ 120) = b at hc ⊢
  obtain ⟨k, n, s, ks, kids⟩ := o
  rw [Ob.t_mk] at hc ⊢
  refine CS_act tab_ok mdO Tryd.func22 rfl rfl Tryd.ntmps22 (rl := [.tmp 2]) rfl (Nat.le_of_ble_eq_true rfl) ?_
  simp only [go_sem]
  refine act_callE hc ?_
  simp only [go_sem]
end Go.Proofs.YtbmibaopkfenbaaDoor.M

/- Contracts for DocOk, part 1: items and documents, their copies, comparisons with themselves, sizes. No condition. -/
namespace Go.Proofs.YtbmibaopkfenbaaDoor.M
open Go Go.Proofs
set_option maxRecDepth 100000
set_option maxHeartbeats 2000000
set_option linter.unusedSimpArgs false
structure It where
  num : Int
  k : Int
  n : Int
  s : ByteArray
  ks : List ByteArray
  kids : List Ob
  hd : Bool
  data : ByteArray
abbrev It.o (x : It) : Ob := .mk x.k x.n x.s x.ks x.kids
def It.t (x : It) : T := .agg [.int .i64 x.num, .int .i64 x.k, .int .i64 x.n, .str x.s, .list 1 (x.ks.map T.str), .list 5 (x.kids.map Ob.t), .bool x.hd, .str x.data]
theorem It.t_def (x : It) : x.t = .agg [.int .i64 x.num, .int .i64 x.k, .int .i64 x.n, .str x.s, .list 1 (x.ks.map T.str), .list 5 (x.kids.map Ob.t), .bool x.hd, .str x.data] := rfl
def its (l : List It) : T := .list 8 (l.map It.t)
def docT (l : List It) (root : Int) : T := .agg [its l, .int .i64 root]
abbrev it0 : T := .agg [.int .i64 0, .int .i64 0, .int .i64 0, .str ⟨#[]⟩, .list 1 [], .list 5 [], .bool false, .str ⟨#[]⟩]
theorem oc95 (x : It) (h : Sm x.o) : CS Tryd.prog false 53 [.v x.t] [x.t] [] := by
  have hc := oc21' x.o h
  rw [Ob.t_mk] at hc
  rw [It.t_def]
  refine CS_act tab_ok mdO Tryd.func53 rfl rfl Tryd.ntmps53 (rl := [.cell 2 63]) rfl (Nat.le_of_ble_eq_true rfl) ?_
  simp only [go_sem]
  refine act_callE hc ?_
  simp only [go_sem]
theorem oc70 (a : List It) (ha : a.length ≤ 1048576) (h : ∀ o ∈ a, Sm o.o) : CS Tryd.prog false 34 [.v (its a)] [its a] [] := by
  refine CS_act tab_ok mdO Tryd.func34 rfl rfl Tryd.ntmps34 (rl := [.tmp 2]) rfl (Nat.le_of_ble_eq_true rfl) ?_
  simp only [go_sem, its, List.length_map]
  refine ⟨by omega, by omega, by omega, by omega, ?_⟩
  refine act_loop_of (md := mdO) tab_ok [0,3,4] [48] 1000 (ι := {i : Nat // i ≤ a.length}) (fun i => ⟨[(0, .a (.c (.t (.list 8 (a.map It.t))))), (3, .a (.c (.own 48 0 0 a.length))), (4, .a (.c (.t (.int .i64 i.1))))], [(48, .arr 8 ((a.take i.1).map It.t ++ List.replicate (a.length - i.1) it0) 0)], 1000, 23⟩) (fun i => a.length - i.1) ⟨0, by omega⟩ (Nat.le_of_ble_eq_true rfl) (by simp only [go_sem]) (by simp only [go_sem]; simp) fun i => ?_
  obtain ⟨i, hi⟩ := i
  simp only [go_sem, List.length_map]
  refine act_split (fun h2 => ?_) (fun h2 => ?_) <;> simp only [go_sem] <;> simp only [decide_eq_true_eq, decide_eq_false_iff_not] at h2
  · obtain ⟨x, hx⟩ : ∃ x, a[i]? = some x := ⟨_, List.getElem?_eq_getElem (by omega)⟩
    have hc := oc95 x (h x (List.mem_of_getElem? hx))
    have hg := fill_get It.t it0 a i (by omega)
    have hf := fill_set It.t it0 a i x hx
    rw [It.t_def] at hc hf
    simp only [go_sem, List.getElem?_map, hx, List.length_map, hg, It.t_def]
    refine ⟨by omega, by omega, ?_⟩
    refine act_callE hc ?_
    simp only [go_sem, List.length_append, List.length_map, hg]
    refine ⟨by omega, by omega, ?_⟩
    refine nextK_of ⟨i + 1, by omega⟩ (by simp only [go_sem]) ?_ (by dsimp only; omega)
    simp only [go_sem]
    rw [wrap64O (by omega) (by omega), hf]; rfl
  · have : i = a.length := by omega
    subst this
    simp
    exact List.take_of_length_le (by simp)
theorem oc30 (a : List It) (r : Int) (ha : a.length ≤ 1048576) (h : ∀ o ∈ a, Sm o.o) : CS Tryd.prog false 13 [.v (docT a r)] [docT a r] [] := by
  have hc := oc70 a ha h
  unfold docT its at *
  refine CS_act tab_ok mdO Tryd.func13 rfl rfl Tryd.ntmps13 (rl := [.cell 2 42]) rfl (Nat.le_of_ble_eq_true rfl) ?_
  simp only [go_sem]
  refine act_callE hc ?_
  simp only [go_sem]
theorem oc40 (x : It) (h : Sm x.o) : CS Tryd.prog false 62 [.v x.t, .v x.t] [.bool true] [] := by
  have hc := oc23' x.o h
  rw [Ob.t_mk] at hc
  rw [It.t_def]
  refine CS_act tab_ok mdO Tryd.func62 rfl rfl Tryd.ntmps62 (rl := [.tmp 4]) rfl (Nat.le_of_ble_eq_true rfl) ?_
  simp only [go_sem, bne_self_eq_false, beq_self_eq_true]
  refine act_callE hc ?_
  simp only [go_sem, bne_self_eq_false, beq_self_eq_true]
theorem oc73 (a : List It) (ha : a.length ≤ 1048576) (hh : ∀ o ∈ a, Sm o.o) : CS Tryd.prog false 41 [.v (its a), .v (its a)] [.bool true] [] := by
  refine CS_act tab_ok mdO Tryd.func41 rfl rfl Tryd.ntmps41 (rl := [.tmp 4]) rfl (Nat.le_of_ble_eq_true rfl) ?_
  simp only [go_sem, its, List.length_map, bne_self_eq_false]
  refine act_loop_of (md := mdO) tab_ok [0,1,5] [] 1000 (ι := {i : Nat // i ≤ a.length}) (fun i => ⟨[(0, .a (.c (.t (.list 8 (a.map It.t))))), (1, .a (.c (.t (.list 8 (a.map It.t))))), (5, .a (.c (.t (.int .i64 i.1))))], [], 1000, 27⟩) (fun i => a.length - i.1) ⟨0, by omega⟩ (Nat.le_of_ble_eq_true rfl) (by simp only [go_sem]) (by simp only [go_sem]; rfl) fun i => ?_
  obtain ⟨i, hi⟩ := i
  simp only [go_sem, List.length_map]
  refine act_split (fun h => ?_) (fun h => ?_) <;> simp only [go_sem] <;> simp only [decide_eq_true_eq, decide_eq_false_iff_not] at h
  obtain ⟨x, hx⟩ : ∃ x, a[i]? = some x := ⟨_, List.getElem?_eq_getElem (by omega)⟩
  have hc := oc40 x (hh x (List.mem_of_getElem? hx))
  rw [It.t_def] at hc
  refine act_draw_of tab_ok mix mdO ?_
  simp only [go_sem, List.getElem?_map, hx, List.length_map, It.t_def]
  refine ⟨by omega, by omega, by omega, by omega, ?_⟩
  refine act_callE hc ?_
  simp only [go_sem]
  refine ⟨drawOk_of (by kernel_rfl), ?_⟩
  refine nextK_of ⟨i + 1, by omega⟩ (by simp only [go_sem]) ?_ (by dsimp only; omega)
  simp only [go_sem]
  rw [wrap64O (by omega) (by omega)]; rfl
theorem oc32 (a : List It) (r : Int) (ha : a.length ≤ 1048576) (h : ∀ o ∈ a, Sm o.o) : CS Tryd.prog false 15 [.v (docT a r), .v (docT a r)] [.bool true] [] := by
  have hc := oc73 a ha h
  unfold docT its at *
  refine CS_act tab_ok mdO Tryd.func15 rfl rfl Tryd.ntmps15 (rl := [.tmp 4]) rfl (Nat.le_of_ble_eq_true rfl) ?_
  simp only [go_sem, bne_self_eq_false]
  refine act_callE hc ?_
  simp only [go_sem, bne_self_eq_false]
def szI (x : It) (left : Int) : Int := if szO x.o left < 0 then -1 else if szO x.o left - x.data.size < 0 then -1 else szO x.o left - x.data.size
def szIL : List It → Int → Int
  | [], left => left
  | o :: r, left => if szI o left < 0 then -1 else szIL r (szI o left)
def szD (l : List It) (left : Int) : Int := if left - l.length < 0 then -1 else szIL l (left - l.length)
theorem szI_le (x : It) (l : Int) (h : 0 ≤ l) : szI x l ≤ l := by
  have := szO_le' x.o l h
  unfold szI
  split
  · omega
  · split <;> omega
theorem szI_neg (x : It) (l : Int) : szI x l < 0 → szI x l = -1 := by
  unfold szI
  split
  · intro _; rfl
  · split
    · intro _; rfl
    · intro h; omega
theorem szIL_neg : ∀ (l : List It) (x : Int), 0 ≤ x → szIL l x = -1 ∨ 0 ≤ szIL l x
  | [], x, h => by rw [szIL]; exact .inr h
  | o :: r, x, h => by
    rw [szIL]
    split
    · exact .inl rfl
    · exact szIL_neg r _ (by omega)
theorem szD_neg (l : List It) (x : Int) : szD l x < 0 → szD l x = -1 := by
  unfold szD
  split
  · intro _; rfl
  · rename_i h
    intro h2
    rcases szIL_neg l (x - l.length) (by omega) with h3 | h3 <;> omega
theorem oc94 (x : It) (hW : Wd x.o) (hs : x.data.size ≤ 9223372036854775807) (left : Int) (h0 : 0 ≤ left) (h1 : left ≤ 1048576) : CS Tryd.prog false 50 [.v x.t, .v (.int .i64 left)] [.int .i64 (szI x left)] [] := by
  have hc := oc19' x.o hW left h0 h1
  have hle := szO_le' x.o left h0
  unfold szI
  generalize szO x.o left = z at hc hle ⊢
  rw [Ob.t_mk] at hc
  rw [It.t_def]
  refine CS_act tab_ok mdO Tryd.func50 rfl rfl Tryd.ntmps50 (rl := [.tmp 4]) rfl (Nat.le_of_ble_eq_true rfl) ?_
  simp only [go_sem]
  refine act_callE hc ?_
  simp only [go_sem]
  refine act_split (fun h => ?_) (fun h => ?_) <;> simp only [go_sem] <;> simp only [decide_eq_true_eq, decide_eq_false_iff_not] at h
  · rw [if_pos h]
  rw [if_neg h]
  have hw := wrap64O (n := z - x.data.size) (by omega) (by omega)
  simp only [hw]
  refine act_split (fun h2 => ?_) (fun h2 => ?_) <;> simp only [go_sem] <;> simp only [decide_eq_true_eq, decide_eq_false_iff_not] at h2
  · rw [if_pos h2]
  · rw [if_neg h2, hw]
theorem oc67 (a : List It) (left : Int) (h0 : 0 ≤ left) (h1 : left ≤ 1048576) (hl : a.length ≤ 9223372036854775807) (hW : ∀ o ∈ a, Wd o.o ∧ o.data.size ≤ 9223372036854775807) :
    CS Tryd.prog false 29 [.v (its a), .v (.int .i64 left)] [.int .i64 (szD a left)] [] := by
  refine CS_act tab_ok mdO Tryd.func29 rfl rfl Tryd.ntmps29 (rl := [.tmp 4]) rfl (Nat.le_of_ble_eq_true rfl) ?_
  simp only [go_sem, its, List.length_map, wrap64O (n := left - a.length) (by omega) (by omega)]
  refine act_split (fun h => ?_) (fun h => ?_) <;> simp only [go_sem] <;> simp only [decide_eq_true_eq, decide_eq_false_iff_not] at h
  · simp [szD, h]
  refine act_loop_of (md := mdO) tab_ok [0,1,5] [] 1000 (ι := {p : Nat × Int // p.1 ≤ a.length ∧ 0 ≤ p.2 ∧ p.2 ≤ 1048576 ∧ szIL (a.drop p.1) p.2 = szD a left})
    (fun p => ⟨[(0, .a (.c (.t (.list 8 (a.map It.t))))), (1, .a (.c (.t (.int .i64 p.1.2)))), (5, .a (.c (.t (.int .i64 p.1.1))))], [], 1000, 27⟩) (fun p => a.length - p.1.1) ⟨(0, left - a.length), by omega, by omega, by omega, by simp [szD, h]⟩ (Nat.le_of_ble_eq_true rfl) (by simp only [go_sem]) (by simp only [go_sem]; rfl) fun p => ?_
  obtain ⟨⟨i, l⟩, hi, hl0, hl1, hz⟩ := p
  simp only [go_sem, List.length_map]
  refine act_split (fun h2 => ?_) (fun h2 => ?_) <;> simp only [go_sem] <;> simp only [decide_eq_true_eq, decide_eq_false_iff_not] at h2
  · obtain ⟨x, hx⟩ : ∃ x, a[i]? = some x := ⟨_, List.getElem?_eq_getElem (by omega)⟩
    have hw := hW x (List.mem_of_getElem? hx)
    have hc := oc94 x hw.1 hw.2 l hl0 hl1
    have hxl := szI_le x l hl0
    have hd : a.drop i = x :: a.drop (i + 1) := by
      rw [List.drop_eq_getElem_cons (by omega)]
      rw [List.getElem?_eq_getElem (by omega)] at hx; rw [Option.some.inj hx]
    dsimp only at hz
    rw [hd, szIL] at hz
    generalize szI x l = y at hc hxl hz
    rw [It.t_def] at hc
    simp only [go_sem, List.getElem?_map, hx, List.length_map, It.t_def]
    refine ⟨by omega, by omega, ?_⟩
    refine act_callE hc ?_
    simp only [go_sem]
    refine act_split (fun h3 => ?_) (fun h3 => ?_) <;> simp only [go_sem] <;> simp only [decide_eq_true_eq, decide_eq_false_iff_not] at h3
    · rw [if_pos h3] at hz
      rw [← hz]
    · rw [if_neg h3] at hz
      refine nextK_of ⟨(i + 1, y), by omega, by omega, by omega, hz⟩ (by simp only [go_sem]) ?_ (by dsimp only; omega)
      simp only [go_sem]
      rw [wrap64O (by omega) (by omega)]; rfl
  · have : i = a.length := by omega
    subst this
    dsimp only at hz
    rw [List.drop_length, szIL] at hz
    rw [← hz]
theorem oc28 (a : List It) (r left : Int) (h0 : 0 ≤ left) (h1 : left ≤ 1048576) (hl : a.length ≤ 9223372036854775807) (hW : ∀ o ∈ a, Wd o.o ∧ o.data.size ≤ 9223372036854775807) :
    CS Tryd.prog false 11 [.v (docT a r), .v (.int .i64 left)] [.int .i64 (szD a left)] [] := by
  have hc := oc67 a left h0 h1 hl hW
  have hn := szD_neg a left
  generalize szD a left = z at hc hn ⊢
  unfold docT its at *
  refine CS_act tab_ok mdO Tryd.func11 rfl rfl Tryd.ntmps11 (rl := [.tmp 4]) rfl (Nat.le_of_ble_eq_true rfl) ?_
  simp only [go_sem]
  refine act_callE hc ?_
  simp only [go_sem]
  refine act_split (fun h => ?_) (fun h => ?_) <;> simp only [go_sem] <;> simp only [decide_eq_true_eq, decide_eq_false_iff_not] at h
  rw [hn h]
/-- What a measured document is. -/
theorem tn_of_szD (l : List It) (x : Int) (hx : x ≤ 1048576) (h : 0 ≤ szD l x) : l.length ≤ 1048576 ∧ ∀ o ∈ l, Tn o.o ∧ o.data.size ≤ 1048576 := by
  unfold szD at h
  split at h
  · omega
  refine ⟨by omega, ?_⟩
  have key : ∀ (l : List It) (y : Int), 0 ≤ y → y ≤ 1048576 → 0 ≤ szIL l y → ∀ o ∈ l, Tn o.o ∧ o.data.size ≤ 1048576 := fun l => by
    induction l with
    | nil => intro y _ _ _ o ho; cases ho
    | cons a r ih =>
      intro y hy0 hy1 hh o ho
      rw [szIL] at hh
      split at hh
      · omega
      rename_i hn
      have hle := szI_le a y hy0
      rcases List.mem_cons.1 ho with rfl | ho
      · unfold szI at hn hle
        have := szO_le' o.o y hy0
        split at hn
        · omega
        split at hn
        · omega
        exact ⟨tn_of_sz o.o y hy1 (by omega), by omega⟩
      · exact ih _ (by omega) (by omega) hh o ho
  exact key l _ (by omega) (by omega) h
end Go.Proofs.YtbmibaopkfenbaaDoor.M

/- Contracts for DocOk, part 2: what is looked for in lists. No condition. -/
namespace Go.Proofs.YtbmibaopkfenbaaDoor.M
open Go Go.Proofs
set_option maxRecDepth 100000
set_option maxHeartbeats 2000000
set_option linter.unusedSimpArgs false
/-- The first place below n where p holds, or -1. -/
def firstF (p : Nat → Bool) (n : Nat) : Int := match (List.range n).find? p with | some i => i | none => -1
theorem firstF_hit {p : Nat → Bool} {n i : Nat} (h : ∀ j, j < i → p j = false) (hi : i < n) (hp : p i = true) : firstF p n = i := by
  unfold firstF
  have : (List.range n).find? p = some i := List.find?_range_eq_some.2 ⟨hp, List.mem_range.2 hi, fun j hj => by simp [h j hj]⟩
  rw [this]
theorem firstF_none {p : Nat → Bool} {n : Nat} (h : ∀ j, j < n → p j = false) : firstF p n = -1 := by
  unfold firstF
  have : (List.range n).find? p = none := List.find?_range_eq_none.2 fun j hj => by simp [h j hj]
  rw [this]
theorem firstF_cases (p : Nat → Bool) (n : Nat) : (firstF p n = -1 ∧ ∀ j, j < n → p j = false) ∨ ∃ i, i < n ∧ firstF p n = i ∧ p i = true ∧ ∀ j, j < i → p j = false := by
  cases h : (List.range n).find? p with
  | none =>
    have := List.find?_range_eq_none.1 h
    exact .inl ⟨by unfold firstF; rw [h], fun j hj => by simpa using this j hj⟩
  | some i =>
    obtain ⟨h1, h2, h3⟩ := List.find?_range_eq_some.1 h
    exact .inr ⟨i, List.mem_range.1 h2, by unfold firstF; rw [h], h1, fun j hj => by simpa using h3 j hj⟩
def keyP (a : List ByteArray) (v : ByteArray) (j : Nat) : Bool := match a[j]? with | some x => v.toList == x.toList | none => false
def keyAt (a : List ByteArray) (v : ByteArray) : Int := firstF (keyP a v) a.length
theorem oc57 (a : List ByteArray) (v : ByteArray) (ha : a.length ≤ 1048576) : CS Tryd.prog false 106 [.v (strs a), .v (.str v)] [.int .i64 (keyAt a v)] [] := by
  refine CS_act tab_ok mdO Tryd.func106 rfl rfl Tryd.ntmps106 (rl := [.tmp 4]) rfl (Nat.le_of_ble_eq_true rfl) ?_
  simp only [go_sem, strs, List.length_map]
  refine act_loop_of (md := mdO) tab_ok [0,1,7,8] [] 1000 (ι := {i : Nat // i ≤ a.length ∧ ∀ j, j < i → keyP a v j = false}) (fun i => ⟨[(0, .a (.c (.t (.list 1 (a.map T.str))))), (1, .a (.c (.t (.str v)))), (7, .a (.c (.t (.int .i64 a.length)))), (8, .a (.c (.t (.int .i64 i.1))))], [], 1000, 19⟩) (fun i => a.length - i.1) ⟨0, by omega, by simp⟩ (Nat.le_of_ble_eq_true rfl) (by simp only [go_sem]) (by simp only [go_sem]; rfl) fun i => ?_
  obtain ⟨i, hi, ht⟩ := i
  simp only [go_sem, List.length_map]
  refine act_split (fun h => ?_) (fun h => ?_) <;> simp only [go_sem] <;> simp only [decide_eq_true_eq, decide_eq_false_iff_not] at h
  · obtain ⟨x, hx⟩ : ∃ x, a[i]? = some x := ⟨_, List.getElem?_eq_getElem (by omega)⟩
    simp only [go_sem, List.getElem?_map, hx, List.length_map]
    refine ⟨by omega, by omega, ?_⟩
    refine act_split (fun h2 => ?_) (fun h2 => ?_) <;> simp only [go_sem]
    · unfold keyAt
      rw [firstF_hit ht (by omega) (by simp [keyP, hx, h2])]
    · refine nextK_of ⟨i + 1, by omega, all_succ ht (by simp [keyP, hx, h2])⟩ (by simp only [go_sem]) ?_ (by dsimp only; omega)
      simp only [go_sem]
      rw [wrap64O (by omega) (by omega)]; rfl
  · unfold keyAt
    rw [firstF_none fun j hj => ht j (by omega)]
def atB (k : Int) (ks : List ByteArray) (kl : Nat) (v : ByteArray) : Int := if (k == 8) = false then -1 else if ks.length = kl then keyAt ks v else -1
theorem oc53 (k n : Int) (s : ByteArray) (ks : List ByteArray) (kids : List Ob) (v : ByteArray) (ha : ks.length ≤ 1048576) : CS Tryd.prog false 104 [.v (Ob.mk k n s ks kids).t, .v (.str v)] [.int .i64 (atB k ks kids.length v)] [] := by
  rw [Ob.t_mk]
  unfold atB
  refine CS_act tab_ok mdO Tryd.func104 rfl rfl Tryd.ntmps104 (rl := [.tmp 4]) rfl (Nat.le_of_ble_eq_true rfl) ?_
  simp only [go_sem, List.length_map, bne]
  refine act_split (fun h => ?_) (fun h => ?_) <;> simp only [go_sem, h, List.length_map, bne]
  refine act_split_notO (fun h2 => ?_) (fun h2 => ?_) <;> simp only [go_sem, h2, List.length_map, bne]
  · rw [if_neg (by simp at h2; omega)]
  rw [if_pos (by simp at h2; omega)]
  refine act_loop_of (md := mdO) tab_ok [1,2,5] [0] 2000 (ι := {i : Nat // i ≤ ks.length ∧ ∀ j, j < i → keyP ks v j = false}) (fun i => ⟨[(1, .a (.c (.t (.str v)))), (2, .a (.c (.ptr 0 0))), (5, .a (.c (.t (.int .i64 i.1))))], [(0, .box [.t (.int .i64 k), .t (.int .i64 n), .t (.str s), .t (.list 1 (ks.map T.str)), .t (.list 5 (kids.map Ob.t))])], 2000, 33⟩) (fun i => ks.length - i.1) ⟨0, by omega, by simp⟩ (Nat.le_of_ble_eq_true rfl) (by simp only [go_sem]) (by simp only [go_sem]; rfl) fun i => ?_
  obtain ⟨i, hi, ht⟩ := i
  simp only [go_sem, List.length_map]
  refine act_split (fun h => ?_) (fun h => ?_) <;> simp only [go_sem] <;> simp only [decide_eq_true_eq, decide_eq_false_iff_not] at h
  · obtain ⟨x, hx⟩ : ∃ x, ks[i]? = some x := ⟨_, List.getElem?_eq_getElem (by omega)⟩
    simp only [go_sem, List.getElem?_map, hx, List.length_map]
    refine ⟨by omega, by omega, ?_⟩
    refine act_split (fun h2 => ?_) (fun h2 => ?_) <;> simp only [go_sem]
    · unfold keyAt
      rw [firstF_hit ht (by omega) (by simp only [keyP, hx]; rw [beq_iff_eq] at h2 ⊢; exact h2.symm)]
    · refine nextK_of ⟨i + 1, by omega, all_succ ht (by simp only [keyP, hx]; rw [beq_eq_false_iff_ne] at h2 ⊢; exact fun hh => h2 hh.symm)⟩ (by simp only [go_sem]) ?_ (by dsimp only; omega)
      simp only [go_sem]
      rw [wrap64O (by omega) (by omega)]; rfl
  · unfold keyAt
    rw [firstF_none fun j hj => ht j (by omega)]
def numP (a : List It) (n : Int) (j : Nat) : Bool := match a[j]? with | some x => x.num == n | none => false
def numAt (a : List It) (n : Int) : Int := firstF (numP a n) a.length
theorem oc69 (a : List It) (r num : Int) (ha : a.length ≤ 1048576) : CS Tryd.prog false 32 [.v (docT a r), .v (.int .i64 num)] [.int .i64 (numAt a num)] [] := by
  unfold docT its
  refine CS_act tab_ok mdO Tryd.func32 rfl rfl Tryd.ntmps32 (rl := [.tmp 4]) rfl (Nat.le_of_ble_eq_true rfl) ?_
  simp only [go_sem, List.length_map]
  refine act_loop_of (md := mdO) tab_ok [1,2,5] [0] 1000 (ι := {i : Nat // i ≤ a.length ∧ ∀ j, j < i → numP a num j = false}) (fun i => ⟨[(1, .a (.c (.t (.int .i64 num)))), (2, .a (.c (.ptr 0 0))), (5, .a (.c (.t (.int .i64 i.1))))], [(0, .box [.t (.list 8 (a.map It.t)), .t (.int .i64 r)])], 1000, 22⟩) (fun i => a.length - i.1) ⟨0, by omega, by simp⟩ (Nat.le_of_ble_eq_true rfl) (by simp only [go_sem]) (by simp only [go_sem]; rfl) fun i => ?_
  obtain ⟨i, hi, ht⟩ := i
  simp only [go_sem, List.length_map]
  refine act_split (fun h => ?_) (fun h => ?_) <;> simp only [go_sem] <;> simp only [decide_eq_true_eq, decide_eq_false_iff_not] at h
  · obtain ⟨x, hx⟩ : ∃ x, a[i]? = some x := ⟨_, List.getElem?_eq_getElem (by omega)⟩
    simp only [go_sem, List.getElem?_map, hx, List.length_map, It.t_def]
    refine ⟨by omega, by omega, ?_⟩
    refine act_split (fun h2 => ?_) (fun h2 => ?_) <;> simp only [go_sem]
    · unfold numAt
      rw [firstF_hit ht (by omega) (by simp only [numP, hx, h2])]
    · refine nextK_of ⟨i + 1, by omega, all_succ ht (by simp only [numP, hx, h2])⟩ (by simp only [go_sem]) ?_ (by dsimp only; omega)
      simp only [go_sem]
      rw [wrap64O (by omega) (by omega)]; rfl
  · unfold numAt
    rw [firstF_none fun j hj => ht j (by omega)]
theorem oc97 (x : It) (num : Int) : CS Tryd.prog false 83 [.v x.t, .mb [.t (.int .i64 num)]] [.bool (x.num == num)] [[.t (.int .i64 num)]] := by
  rw [It.t_def]
  refine CS_act tab_ok mdO Tryd.func83 rfl rfl Tryd.ntmps83 (rl := [.tmp 3]) rfl (Nat.le_of_ble_eq_true rfl) ?_
  simp only [go_sem]
theorem oc96 (a : List It) (num : Int) (ha : a.length ≤ 1048576) : CS Tryd.prog false 82 [.v (its a), .clo 83 [.t (.int .i64 num)]] [.int .i64 (numAt a num)] [[.t (.int .i64 num)]] := by
  unfold its
  refine CS_act tab_ok mdO Tryd.func82 rfl rfl Tryd.ntmps82 (rl := [.tmp 4]) rfl (Nat.le_of_ble_eq_true rfl) ?_
  simp only [go_sem, List.length_map]
  refine act_loop_of (md := mdO) tab_ok [0,1,7,8] [0] 1000 (ι := {i : Nat // i ≤ a.length ∧ ∀ j, j < i → numP a num j = false}) (fun i => ⟨[(0, .a (.c (.t (.list 8 (a.map It.t))))), (1, .a (.c (.clo 83 0))), (7, .a (.c (.t (.int .i64 a.length)))), (8, .a (.c (.t (.int .i64 i.1))))], [(0, .box [.t (.int .i64 num)])], 1000, 19⟩) (fun i => a.length - i.1) ⟨0, by omega, by simp⟩ (Nat.le_of_ble_eq_true rfl) (by simp only [go_sem]) (by simp only [go_sem]; rfl) fun i => ?_
  obtain ⟨i, hi, ht⟩ := i
  simp only [go_sem, List.length_map]
  refine act_split (fun h => ?_) (fun h => ?_) <;> simp only [go_sem] <;> simp only [decide_eq_true_eq, decide_eq_false_iff_not] at h
  · obtain ⟨x, hx⟩ : ∃ x, a[i]? = some x := ⟨_, List.getElem?_eq_getElem (by omega)⟩
    have hc := oc97 x num
    rw [It.t_def] at hc
    simp only [go_sem, List.getElem?_map, hx, List.length_map, It.t_def]
    refine ⟨by omega, by omega, ?_⟩
    refine act_callE hc ?_
    simp only [go_sem]
    refine act_split (fun h2 => ?_) (fun h2 => ?_) <;> simp only [go_sem]
    · unfold numAt
      rw [firstF_hit ht (by omega) (by simp only [numP, hx, h2])]
    · refine nextK_of ⟨i + 1, by omega, all_succ ht (by simp only [numP, hx, h2])⟩ (by simp only [go_sem]) ?_ (by dsimp only; omega)
      simp only [go_sem]
      rw [wrap64O (by omega) (by omega)]; rfl
  · unfold numAt
    rw [firstF_none fun j hj => ht j (by omega)]
theorem oc72 (a : List It) (r num : Int) (ha : a.length ≤ 1048576) : CS Tryd.prog false 55 [.v (docT a r), .v (.int .i64 num)] [.int .i64 (numAt a num)] [] := by
  have hc := oc96 a num ha
  unfold docT its at *
  refine CS_act tab_ok mdO Tryd.func55 rfl rfl Tryd.ntmps55 (rl := [.tmp 4]) rfl (Nat.le_of_ble_eq_true rfl) ?_
  simp only [go_sem]
  refine act_callE hc ?_
  simp only [go_sem]
end Go.Proofs.YtbmibaopkfenbaaDoor.M

/- Contracts for DocOk, part 3: copies. No condition. -/
namespace Go.Proofs.YtbmibaopkfenbaaDoor.M
open Go Go.Proofs
set_option maxRecDepth 100000
set_option maxHeartbeats 2000000
set_option linter.unusedSimpArgs false
abbrev zObj : List C := [.t (.int .i64 0), .t (.int .i64 0), .t (.str ⟨#[]⟩), .nil 1, .nil 5]
theorem take_map_succ {α β : Type} (f : α → β) (a : List α) (i : Nat) (x : α) (hx : a[i]? = some x) : (a.take i).map f ++ [f x] = (a.take (i + 1)).map f := by
  rw [List.take_add_one, hx]; simp
theorem oc58 (k n : Int) (s : ByteArray) (ks : List ByteArray) (kids : List Ob) (h1 : ks.length ≤ 1048576) (h2 : kids.length ≤ 1048576) (hh : ∀ o ∈ kids, CS Tryd.prog false 107 [.v o.t] [o.t] []) :
    CS Tryd.prog false 107 [.v (Ob.mk k n s ks kids).t] [(Ob.mk k n s ks kids).t] [] := by
  rw [Ob.t_mk]
  refine CS_act tab_ok mdO Tryd.func107 rfl rfl Tryd.ntmps107 (rl := [.cell 2 31]) rfl (Nat.le_of_ble_eq_true rfl) ?_
  simp only [go_sem, List.length_map]
  refine act_draw_of tab_ok mix mdO ?_
  simp only [go_sem, List.length_map]
  refine ⟨by omega, drawOk_of (by kernel_rfl), ?_⟩
  refine WWE_nilbox 208 4 5 900 rfl rfl (Nat.le_of_ble_eq_true rfl) ?_
  refine act_loop_of (md := mdO) tab_ok [2,3,18,19,20] [16,128,208,900] 1000 (ι := {i : Nat // i ≤ kids.length})
    (fun i => ⟨[(2, .a (.c (.ptr 16 0))), (3, .a (.c (.ptr 208 0))), (18, .a (.c (.t (.list 5 (kids.map Ob.t))))), (19, .a (.c (.t (.int .i64 kids.length)))), (20, .a (.c (.t (.int .i64 i.1))))],
      [(16, .box zObj), (128, .arr 1 (ks.map T.str) 1), (208, .box [.t (.int .i64 k), .t (.int .i64 n), .t (.str s), .own 128 1 0 ks.length, .own 900 i.1 0 i.1]), (900, .arr 5 ((kids.take i.1).map Ob.t) i.1)], 1000, 33⟩)
    (fun i => kids.length - i.1) ⟨0, by omega⟩ (Nat.le_of_ble_eq_true rfl) (by simp only [go_sem]) (by simp only [go_sem]; simp) fun i => ?_
  obtain ⟨i, hi⟩ := i
  simp only [go_sem]
  refine act_split (fun h3 => ?_) (fun h3 => ?_) <;> simp only [go_sem] <;> simp only [decide_eq_true_eq, decide_eq_false_iff_not] at h3
  · obtain ⟨x, hx⟩ : ∃ x, kids[i]? = some x := ⟨_, List.getElem?_eq_getElem (by omega)⟩
    have hc := hh x (List.mem_of_getElem? hx)
    have ht := take_map_succ Ob.t kids i x hx
    have hlt : ((kids.take i).map Ob.t).length = i := by simp; omega
    obtain ⟨k', n', s', ks', kids'⟩ := x
    rw [Ob.t_mk] at hc ht
    simp only [go_sem, List.getElem?_map, hx, List.length_map, Ob.t_mk]
    refine ⟨by omega, by omega, ?_⟩
    refine act_draw_of tab_ok mix mdO ?_
    simp only [go_sem]
    refine act_callE hc ?_
    simp only [go_sem, hlt]
    refine ⟨by omega, drawOk_of (by kernel_rfl), ?_⟩
    refine nextK_of ⟨i + 1, by omega⟩ (by simp only [go_sem]) ?_ (by dsimp only; omega)
    simp only [go_sem]
    rw [wrap64O (by omega) (by omega), ht]; rfl
  · have : i = kids.length := by omega
    subst this
    simp
    exact ⟨List.take_of_length_le (by simp), List.take_of_length_le (by simp)⟩
theorem oc58' : ∀ o : Ob, Sm o → CS Tryd.prog false 107 [.v o.t] [o.t] []
  | .mk k n s ks kids, h => by
    cases h with
    | mk _ _ _ _ _ h1 h2 h3 => exact oc58 k n s ks kids h1 h2 fun o ho => oc58' o (h3 o ho)
  decreasing_by
  have := List.sizeOf_lt_of_mem ho
  simp only [Ob.mk.sizeOf_spec]
  omega
theorem oc54 (k n : Int) (s : ByteArray) (ks : List ByteArray) (kids : List Ob) (h1 : ks.length ≤ 1048576) (h2 : kids.length ≤ 1048576) (hh : ∀ o ∈ kids, CS Tryd.prog false 105 [.v o.t] [o.t] []) :
    CS Tryd.prog false 105 [.v (Ob.mk k n s ks kids).t] [(Ob.mk k n s ks kids).t] [] := by
  rw [Ob.t_mk]
  refine CS_act tab_ok mdO Tryd.func105 rfl rfl Tryd.ntmps105 (rl := [.cell 2 31]) rfl (Nat.le_of_ble_eq_true rfl) ?_
  simp only [go_sem, List.length_map]
  refine ⟨by omega, ?_⟩
  refine act_loop_of (md := mdO) tab_ok [1,2,3,4] [0,16,32,128] 1000 (ι := {i : Nat // i ≤ kids.length})
    (fun i => ⟨[(1, .a (.c (.ptr 0 0))), (2, .a (.c (.ptr 16 0))), (3, .a (.c (.own 128 i.1 0 i.1))), (4, .a (.c (.t (.int .i64 i.1))))],
      [(0, .box [.t (.int .i64 k), .t (.int .i64 n), .t (.str s), .own 32 1 0 ks.length, .t (.list 5 (kids.map Ob.t))]), (16, .box zObj), (32, .arr 1 (ks.map T.str) 1), (128, .arr 5 ((kids.take i.1).map Ob.t) i.1)], 1000, 30⟩)
    (fun i => kids.length - i.1) ⟨0, by omega⟩ (Nat.le_of_ble_eq_true rfl) (by simp only [go_sem]) (by simp only [go_sem]; simp) fun i => ?_
  obtain ⟨i, hi⟩ := i
  simp only [go_sem, List.length_map]
  refine act_split (fun h3 => ?_) (fun h3 => ?_) <;> simp only [go_sem] <;> simp only [decide_eq_true_eq, decide_eq_false_iff_not] at h3
  · obtain ⟨x, hx⟩ : ∃ x, kids[i]? = some x := ⟨_, List.getElem?_eq_getElem (by omega)⟩
    have hc := hh x (List.mem_of_getElem? hx)
    have ht := take_map_succ Ob.t kids i x hx
    have hlt : ((kids.take i).map Ob.t).length = i := by simp; omega
    obtain ⟨k', n', s', ks', kids'⟩ := x
    rw [Ob.t_mk] at hc ht
    simp only [go_sem, List.getElem?_map, hx, List.length_map, Ob.t_mk]
    refine ⟨by omega, by omega, ?_⟩
    refine act_callE hc ?_
    simp only [go_sem, hlt]
    refine ⟨by omega, ?_⟩
    refine nextK_of ⟨i + 1, by omega⟩ (by simp only [go_sem]) ?_ (by dsimp only; omega)
    simp only [go_sem]
    rw [wrap64O (by omega) (by omega), ht]; rfl
  · have : i = kids.length := by omega
    subst this
    simp
    exact ⟨List.take_of_length_le (by simp), List.take_of_length_le (by simp)⟩
theorem oc54' : ∀ o : Ob, Sm o → CS Tryd.prog false 105 [.v o.t] [o.t] []
  | .mk k n s ks kids, h => by
    cases h with
    | mk _ _ _ _ _ h1 h2 h3 => exact oc54 k n s ks kids h1 h2 fun o ho => oc54' o (h3 o ho)
  decreasing_by
  have := List.sizeOf_lt_of_mem ho
  simp only [Ob.mk.sizeOf_spec]
  omega
end Go.Proofs.YtbmibaopkfenbaaDoor.M

/- Contracts for DocOk, part 4: entries, items. No condition. -/
namespace Go.Proofs.YtbmibaopkfenbaaDoor.M
open Go Go.Proofs
set_option maxRecDepth 100000
set_option maxHeartbeats 2000000
set_option linter.unusedSimpArgs false
theorem atB_cases (k : Int) (ks : List ByteArray) (kl : Nat) (v : ByteArray) : atB k ks kl v = -1 ∨ ∃ i : Nat, atB k ks kl v = i ∧ i < kl ∧ k = 8 := by
  unfold atB
  split
  · exact .inl rfl
  · rename_i h
    split
    · rename_i hl
      unfold keyAt
      rcases firstF_cases (keyP ks v) ks.length with h1 | ⟨i, h1, h2, _⟩
      · exact .inl h1.1
      · exact .inr ⟨i, h2, by omega, by simpa using h⟩
    · exact .inl rfl
def entryO (k : Int) (ks : List ByteArray) (kids : List Ob) (v : ByteArray) : Option Ob := if atB k ks kids.length v < 0 then none else kids[(atB k ks kids.length v).toNat]?
def entR : Option Ob → List T
  | some o => [o.t, .bool true]
  | none => [ob0, .bool false]
theorem oc20 (k n : Int) (s : ByteArray) (ks : List ByteArray) (kids : List Ob) (v : ByteArray) (hS : Sm (.mk k n s ks kids)) : CS Tryd.prog false 80 [.v (Ob.mk k n s ks kids).t, .v (.str v)] (entR (entryO k ks kids v)) [] := by
  obtain ⟨h1, h2, h3⟩ : ks.length ≤ 1048576 ∧ kids.length ≤ 1048576 ∧ ∀ o ∈ kids, Sm o := by cases hS; exact ⟨by assumption, by assumption, by assumption⟩
  have hc := oc53 k n s ks kids v h1
  have ha := atB_cases k ks kids.length v
  unfold entryO
  generalize atB k ks kids.length v = z at hc ha ⊢
  rw [Ob.t_mk] at hc ⊢
  refine CS_act tab_ok mdO Tryd.func80 rfl rfl Tryd.ntmps80 (rl := [.cell 4 31, .tmp 5]) rfl (Nat.le_of_ble_eq_true rfl) ?_
  simp only [go_sem]
  refine act_callE hc ?_
  simp only [go_sem]
  rcases ha with rfl | ⟨i, rfl, hi, _⟩
  · simp only [go_sem, entR]
  · have e : ¬ (i : Int) < 0 := by omega
    obtain ⟨x, hx⟩ : ∃ x, kids[i]? = some x := ⟨_, List.getElem?_eq_getElem hi⟩
    have hcc := oc54' x (h3 x (List.mem_of_getElem? hx))
    obtain ⟨k', n', s', ks', kids'⟩ := x
    rw [Ob.t_mk] at hcc
    simp only [go_sem, e, List.length_map, List.getElem?_map, hx, Ob.t_mk, entR]
    refine ⟨by omega, by omega, ?_⟩
    refine act_callE hcc ?_
    simp only [go_sem]
theorem oc22 (k n : Int) (s : ByteArray) (ks : List ByteArray) (kids : List Ob) (v : ByteArray) (hS : Sm (.mk k n s ks kids)) : CS Tryd.prog false 81 [.v (Ob.mk k n s ks kids).t, .v (.str v)] (entR (entryO k ks kids v)) [] := by
  obtain ⟨h1, h2, h3⟩ : ks.length ≤ 1048576 ∧ kids.length ≤ 1048576 ∧ ∀ o ∈ kids, Sm o := by cases hS; exact ⟨by assumption, by assumption, by assumption⟩
  have hc := oc57 ks v h1
  have ha := firstF_cases (keyP ks v) ks.length
  unfold entryO atB
  unfold keyAt at *
  generalize firstF (keyP ks v) ks.length = z at hc ha ⊢
  rw [Ob.t_mk]
  refine CS_act tab_ok mdO Tryd.func81 rfl rfl Tryd.ntmps81 (rl := [.cell 4 31, .tmp 5]) rfl (Nat.le_of_ble_eq_true rfl) ?_
  simp only [go_sem]
  refine act_callE hc ?_
  simp only [go_sem, bne]
  refine act_split (fun g => ?_) (fun g => ?_) <;> simp only [go_sem, g, List.length_map, bne]
  · refine act_split (fun g2 => ?_) (fun g2 => ?_) <;> simp only [go_sem, g2, bne]
    · have e0 : ks.length = kids.length := by simp at g2; omega
      rw [if_pos e0]
      rcases ha with ⟨rfl, _⟩ | ⟨i, hi, rfl, _⟩
      · simp only [go_sem, entR]
      · have e : ¬ (i : Int) < 0 := by omega
        obtain ⟨x, hx⟩ : ∃ x, kids[i]? = some x := ⟨_, List.getElem?_eq_getElem (by omega)⟩
        have hcc := oc58' x (h3 x (List.mem_of_getElem? hx))
        obtain ⟨k', n', s', ks', kids'⟩ := x
        rw [Ob.t_mk] at hcc
        simp only [go_sem, e, List.length_map, List.getElem?_map, hx, Ob.t_mk, entR]
        refine ⟨by omega, by omega, ?_⟩
        refine act_callE hcc ?_
        simp only [go_sem]
    · have e0 : ¬ ks.length = kids.length := by simp at g2; omega
      rw [if_neg e0]
      simp only [go_sem, entR]
  · simp only [entR]
abbrev lenS : ByteArray := ⟨#[76, 101, 110, 103, 116, 104]⟩
def lenI (x : It) : Int := match entryO x.k x.ks x.kids lenS with | some (.mk k n _ _ _) => if k == 4 then n else -1 | none => -1
theorem oc68 (x : It) (hS : Sm x.o) : CS Tryd.prog false 52 [.v x.t] [.int .i64 (lenI x)] [] := by
  have hc := oc20 x.k x.n x.s x.ks x.kids lenS hS
  unfold lenI
  generalize entryO x.k x.ks x.kids lenS = e at hc ⊢
  rw [Ob.t_mk] at hc
  rw [It.t_def]
  refine CS_act tab_ok mdO Tryd.func52 rfl rfl Tryd.ntmps52 (rl := [.tmp 2]) rfl (Nat.le_of_ble_eq_true rfl) ?_
  simp only [go_sem]
  refine act_callE hc ?_
  cases e with
  | none => simp only [go_sem, entR]
  | some o =>
    obtain ⟨k', n', s', ks', kids'⟩ := o
    simp only [go_sem, entR, Ob.t_mk, bne]
    refine act_split_notO (fun g => ?_) (fun g => ?_) <;> simp only [go_sem, g]
def dataB (x : It) : Bool := if x.hd then (match entryO x.k x.ks x.kids lenS with | some (.mk k n _ _ _) => k == 4 && decide (n = (x.data.size : Int)) | none => false) else x.data.toList == (⟨#[]⟩ : ByteArray).toList
def itB (x : It) : Bool := inBO x.num 1 99 && decide (cntO x.o 0 ≤ 120) && dataB x
theorem oc71 (x : It) (hT : Tn x.o) : CS Tryd.prog false 54 [.v x.t] [.bool (itB x)] [] := by
  have hc := oc22 x.k x.n x.s x.ks x.kids lenS hT.sm
  have ho := oc27 x.o hT
  unfold itB dataB
  generalize decide (cntO x.o 0 ≤ 120) = ok at ho ⊢
  generalize entryO x.k x.ks x.kids lenS = e at hc ⊢
  rw [Ob.t_mk] at hc ho
  rw [It.t_def]
  refine CS_act tab_ok mdO Tryd.func54 rfl rfl Tryd.ntmps54 (rl := [.tmp 2]) rfl (Nat.le_of_ble_eq_true rfl) ?_
  simp only [go_sem]
  refine act_callE (oc45 _ _ _) ?_
  simp only [go_sem]
  refine act_split (fun g => ?_) (fun g => ?_) <;> simp only [go_sem, g]
  refine act_callE ho ?_
  simp only [go_sem]
  refine act_split_notO (fun g2 => ?_) (fun g2 => ?_) <;> simp only [go_sem, g2]
  refine act_split_notO (fun g3 => ?_) (fun g3 => ?_) <;> simp only [go_sem, g3]
  refine act_callE hc ?_
  cases e with
  | none => simp only [go_sem, entR]
  | some o =>
    obtain ⟨k', n', s', ks', kids'⟩ := o
    simp only [go_sem, entR, Ob.t_mk]
    refine act_split (fun g4 => ?_) (fun g4 => ?_) <;> simp only [go_sem, g4]
    have e : (n' == (x.data.size : Int)) = decide (n' = (x.data.size : Int)) := by rw [Bool.eq_iff_iff]; simp
    rw [e]
end Go.Proofs.YtbmibaopkfenbaaDoor.M

/- Contracts for DocOk, part 5: DocOk. No condition. -/
namespace Go.Proofs.YtbmibaopkfenbaaDoor.M
open Go Go.Proofs
set_option maxRecDepth 100000
set_option maxHeartbeats 2000000
set_option linter.unusedSimpArgs false
def itP (a : List It) (i : Nat) : Bool :=
  match a[i]? with
  | some x => itB x && !(decide (i > 0) && match a[i - 1]? with | some y => decide (y.num ≥ x.num) | none => false)
  | none => true
def itsB (a : List It) : Bool := (List.range a.length).all (itP a)
theorem itsB_no {a : List It} {i : Nat} (hi : i < a.length) (h : itP a i = false) : itsB a = false := by
  unfold itsB
  rw [List.all_eq_false]
  exact ⟨i, List.mem_range.2 hi, by simp [h]⟩
theorem itsB_yes {a : List It} (h : ∀ j, j < a.length → itP a j = true) : itsB a = true := by
  unfold itsB
  exact List.all_eq_true.2 fun j hj => h j (List.mem_range.1 hj)
def rootB (a : List It) (r : Int) : Bool := decide (numAt a r ≥ 0) && match a[(numAt a r).toNat]? with | some x => x.k == 8 | none => false
def docB (a : List It) (r : Int) : Bool := decide ((a.length : Int) ≤ 30) && itsB a && rootB a r
theorem oc31 (a : List It) (r : Int) (ha : a.length ≤ 1048576) (hT : ∀ o ∈ a, Tn o.o) : CS Tryd.prog false 35 [.v (docT a r)] [.bool (docB a r)] [] := by
  have hroot := oc72 a r r ha
  have hcase := firstF_cases (numP a r) a.length
  unfold docT its at *
  refine CS_act tab_ok mdO Tryd.func35 rfl rfl Tryd.ntmps35 (rl := [.tmp 2]) rfl (Nat.le_of_ble_eq_true rfl) ?_
  simp only [go_sem, List.length_map]
  refine act_loop_of (md := mdO) tab_ok [1,7,8,9] [0] 1000 (ι := {i : Nat // i ≤ a.length ∧ ∀ j, j < i → itP a j = true}) (fun i => ⟨[(1, .a (.c (.ptr 0 0))), (7, .a (.c (.t (.list 8 (a.map It.t))))), (8, .a (.c (.t (.int .i64 a.length)))), (9, .a (.c (.t (.int .i64 i.1))))], [(0, .box [.t (.list 8 (a.map It.t)), .t (.int .i64 r)])], 1000, 56⟩) (fun i => a.length - i.1) ⟨0, by omega, by simp⟩ (Nat.le_of_ble_eq_true rfl) (by simp only [go_sem]) (by simp only [go_sem]; rfl) fun i => ?_
  obtain ⟨i, hi, ht⟩ := i
  simp only [go_sem, List.length_map]
  refine act_split (fun h => ?_) (fun h => ?_) <;> simp only [go_sem] <;> simp only [decide_eq_true_eq, decide_eq_false_iff_not] at h
  · obtain ⟨x, hx⟩ : ∃ x, a[i]? = some x := ⟨_, List.getElem?_eq_getElem (by omega)⟩
    have hc := oc71 x (hT x (List.mem_of_getElem? hx))
    rw [It.t_def] at hc
    simp only [go_sem, List.getElem?_map, hx, List.length_map, It.t_def]
    refine ⟨by omega, by omega, ?_⟩
    refine act_draw_of tab_ok mix mdO ?_
    simp only [go_sem]
    refine act_callE hc ?_
    simp only [go_sem]
    refine act_split (fun h2 => ?_) (fun h2 => ?_) <;> simp only [go_sem, h2]
    · refine act_split (fun h3 => ?_) (fun h3 => ?_) <;> simp only [go_sem, h3] <;> simp only [decide_eq_true_eq, decide_eq_false_iff_not] at h3
      · obtain ⟨y, hy⟩ : ∃ y, a[i - 1]? = some y := ⟨_, List.getElem?_eq_getElem (by omega)⟩
        have e : ((i : Int) - 1).toNat = i - 1 := by omega
        simp only [go_sem, wrap64O (n := (i : Int) - 1) (by omega) (by omega), e, List.getElem?_map, hx, hy, List.length_map, It.t_def]
        refine ⟨by omega, by omega, drawOk_of (by kernel_rfl), ?_⟩
        refine act_split (fun h4 => ?_) (fun h4 => ?_) <;> simp only [go_sem, h4]
        · have hno := itsB_no (a := a) (i := i) (by omega) (by simp only [itP, hx, hy, h2, h4]; simp; omega)
          simp only [docB, hno, Bool.and_false, Bool.false_and]
        · refine nextK_of ⟨i + 1, by omega, all_succ ht (by simp only [itP, hx, hy, h2, h4]; simp)⟩ (by simp only [go_sem]) ?_ (by dsimp only; omega)
          simp only [go_sem]
          rw [wrap64O (by omega) (by omega)]; rfl
      · refine ⟨drawOk_of (by kernel_rfl), ?_⟩
        refine nextK_of ⟨i + 1, by omega, all_succ ht (by simp only [itP, hx, h2]; simp; omega)⟩ (by simp only [go_sem]) ?_ (by dsimp only; omega)
        simp only [go_sem]
        rw [wrap64O (by omega) (by omega)]; rfl
    · refine ⟨drawOk_of (by kernel_rfl), ?_⟩
      have hno := itsB_no (a := a) (i := i) (by omega) (by simp only [itP, hx, h2]; simp)
      simp only [docB, hno, Bool.and_false, Bool.false_and]
  · have hy := itsB_yes (a := a) fun j hj => ht j (by omega)
    refine act_callE hroot ?_
    simp only [go_sem, docB, rootB, hy, List.length_map]
    refine act_split (fun h5 => ?_) (fun h5 => ?_) <;> simp only [go_sem, h5]
    unfold numAt
    rcases hcase with ⟨h6, _⟩ | ⟨m, hm, h6, _⟩
    · rw [h6]; simp only [go_sem]
    · rw [h6]
      obtain ⟨x, hx⟩ : ∃ x, a[m]? = some x := ⟨_, List.getElem?_eq_getElem hm⟩
      have e : decide ((m : Int) ≥ 0) = true := by simp
      simp only [go_sem, e, List.length_map, List.getElem?_map, hx, It.t_def]
      exact ⟨by omega, by omega⟩
end Go.Proofs.YtbmibaopkfenbaaDoor.M

/- Contracts for DocOk, part 6: the reference's DocOk; the law. No condition. -/
namespace Go.Proofs.YtbmibaopkfenbaaDoor.M
open Go Go.Proofs
set_option maxRecDepth 100000
set_option maxHeartbeats 2000000
set_option linter.unusedSimpArgs false
theorem data_len (x : It) : dataB x = (if x.hd then x.k == 8 && !(lenI x != (x.data.size : Int)) else x.data.toList == (⟨#[]⟩ : ByteArray).toList) := by
  unfold dataB
  split
  · unfold lenI entryO
    rcases atB_cases x.k x.ks x.kids.length lenS with h | ⟨i, h, hi, hk⟩
    · rw [h, if_pos (by omega)]
      have : ((-1 : Int) != (x.data.size : Int)) = true := by simp
      simp only [this]; simp
    · rw [h, if_neg (by omega)]
      obtain ⟨o, ho⟩ : ∃ o, x.kids[i]? = some o := ⟨_, List.getElem?_eq_getElem hi⟩
      obtain ⟨k', n', s', ks', kids'⟩ := o
      simp only [Int.toNat_natCast, ho, hk]
      by_cases h4 : k' = 4
      · subst h4
        by_cases h5 : n' = (x.data.size : Int)
        · simp [h5]
        · simp [h5]
      · have : ((-1 : Int) != (x.data.size : Int)) = true := by simp
        simp [h4, this]
  · rfl
theorem oc29 (a : List It) (r : Int) (ha : a.length ≤ 1048576) (hT : ∀ o ∈ a, Tn o.o) : CS Tryd.prog false 30 [.v (docT a r)] [.bool (docB a r)] [] := by
  have hroot := oc69 a r r ha
  have hcase := firstF_cases (numP a r) a.length
  unfold docT its at *
  refine CS_act tab_ok mdO Tryd.func30 rfl rfl Tryd.ntmps30 (rl := [.tmp 2]) rfl (Nat.le_of_ble_eq_true rfl) ?_
  simp only [go_sem, List.length_map]
  refine act_split (fun h0 => ?_) (fun h0 => ?_) <;> simp only [go_sem] <;> simp only [decide_eq_true_eq, decide_eq_false_iff_not] at h0
  · have : decide ((a.length : Int) ≤ 30) = false := by simp; omega
    simp only [docB, this, Bool.false_and]
  have h30 : decide ((a.length : Int) ≤ 30) = true := by simp; omega
  refine act_loop_of (md := mdO) tab_ok [1,3] [0] 1000 (ι := {i : Nat // i ≤ a.length ∧ ∀ j, j < i → itP a j = true}) (fun i => ⟨[(1, .a (.c (.ptr 0 0))), (3, .a (.c (.t (.int .i64 i.1))))], [(0, .box [.t (.list 8 (a.map It.t)), .t (.int .i64 r)])], 1000, 90⟩) (fun i => a.length - i.1) ⟨0, by omega, by simp⟩ (Nat.le_of_ble_eq_true rfl) (by simp only [go_sem]) (by simp only [go_sem]; rfl) fun i => ?_
  obtain ⟨i, hi, ht⟩ := i
  simp only [go_sem, List.length_map]
  refine act_split (fun h => ?_) (fun h => ?_) <;> simp only [go_sem] <;> simp only [decide_eq_true_eq, decide_eq_false_iff_not] at h
  · obtain ⟨x, hx⟩ : ∃ x, a[i]? = some x := ⟨_, List.getElem?_eq_getElem (by omega)⟩
    have hTx := hT x (List.mem_of_getElem? hx)
    have ho := oc26 x.o hTx
    have hl := fun b => oc68 ⟨x.num, x.k, x.n, x.s, x.ks, x.kids, b, x.data⟩ hTx.sm
    have hd := data_len x
    have no : ∀ b, itP a i = b → b = false → itsB a = false := fun b h1 h2 => itsB_no (a := a) (i := i) (by omega) (by rw [h1, h2])
    have hP : itP a i = (inBO x.num 1 99 && decide (cntO x.o 0 ≤ 120) && (if x.hd then x.k == 8 && !(lenI x != (x.data.size : Int)) else x.data.toList == (⟨#[]⟩ : ByteArray).toList) && !(decide (i > 0) && match a[i - 1]? with | some y => decide (y.num ≥ x.num) | none => false)) := by
      first | (simp only [itP, hx, itB, hd]; done) | (simp only [itP, hx, itB, hd]; rfl)
    generalize decide (cntO x.o 0 ≤ 120) = ok at ho hP
    have hli : ∀ b, lenI ⟨x.num, x.k, x.n, x.s, x.ks, x.kids, b, x.data⟩ = lenI x := fun _ => rfl
    simp only [hli, It.t_def] at hl
    generalize lenI x = li at hl hP
    rw [Ob.t_mk] at ho
    have hle : (i : Int) < a.length := by omega
    have hw1 := wrap64O (n := (i : Int) + 1) (by omega) (by omega)
    rcases Nat.eq_zero_or_pos i with hi0 | hpos
    · have hg : decide ((i : Int) > 0) = false := by simp; omega
      have hg' : decide (i > 0) = false := by simp; omega
      simp only [hg'] at hP
      simp only [go_sem, List.getElem?_map, hx, List.length_map, It.t_def]
      refine ⟨by omega, by omega, ?_⟩
      refine act_draw_of tab_ok mix mdO ?_
      simp only [go_sem]
      refine act_callE (oc44 _ _ _) ?_
      simp only [go_sem]
      repeat' (first
        | (refine act_callE ho ?_; simp only [go_sem])
        | (refine act_callE (hl _) ?_; simp only [go_sem])
        | (refine ⟨drawOk_of (by kernel_rfl), ?_⟩)
        | (refine act_draw_of tab_ok mix mdO ?_; simp only [go_sem, bne])
        | (refine act_split_notO (fun g => ?_) (fun g => ?_) <;> simp only [go_sem, g, hg, List.getElem?_map, hx, List.length_map, It.t_def])
        | (refine act_split (fun g => ?_) (fun g => ?_) <;> simp only [go_sem, g, hg, List.getElem?_map, hx, List.length_map, It.t_def])
        | (refine And.intro ?_ (And.intro ?_ ?_); omega; omega))
      all_goals first
        | (have h9 := no _ hP (by clear hP ho hl hroot hcase no ht; first | (simp [*]; done) | (simp_all; done)); simp only [docB, h9, Bool.and_false, Bool.false_and]; done)
        | (have h9 : itP a i = true := by rw [hP]; clear hP ho hl hroot hcase no ht; first | (simp [*]; done) | (simp_all; done)
           refine nextK_of ⟨i + 1, by omega, all_succ ht h9⟩ (by simp only [go_sem]) ?_ (by dsimp only; omega)
           simp only [go_sem]
           rw [hw1]; rfl)
    · obtain ⟨y, hy⟩ : ∃ y, a[i - 1]? = some y := ⟨_, List.getElem?_eq_getElem (by omega)⟩
      have e : ((i : Int) - 1).toNat = i - 1 := by omega
      have hw := wrap64O (n := (i : Int) - 1) (by omega) (by omega)
      have hg : decide ((i : Int) > 0) = true := by simp; omega
      have hg' : decide (i > 0) = true := by simp; omega
      simp only [hg', hy] at hP
      simp only [go_sem, List.getElem?_map, hx, List.length_map, It.t_def]
      refine ⟨by omega, by omega, ?_⟩
      refine act_draw_of tab_ok mix mdO ?_
      simp only [go_sem]
      refine act_callE (oc44 _ _ _) ?_
      simp only [go_sem]
      repeat' (first
        | (refine act_callE ho ?_; simp only [go_sem])
        | (refine act_callE (hl _) ?_; simp only [go_sem])
        | (refine ⟨drawOk_of (by kernel_rfl), ?_⟩)
        | (refine act_draw_of tab_ok mix mdO ?_; simp only [go_sem, bne])
        | (refine act_split_notO (fun g => ?_) (fun g => ?_) <;> simp only [go_sem, g, hg, hw, e, hy, List.getElem?_map, hx, List.length_map, It.t_def])
        | (refine act_split (fun g => ?_) (fun g => ?_) <;> simp only [go_sem, g, hg, hw, e, hy, List.getElem?_map, hx, List.length_map, It.t_def])
        | (refine And.intro ?_ (And.intro ?_ ?_); omega; omega))
      all_goals first
        | (have h9 := no _ hP (by clear hP ho hl hroot hcase no ht; first | (simp [*]; done) | (simp_all; done)); simp only [docB, h9, Bool.and_false, Bool.false_and]; done)
        | (have h9 : itP a i = true := by rw [hP]; clear hP ho hl hroot hcase no ht; first | (simp [*]; done) | (simp_all; done)
           refine nextK_of ⟨i + 1, by omega, all_succ ht h9⟩ (by simp only [go_sem]) ?_ (by dsimp only; omega)
           simp only [go_sem]
           rw [hw1]; rfl)
  · have hy := itsB_yes (a := a) fun j hj => ht j (by omega)
    refine act_callE hroot ?_
    simp only [go_sem, docB, rootB, hy, List.length_map, h30]
    unfold numAt
    rcases hcase with ⟨h6, _⟩ | ⟨m, hm, h6, _⟩
    · rw [h6]; simp only [go_sem]
    · rw [h6]
      obtain ⟨x, hx⟩ : ∃ x, a[m]? = some x := ⟨_, List.getElem?_eq_getElem hm⟩
      have e : decide ((m : Int) ≥ 0) = true := by simp
      simp only [go_sem, e, List.length_map, List.getElem?_map, hx, It.t_def]
      exact ⟨by omega, by omega⟩
end Go.Proofs.YtbmibaopkfenbaaDoor.M
