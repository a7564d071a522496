/- The types of the program, as a walk asks them. No condition. -/
import Derived.Test.YtlnmljmeahknaaaGreatChecked
import Derived.Test.YtlnmljmeahknaaaGreatK2
namespace Go.Proofs.YtlnmljmeahknaaaGreat
set_option linter.unusedSimpArgs false
set_option linter.unusedVariables false
set_option maxRecDepth 100000
open Go Go.Proofs Go.Vc
def tys : List (TypeId × TyI) := [
  (1, ⟨true, .other, false, 1, [.nilFunc]⟩),
  (2, ⟨true, (.int .i64), false, 1, [.int .i64 0]⟩),
  (3, ⟨true, (.int .i64), false, 1, [.int .i64 0]⟩),
  (4, ⟨true, .bool, false, 1, [.bool false]⟩),
  (5, ⟨true, (.int .u8), false, 1, [.int .u8 0]⟩),
  (6, ⟨true, (.int .u8), false, 1, [.int .u8 0]⟩),
  (7, ⟨true, (.struct [(0, 1, false), (1, 1, false), (2, 1, false), (3, 1, false)]), true, 4, [.int .i64 0, .int .i64 0, .bool false, .int .u8 0]⟩),
  (8, ⟨true, (.struct [(0, 1, false), (1, 1, false), (2, 1, false), (3, 1, false)]), true, 4, [.int .i64 0, .int .i64 0, .bool false, .int .u8 0]⟩),
  (9, ⟨true, .str, false, 1, [.string ⟨#[]⟩]⟩),
  (10, ⟨true, .str, false, 1, [.string ⟨#[]⟩]⟩),
  (11, ⟨true, .str, false, 1, [.string ⟨#[]⟩]⟩),
  (12, ⟨true, (.int .u64), false, 1, [.int .u64 0]⟩),
  (13, ⟨true, (.struct [(0, 1, false), (1, 1, false)]), true, 2, [.string ⟨#[]⟩, .int .u64 0]⟩),
  (14, ⟨true, (.struct [(0, 1, false), (1, 1, false)]), true, 2, [.string ⟨#[]⟩, .int .u64 0]⟩),
  (15, ⟨true, .other, false, 1, [.pointer none]⟩),
  (16, ⟨true, .other, false, 1, [.pointer none]⟩),
  (17, ⟨true, .other, false, 1, [.pointer none]⟩),
  (18, ⟨true, (.struct [(0, 1, false)]), true, 1, [.pointer none]⟩),
  (19, ⟨true, (.struct [(0, 1, false)]), true, 1, [.pointer none]⟩),
  (20, ⟨true, .other, false, 1, [.nilIface]⟩),
  (21, ⟨true, (.int .i32), false, 1, [.int .i32 0]⟩),
  (22, ⟨true, (.slice 3 1 8 false [.int .i64 0]), false, 1, [.slice none 0 0]⟩),
  (23, ⟨true, (.slice 65 1 24 false [.slice none 0 0]), false, 1, [.slice none 0 0]⟩),
  (24, ⟨true, (.struct [(0, 1, false), (1, 1, false), (2, 1, false), (3, 1, false)]), true, 4, [.int .i64 0, .slice none 0 0, .slice none 0 0, .slice none 0 0]⟩),
  (25, ⟨true, (.struct [(0, 1, false), (1, 1, false), (2, 1, false), (3, 1, false)]), true, 4, [.int .i64 0, .slice none 0 0, .slice none 0 0, .slice none 0 0]⟩),
  (26, ⟨true, (.slice 22 1 24 false [.slice none 0 0]), false, 1, [.slice none 0 0]⟩),
  (27, ⟨true, (.slice 51 1 24 false [.slice none 0 0]), false, 1, [.slice none 0 0]⟩),
  (28, ⟨true, (.struct [(0, 1, false), (1, 1, false), (2, 1, false), (3, 1, false)]), true, 4, [.slice none 0 0, .slice none 0 0, .slice none 0 0, .slice none 0 0]⟩),
  (29, ⟨true, (.struct [(0, 1, false), (1, 1, false), (2, 1, false), (3, 1, false)]), true, 4, [.slice none 0 0, .slice none 0 0, .slice none 0 0, .slice none 0 0]⟩),
  (30, ⟨true, (.struct [(0, 4, true), (4, 4, true), (8, 1, false), (9, 1, false), (10, 1, false)]), true, 11, [.int .i64 0, .slice none 0 0, .slice none 0 0, .slice none 0 0, .slice none 0 0, .slice none 0 0, .slice none 0 0, .slice none 0 0, .int .i64 0, .int .i64 0, .int .i64 0]⟩),
  (31, ⟨true, (.struct [(0, 4, true), (4, 4, true), (8, 1, false), (9, 1, false), (10, 1, false)]), true, 11, [.int .i64 0, .slice none 0 0, .slice none 0 0, .slice none 0 0, .slice none 0 0, .slice none 0 0, .slice none 0 0, .slice none 0 0, .int .i64 0, .int .i64 0, .int .i64 0]⟩),
  (32, ⟨true, .other, false, 1, [.nilFunc]⟩),
  (33, ⟨true, .other, false, 1, [.nilFunc]⟩),
  (34, ⟨true, .other, false, 1, [.nilFunc]⟩),
  (36, ⟨true, .other, false, 1, [.nilFunc]⟩),
  (37, ⟨true, .other, false, 1, [.nilFunc]⟩),
  (38, ⟨true, .other, false, 1, [.nilFunc]⟩),
  (39, ⟨true, .other, false, 1, [.nilFunc]⟩),
  (40, ⟨true, .other, false, 1, [.nilFunc]⟩),
  (41, ⟨true, .other, false, 1, [.nilFunc]⟩),
  (42, ⟨true, .other, false, 1, [.nilFunc]⟩),
  (43, ⟨true, .other, false, 1, [.nilFunc]⟩),
  (44, ⟨true, .other, false, 1, [.nilFunc]⟩),
  (45, ⟨true, (.int .i64), false, 1, [.int .i64 0]⟩),
  (47, ⟨true, .other, false, 1, [.nilFunc]⟩),
  (48, ⟨true, .other, false, 1, [.nilFunc]⟩),
  (49, ⟨true, .other, false, 1, [.nilFunc]⟩),
  (50, ⟨true, .other, false, 1, [.nilFunc]⟩),
  (51, ⟨true, (.slice 78 2 16 true [.int .i64 0, .int .i64 0]), false, 1, [.slice none 0 0]⟩),
  (52, ⟨true, .other, false, 1, [.nilIface]⟩),
  (53, ⟨true, .other, false, 1, [.nilIface]⟩),
  (55, ⟨true, .other, false, 1, [.nilFunc]⟩),
  (56, ⟨true, .other, false, 1, [.nilFunc]⟩),
  (57, ⟨true, (.struct [(0, 4, true), (4, 4, true), (8, 1, false), (9, 1, false)]), true, 10, [.int .i64 0, .slice none 0 0, .slice none 0 0, .slice none 0 0, .slice none 0 0, .slice none 0 0, .slice none 0 0, .slice none 0 0, .int .i64 0, .int .i64 0]⟩),
  (58, ⟨true, (.struct [(0, 4, true), (4, 4, true), (8, 1, false), (9, 1, false)]), true, 10, [.int .i64 0, .slice none 0 0, .slice none 0 0, .slice none 0 0, .slice none 0 0, .slice none 0 0, .slice none 0 0, .slice none 0 0, .int .i64 0, .int .i64 0]⟩),
  (59, ⟨true, .other, false, 1, [.nilFunc]⟩),
  (60, ⟨true, .other, false, 1, [.nilFunc]⟩),
  (61, ⟨true, .other, false, 1, [.nilFunc]⟩),
  (62, ⟨true, (.slice 53 1 16 false [.nilIface]), false, 1, [.slice none 0 0]⟩),
  (63, ⟨true, .other, false, 1, [.nilFunc]⟩),
  (64, ⟨true, .other, false, 1, [.nilFunc]⟩),
  (65, ⟨true, (.slice 68 7 88 true [.int .i64 0, .int .i64 0, .int .i64 0, .slice none 0 0, .slice none 0 0, .bool false, .int .i64 0]), false, 1, [.slice none 0 0]⟩),
  (66, ⟨true, (.slice 72 3 24 true [.int .i64 0, .int .i64 0, .int .i64 0]), false, 1, [.slice none 0 0]⟩),
  (67, ⟨true, (.struct [(0, 1, false), (1, 1, false), (2, 1, false), (3, 1, false), (4, 1, false), (5, 1, false), (6, 1, false)]), true, 7, [.int .i64 0, .int .i64 0, .int .i64 0, .slice none 0 0, .slice none 0 0, .bool false, .int .i64 0]⟩),
  (68, ⟨true, (.struct [(0, 1, false), (1, 1, false), (2, 1, false), (3, 1, false), (4, 1, false), (5, 1, false), (6, 1, false)]), true, 7, [.int .i64 0, .int .i64 0, .int .i64 0, .slice none 0 0, .slice none 0 0, .bool false, .int .i64 0]⟩),
  (69, ⟨true, .other, false, 1, [.nilFunc]⟩),
  (70, ⟨true, .other, false, 1, [.nilFunc]⟩),
  (71, ⟨true, (.struct [(0, 1, false), (1, 1, false), (2, 1, false)]), true, 3, [.int .i64 0, .int .i64 0, .int .i64 0]⟩),
  (72, ⟨true, (.struct [(0, 1, false), (1, 1, false), (2, 1, false)]), true, 3, [.int .i64 0, .int .i64 0, .int .i64 0]⟩),
  (73, ⟨true, .other, false, 1, [.nilFunc]⟩),
  (74, ⟨true, .other, false, 1, [.nilFunc]⟩),
  (75, ⟨true, .other, false, 1, [.nilFunc]⟩),
  (76, ⟨true, .other, false, 1, [.nilFunc]⟩),
  (77, ⟨true, (.struct [(0, 1, false), (1, 1, false)]), true, 2, [.int .i64 0, .int .i64 0]⟩),
  (78, ⟨true, (.struct [(0, 1, false), (1, 1, false)]), true, 2, [.int .i64 0, .int .i64 0]⟩),
  (79, ⟨true, .other, false, 1, [.nilFunc]⟩),
  (80, ⟨true, .other, false, 1, [.nilFunc]⟩),
  (81, ⟨true, .other, false, 1, [.nilFunc]⟩),
  (82, ⟨true, .other, false, 1, [.nilFunc]⟩),
  (84, ⟨true, .other, false, 1, [.nilFunc]⟩),
  (85, ⟨true, (.int .i64), false, 1, [.int .i64 0]⟩),
  (86, ⟨true, (.struct [(0, 1, false), (1, 1, false)]), true, 2, [.int .i64 0, .int .i64 0]⟩),
  (87, ⟨true, (.struct [(0, 1, false), (1, 1, false)]), true, 2, [.int .i64 0, .int .i64 0]⟩),
  (88, ⟨true, .other, false, 1, [.nilFunc]⟩),
  (89, ⟨true, .other, false, 1, [.nilFunc]⟩),
  (90, ⟨true, .other, false, 1, [.nilFunc]⟩),
  (91, ⟨true, .other, false, 1, [.nilFunc]⟩),
  (92, ⟨true, .other, false, 1, [.nilFunc]⟩),
  (93, ⟨true, .other, false, 1, [.nilFunc]⟩),
  (94, ⟨true, .other, false, 1, [.nilFunc]⟩),
  (96, ⟨true, .other, false, 1, [.nilFunc]⟩),
  (97, ⟨true, .other, false, 1, [.nilFunc]⟩),
  (98, ⟨true, .other, false, 1, [.nilFunc]⟩),
  (100, ⟨true, .other, false, 1, [.nilFunc]⟩),
  (101, ⟨true, .other, false, 1, [.nilFunc]⟩),
  (102, ⟨true, .other, false, 1, [.nilFunc]⟩),
  (103, ⟨true, .other, false, 1, [.nilFunc]⟩),
  (104, ⟨true, .other, false, 1, [.nilFunc]⟩),
  (106, ⟨true, .other, false, 1, [.nilFunc]⟩),
  (107, ⟨true, (.struct [(0, 1, false), (1, 1, false), (2, 1, false), (3, 1, false), (4, 1, false), (5, 1, false)]), true, 6, [.bool false, .bool false, .bool false, .bool false, .bool false, .bool false]⟩),
  (108, ⟨true, (.struct [(0, 1, false), (1, 1, false), (2, 1, false), (3, 1, false), (4, 1, false), (5, 1, false)]), true, 6, [.bool false, .bool false, .bool false, .bool false, .bool false, .bool false]⟩),
  (110, ⟨true, .other, false, 1, [.nilFunc]⟩),
  (111, ⟨true, .other, false, 1, [.nilFunc]⟩),
  (112, ⟨true, .other, false, 1, [.nilFunc]⟩),
  (113, ⟨true, .other, false, 1, [.map none]⟩),
  (114, ⟨true, .other, false, 1, [.nilFunc]⟩),
  (115, ⟨true, (.struct [(0, 1, false), (1, 1, false)]), true, 2, [.int .i64 0, .nilFunc]⟩),
  (116, ⟨true, (.struct [(0, 1, false), (1, 1, false)]), true, 2, [.int .i64 0, .nilFunc]⟩),
  (118, ⟨true, .other, false, 1, [.nilFunc]⟩),
  (119, ⟨true, (.array 15 2 true), true, 30, [.int .i64 0, .nilFunc, .int .i64 0, .nilFunc, .int .i64 0, .nilFunc, .int .i64 0, .nilFunc, .int .i64 0, .nilFunc, .int .i64 0, .nilFunc, .int .i64 0, .nilFunc, .int .i64 0, .nilFunc, .int .i64 0, .nilFunc, .int .i64 0, .nilFunc, .int .i64 0, .nilFunc, .int .i64 0, .nilFunc, .int .i64 0, .nilFunc, .int .i64 0, .nilFunc, .int .i64 0, .nilFunc]⟩),
  (120, ⟨true, (.struct [(0, 1, false), (1, 1, false), (2, 1, false), (3, 1, false)]), true, 4, [.pointer none, .pointer none, .pointer none, .string ⟨#[]⟩]⟩),
  (121, ⟨true, (.struct [(0, 1, false), (1, 1, false), (2, 1, false), (3, 1, false)]), true, 4, [.pointer none, .pointer none, .pointer none, .string ⟨#[]⟩]⟩),
  (122, ⟨true, (.array 0 1 false), true, 0, []⟩),
  (123, ⟨true, (.struct [(0, 0, true)]), true, 0, []⟩),
  (124, ⟨true, (.struct [(0, 0, true)]), true, 0, []⟩),
  (125, ⟨true, .other, false, 1, [.nilFunc]⟩),
  (126, ⟨true, (.int .u32), false, 1, [.int .u32 0]⟩),
  (127, ⟨true, (.int .u8), false, 1, [.int .u8 0]⟩),
  (128, ⟨true, (.int .u8), false, 1, [.int .u8 0]⟩),
  (129, ⟨true, .other, false, 1, [.nilFunc]⟩),
  (130, ⟨true, .other, false, 1, [.pointer none]⟩),
  (131, ⟨true, (.int .i32), false, 1, [.int .i32 0]⟩),
  (132, ⟨true, (.int .i32), false, 1, [.int .i32 0]⟩),
  (133, ⟨true, (.struct [(0, 1, false), (1, 1, false), (2, 1, false), (3, 1, false), (4, 1, false), (5, 1, false), (6, 1, false), (7, 1, false), (8, 1, false), (9, 1, false), (10, 1, false)]), true, 11, [.int .u64 0, .int .u64 0, .int .u32 0, .int .u8 0, .int .u8 0, .int .u8 0, .int .u8 0, .nilFunc, .pointer none, .int .i32 0, .int .i32 0]⟩),
  (134, ⟨true, (.struct [(0, 1, false), (1, 1, false), (2, 1, false), (3, 1, false), (4, 1, false), (5, 1, false), (6, 1, false), (7, 1, false), (8, 1, false), (9, 1, false), (10, 1, false)]), true, 11, [.int .u64 0, .int .u64 0, .int .u32 0, .int .u8 0, .int .u8 0, .int .u8 0, .int .u8 0, .nilFunc, .pointer none, .int .i32 0, .int .i32 0]⟩),
  (135, ⟨true, .other, false, 1, [.nilFunc]⟩),
  (136, ⟨true, .other, false, 1, [.pointer none]⟩),
  (138, ⟨true, .other, false, 1, [.nilFunc]⟩),
  (139, ⟨true, (.struct [(0, 4, true), (4, 4, true), (8, 1, false), (9, 1, false), (10, 1, false), (11, 7, true)]), true, 18, [.int .i64 0, .slice none 0 0, .slice none 0 0, .slice none 0 0, .slice none 0 0, .slice none 0 0, .slice none 0 0, .slice none 0 0, .int .i64 0, .int .i64 0, .int .i64 0, .int .i64 0, .int .i64 0, .int .i64 0, .slice none 0 0, .slice none 0 0, .bool false, .int .i64 0]⟩),
  (140, ⟨true, (.struct [(0, 4, true), (4, 4, true), (8, 1, false), (9, 1, false), (10, 1, false), (11, 7, true)]), true, 18, [.int .i64 0, .slice none 0 0, .slice none 0 0, .slice none 0 0, .slice none 0 0, .slice none 0 0, .slice none 0 0, .slice none 0 0, .int .i64 0, .int .i64 0, .int .i64 0, .int .i64 0, .int .i64 0, .int .i64 0, .slice none 0 0, .slice none 0 0, .bool false, .int .i64 0]⟩),
  (141, ⟨true, .other, false, 1, [.nilFunc]⟩),
  (142, ⟨true, .other, false, 1, [.map none]⟩),
  (143, ⟨true, .other, false, 1, [.nilFunc]⟩),
  (145, ⟨true, (.slice 5 1 1 false [.int .u8 0]), false, 1, [.slice none 0 0]⟩),
  (146, ⟨true, .other, false, 1, [.nilFunc]⟩),
  (147, ⟨true, .other, false, 1, [.nilFunc]⟩),
  (148, ⟨true, .other, false, 1, [.nilFunc]⟩),
  (149, ⟨true, .other, false, 1, [.nilFunc]⟩),
  (150, ⟨true, .other, false, 1, [.pointer none]⟩)]
theorem tys_ok : tys.map (fun x => tyOf Tryz.prog x.1) = tys.map (·.2) := by kernel_rfl
def T : Tab Tryz.prog := ⟨lookT tys, lookT_ok tys tys_ok⟩
theorem T3 : T.get 3 = ⟨true, (.int .i64), false, 1, [.int .i64 0]⟩ := rfl
theorem T4 : T.get 4 = ⟨true, .bool, false, 1, [.bool false]⟩ := rfl
theorem T5 : T.get 5 = ⟨true, (.int .u8), false, 1, [.int .u8 0]⟩ := rfl
theorem T9 : T.get 9 = ⟨true, .str, false, 1, [.string ⟨#[]⟩]⟩ := rfl
theorem T22 : T.get 22 = ⟨true, (.slice 3 1 8 false [.int .i64 0]), false, 1, [.slice none 0 0]⟩ := rfl
theorem T23 : T.get 23 = ⟨true, (.slice 65 1 24 false [.slice none 0 0]), false, 1, [.slice none 0 0]⟩ := rfl
theorem T25 : T.get 25 = ⟨true, (.struct [(0, 1, false), (1, 1, false), (2, 1, false), (3, 1, false)]), true, 4, [.int .i64 0, .slice none 0 0, .slice none 0 0, .slice none 0 0]⟩ := rfl
theorem T26 : T.get 26 = ⟨true, (.slice 22 1 24 false [.slice none 0 0]), false, 1, [.slice none 0 0]⟩ := rfl
theorem T27 : T.get 27 = ⟨true, (.slice 51 1 24 false [.slice none 0 0]), false, 1, [.slice none 0 0]⟩ := rfl
theorem T29 : T.get 29 = ⟨true, (.struct [(0, 1, false), (1, 1, false), (2, 1, false), (3, 1, false)]), true, 4, [.slice none 0 0, .slice none 0 0, .slice none 0 0, .slice none 0 0]⟩ := rfl
theorem T31 : T.get 31 = ⟨true, (.struct [(0, 4, true), (4, 4, true), (8, 1, false), (9, 1, false), (10, 1, false)]), true, 11, [.int .i64 0, .slice none 0 0, .slice none 0 0, .slice none 0 0, .slice none 0 0, .slice none 0 0, .slice none 0 0, .slice none 0 0, .int .i64 0, .int .i64 0, .int .i64 0]⟩ := rfl
theorem T51 : T.get 51 = ⟨true, (.slice 78 2 16 true [.int .i64 0, .int .i64 0]), false, 1, [.slice none 0 0]⟩ := rfl
theorem T53 : T.get 53 = ⟨true, .other, false, 1, [.nilIface]⟩ := rfl
theorem T58 : T.get 58 = ⟨true, (.struct [(0, 4, true), (4, 4, true), (8, 1, false), (9, 1, false)]), true, 10, [.int .i64 0, .slice none 0 0, .slice none 0 0, .slice none 0 0, .slice none 0 0, .slice none 0 0, .slice none 0 0, .slice none 0 0, .int .i64 0, .int .i64 0]⟩ := rfl
theorem T62 : T.get 62 = ⟨true, (.slice 53 1 16 false [.nilIface]), false, 1, [.slice none 0 0]⟩ := rfl
theorem T65 : T.get 65 = ⟨true, (.slice 68 7 88 true [.int .i64 0, .int .i64 0, .int .i64 0, .slice none 0 0, .slice none 0 0, .bool false, .int .i64 0]), false, 1, [.slice none 0 0]⟩ := rfl
theorem T66 : T.get 66 = ⟨true, (.slice 72 3 24 true [.int .i64 0, .int .i64 0, .int .i64 0]), false, 1, [.slice none 0 0]⟩ := rfl
theorem T68 : T.get 68 = ⟨true, (.struct [(0, 1, false), (1, 1, false), (2, 1, false), (3, 1, false), (4, 1, false), (5, 1, false), (6, 1, false)]), true, 7, [.int .i64 0, .int .i64 0, .int .i64 0, .slice none 0 0, .slice none 0 0, .bool false, .int .i64 0]⟩ := rfl
theorem T72 : T.get 72 = ⟨true, (.struct [(0, 1, false), (1, 1, false), (2, 1, false)]), true, 3, [.int .i64 0, .int .i64 0, .int .i64 0]⟩ := rfl
theorem T78 : T.get 78 = ⟨true, (.struct [(0, 1, false), (1, 1, false)]), true, 2, [.int .i64 0, .int .i64 0]⟩ := rfl
theorem T85 : T.get 85 = ⟨true, (.int .i64), false, 1, [.int .i64 0]⟩ := rfl
theorem T87 : T.get 87 = ⟨true, (.struct [(0, 1, false), (1, 1, false)]), true, 2, [.int .i64 0, .int .i64 0]⟩ := rfl
theorem T108 : T.get 108 = ⟨true, (.struct [(0, 1, false), (1, 1, false), (2, 1, false), (3, 1, false), (4, 1, false), (5, 1, false)]), true, 6, [.bool false, .bool false, .bool false, .bool false, .bool false, .bool false]⟩ := rfl
theorem T114 : T.get 114 = ⟨true, .other, false, 1, [.nilFunc]⟩ := rfl
theorem T116 : T.get 116 = ⟨true, (.struct [(0, 1, false), (1, 1, false)]), true, 2, [.int .i64 0, .nilFunc]⟩ := rfl
theorem T119 : T.get 119 = ⟨true, (.array 15 2 true), true, 30, [.int .i64 0, .nilFunc, .int .i64 0, .nilFunc, .int .i64 0, .nilFunc, .int .i64 0, .nilFunc, .int .i64 0, .nilFunc, .int .i64 0, .nilFunc, .int .i64 0, .nilFunc, .int .i64 0, .nilFunc, .int .i64 0, .nilFunc, .int .i64 0, .nilFunc, .int .i64 0, .nilFunc, .int .i64 0, .nilFunc, .int .i64 0, .nilFunc, .int .i64 0, .nilFunc, .int .i64 0, .nilFunc]⟩ := rfl
theorem T140 : T.get 140 = ⟨true, (.struct [(0, 4, true), (4, 4, true), (8, 1, false), (9, 1, false), (10, 1, false), (11, 7, true)]), true, 18, [.int .i64 0, .slice none 0 0, .slice none 0 0, .slice none 0 0, .slice none 0 0, .slice none 0 0, .slice none 0 0, .slice none 0 0, .int .i64 0, .int .i64 0, .int .i64 0, .int .i64 0, .int .i64 0, .int .i64 0, .slice none 0 0, .slice none 0 0, .bool false, .int .i64 0]⟩ := rfl
theorem T145 : T.get 145 = ⟨true, (.slice 5 1 1 false [.int .u8 0]), false, 1, [.slice none 0 0]⟩ := rfl
end Go.Proofs.YtlnmljmeahknaaaGreat
