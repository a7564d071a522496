/- The types of the program, as a walk asks them. No condition. -/
import Derived.Test.YtlnmljmeahknaaaChecked
import Derived.Test.YtlnmljmeahknaaaK2
namespace Go.Proofs.Ytlnmljmeahknaaa
set_option linter.unusedSimpArgs false
set_option linter.unusedVariables false
set_option maxRecDepth 100000
open Go Go.Proofs Go.Vc
def tys : List (TypeId × TyI) := [
  (1, ⟨true, .other, false, 1, [.nilFunc]⟩),
  (2, ⟨true, (.int .i64), false, 1, [.int .i64 0]⟩),
  (3, ⟨true, (.int .i64), false, 1, [.int .i64 0]⟩),
  (4, ⟨true, .bool, false, 1, [.bool false]⟩),
  (5, ⟨true, (.int .u8), false, 1, [.int .u8 0]⟩),
  (6, ⟨true, (.int .u8), false, 1, [.int .u8 0]⟩),
  (7, ⟨true, (.struct [(0, 1, false), (1, 1, false), (2, 1, false), (3, 1, false)]), true, 4, [.int .i64 0, .int .i64 0, .bool false, .int .u8 0]⟩),
  (8, ⟨true, (.struct [(0, 1, false), (1, 1, false), (2, 1, false), (3, 1, false)]), true, 4, [.int .i64 0, .int .i64 0, .bool false, .int .u8 0]⟩),
  (9, ⟨true, .str, false, 1, [.string ⟨#[]⟩]⟩),
  (10, ⟨true, .str, false, 1, [.string ⟨#[]⟩]⟩),
  (11, ⟨true, .str, false, 1, [.string ⟨#[]⟩]⟩),
  (12, ⟨true, (.int .u64), false, 1, [.int .u64 0]⟩),
  (13, ⟨true, (.struct [(0, 1, false), (1, 1, false)]), true, 2, [.string ⟨#[]⟩, .int .u64 0]⟩),
  (14, ⟨true, (.struct [(0, 1, false), (1, 1, false)]), true, 2, [.string ⟨#[]⟩, .int .u64 0]⟩),
  (15, ⟨true, .other, false, 1, [.pointer none]⟩),
  (16, ⟨true, .other, false, 1, [.pointer none]⟩),
  (17, ⟨true, .other, false, 1, [.pointer none]⟩),
  (18, ⟨true, (.struct [(0, 1, false)]), true, 1, [.pointer none]⟩),
  (19, ⟨true, (.struct [(0, 1, false)]), true, 1, [.pointer none]⟩),
  (20, ⟨true, .other, false, 1, [.nilIface]⟩),
  (21, ⟨true, (.int .i32), false, 1, [.int .i32 0]⟩),
  (22, ⟨true, (.slice 25 2 16 true [.int .i64 0, .int .i64 0]), false, 1, [.slice none 0 0]⟩),
  (23, ⟨true, .other, false, 1, [.nilFunc]⟩),
  (24, ⟨true, (.struct [(0, 1, false), (1, 1, false)]), true, 2, [.int .i64 0, .int .i64 0]⟩),
  (25, ⟨true, (.struct [(0, 1, false), (1, 1, false)]), true, 2, [.int .i64 0, .int .i64 0]⟩),
  (26, ⟨true, .other, false, 1, [.nilFunc]⟩),
  (27, ⟨true, .other, false, 1, [.nilFunc]⟩),
  (28, ⟨true, .other, false, 1, [.nilFunc]⟩),
  (30, ⟨true, .other, false, 1, [.nilFunc]⟩),
  (31, ⟨true, (.slice 3 1 8 false [.int .i64 0]), false, 1, [.slice none 0 0]⟩),
  (32, ⟨true, .other, false, 1, [.nilFunc]⟩),
  (34, ⟨true, .other, false, 1, [.nilFunc]⟩),
  (35, ⟨true, .other, false, 1, [.nilFunc]⟩),
  (36, ⟨true, .other, false, 1, [.nilFunc]⟩),
  (37, ⟨true, .other, false, 1, [.nilFunc]⟩),
  (38, ⟨true, .other, false, 1, [.nilFunc]⟩),
  (39, ⟨true, .other, false, 1, [.nilFunc]⟩),
  (40, ⟨true, (.slice 63 1 24 false [.slice none 0 0]), false, 1, [.slice none 0 0]⟩),
  (41, ⟨true, (.struct [(0, 1, false), (1, 1, false), (2, 1, false), (3, 1, false)]), true, 4, [.int .i64 0, .slice none 0 0, .slice none 0 0, .slice none 0 0]⟩),
  (42, ⟨true, (.struct [(0, 1, false), (1, 1, false), (2, 1, false), (3, 1, false)]), true, 4, [.int .i64 0, .slice none 0 0, .slice none 0 0, .slice none 0 0]⟩),
  (43, ⟨true, (.slice 31 1 24 false [.slice none 0 0]), false, 1, [.slice none 0 0]⟩),
  (44, ⟨true, (.slice 22 1 24 false [.slice none 0 0]), false, 1, [.slice none 0 0]⟩),
  (45, ⟨true, (.struct [(0, 1, false), (1, 1, false), (2, 1, false), (3, 1, false)]), true, 4, [.slice none 0 0, .slice none 0 0, .slice none 0 0, .slice none 0 0]⟩),
  (46, ⟨true, (.struct [(0, 1, false), (1, 1, false), (2, 1, false), (3, 1, false)]), true, 4, [.slice none 0 0, .slice none 0 0, .slice none 0 0, .slice none 0 0]⟩),
  (47, ⟨true, (.struct [(0, 4, true), (4, 4, true), (8, 1, false), (9, 1, false), (10, 1, false), (11, 1, false)]), true, 12, [.int .i64 0, .slice none 0 0, .slice none 0 0, .slice none 0 0, .slice none 0 0, .slice none 0 0, .slice none 0 0, .slice none 0 0, .int .i64 0, .int .i64 0, .int .i64 0, .int .i64 0]⟩),
  (48, ⟨true, (.struct [(0, 4, true), (4, 4, true), (8, 1, false), (9, 1, false), (10, 1, false), (11, 1, false)]), true, 12, [.int .i64 0, .slice none 0 0, .slice none 0 0, .slice none 0 0, .slice none 0 0, .slice none 0 0, .slice none 0 0, .slice none 0 0, .int .i64 0, .int .i64 0, .int .i64 0, .int .i64 0]⟩),
  (49, ⟨true, .other, false, 1, [.nilFunc]⟩),
  (50, ⟨true, .other, false, 1, [.nilFunc]⟩),
  (52, ⟨true, .other, false, 1, [.nilFunc]⟩),
  (53, ⟨true, .other, false, 1, [.nilFunc]⟩),
  (54, ⟨true, .other, false, 1, [.nilFunc]⟩),
  (55, ⟨true, .other, false, 1, [.nilFunc]⟩),
  (56, ⟨true, .other, false, 1, [.nilFunc]⟩),
  (57, ⟨true, .other, false, 1, [.nilFunc]⟩),
  (58, ⟨true, .other, false, 1, [.nilFunc]⟩),
  (59, ⟨true, .other, false, 1, [.nilFunc]⟩),
  (60, ⟨true, (.slice 113 3 24 true [.int .i64 0, .int .i64 0, .int .i64 0]), false, 1, [.slice none 0 0]⟩),
  (61, ⟨true, (.struct [(0, 1, false), (1, 1, false), (2, 1, false), (3, 1, false), (4, 1, false), (5, 1, false), (6, 1, false)]), true, 7, [.int .i64 0, .int .i64 0, .int .i64 0, .slice none 0 0, .slice none 0 0, .bool false, .int .i64 0]⟩),
  (62, ⟨true, (.struct [(0, 1, false), (1, 1, false), (2, 1, false), (3, 1, false), (4, 1, false), (5, 1, false), (6, 1, false)]), true, 7, [.int .i64 0, .int .i64 0, .int .i64 0, .slice none 0 0, .slice none 0 0, .bool false, .int .i64 0]⟩),
  (63, ⟨true, (.slice 62 7 88 true [.int .i64 0, .int .i64 0, .int .i64 0, .slice none 0 0, .slice none 0 0, .bool false, .int .i64 0]), false, 1, [.slice none 0 0]⟩),
  (64, ⟨true, .other, false, 1, [.nilFunc]⟩),
  (65, ⟨true, .other, false, 1, [.nilFunc]⟩),
  (66, ⟨true, .other, false, 1, [.nilFunc]⟩),
  (67, ⟨true, .other, false, 1, [.nilFunc]⟩),
  (68, ⟨true, .other, false, 1, [.nilFunc]⟩),
  (69, ⟨true, .other, false, 1, [.nilFunc]⟩),
  (70, ⟨true, (.struct [(0, 4, true), (4, 4, true), (8, 1, false), (9, 1, false), (10, 1, false)]), true, 11, [.int .i64 0, .slice none 0 0, .slice none 0 0, .slice none 0 0, .slice none 0 0, .slice none 0 0, .slice none 0 0, .slice none 0 0, .int .i64 0, .int .i64 0, .int .i64 0]⟩),
  (71, ⟨true, (.struct [(0, 4, true), (4, 4, true), (8, 1, false), (9, 1, false), (10, 1, false)]), true, 11, [.int .i64 0, .slice none 0 0, .slice none 0 0, .slice none 0 0, .slice none 0 0, .slice none 0 0, .slice none 0 0, .slice none 0 0, .int .i64 0, .int .i64 0, .int .i64 0]⟩),
  (72, ⟨true, .other, false, 1, [.nilFunc]⟩),
  (73, ⟨true, .other, false, 1, [.nilFunc]⟩),
  (74, ⟨true, .other, false, 1, [.nilFunc]⟩),
  (75, ⟨true, (.array 2 1 false), true, 2, [.int .u8 0, .int .u8 0]⟩),
  (76, ⟨true, (.slice 5 1 1 false [.int .u8 0]), false, 1, [.slice none 0 0]⟩),
  (77, ⟨true, (.int .i64), false, 1, [.int .i64 0]⟩),
  (79, ⟨true, .other, false, 1, [.nilFunc]⟩),
  (80, ⟨true, .other, false, 1, [.nilFunc]⟩),
  (81, ⟨true, .other, false, 1, [.nilFunc]⟩),
  (82, ⟨true, .other, false, 1, [.nilFunc]⟩),
  (83, ⟨true, .other, false, 1, [.nilFunc]⟩),
  (84, ⟨true, .other, false, 1, [.nilFunc]⟩),
  (85, ⟨true, .other, false, 1, [.nilFunc]⟩),
  (86, ⟨true, .other, false, 1, [.pointer none]⟩),
  (88, ⟨true, .other, false, 1, [.nilFunc]⟩),
  (89, ⟨true, (.struct [(0, 4, true), (4, 4, true), (8, 1, false), (9, 1, false), (10, 1, false), (11, 7, true)]), true, 18, [.int .i64 0, .slice none 0 0, .slice none 0 0, .slice none 0 0, .slice none 0 0, .slice none 0 0, .slice none 0 0, .slice none 0 0, .int .i64 0, .int .i64 0, .int .i64 0, .int .i64 0, .int .i64 0, .int .i64 0, .slice none 0 0, .slice none 0 0, .bool false, .int .i64 0]⟩),
  (90, ⟨true, (.struct [(0, 4, true), (4, 4, true), (8, 1, false), (9, 1, false), (10, 1, false), (11, 7, true)]), true, 18, [.int .i64 0, .slice none 0 0, .slice none 0 0, .slice none 0 0, .slice none 0 0, .slice none 0 0, .slice none 0 0, .slice none 0 0, .int .i64 0, .int .i64 0, .int .i64 0, .int .i64 0, .int .i64 0, .int .i64 0, .slice none 0 0, .slice none 0 0, .bool false, .int .i64 0]⟩),
  (91, ⟨true, .other, false, 1, [.nilFunc]⟩),
  (92, ⟨true, .other, false, 1, [.map none]⟩),
  (93, ⟨true, .other, false, 1, [.nilFunc]⟩),
  (95, ⟨true, .other, false, 1, [.nilFunc]⟩),
  (96, ⟨true, .other, false, 1, [.nilFunc]⟩),
  (97, ⟨true, (.slice 100 1 16 false [.nilIface]), false, 1, [.slice none 0 0]⟩),
  (98, ⟨true, .other, false, 1, [.nilFunc]⟩),
  (99, ⟨true, .other, false, 1, [.nilIface]⟩),
  (100, ⟨true, .other, false, 1, [.nilIface]⟩),
  (101, ⟨true, .other, false, 1, [.nilFunc]⟩),
  (103, ⟨true, .other, false, 1, [.nilFunc]⟩),
  (104, ⟨true, .other, false, 1, [.nilFunc]⟩),
  (105, ⟨true, .other, false, 1, [.nilFunc]⟩),
  (106, ⟨true, (.struct [(0, 4, true), (4, 4, true), (8, 1, false), (9, 1, false)]), true, 10, [.int .i64 0, .slice none 0 0, .slice none 0 0, .slice none 0 0, .slice none 0 0, .slice none 0 0, .slice none 0 0, .slice none 0 0, .int .i64 0, .int .i64 0]⟩),
  (107, ⟨true, (.struct [(0, 4, true), (4, 4, true), (8, 1, false), (9, 1, false)]), true, 10, [.int .i64 0, .slice none 0 0, .slice none 0 0, .slice none 0 0, .slice none 0 0, .slice none 0 0, .slice none 0 0, .slice none 0 0, .int .i64 0, .int .i64 0]⟩),
  (108, ⟨true, .other, false, 1, [.nilFunc]⟩),
  (109, ⟨true, .other, false, 1, [.nilFunc]⟩),
  (110, ⟨true, .other, false, 1, [.nilFunc]⟩),
  (111, ⟨true, .other, false, 1, [.nilFunc]⟩),
  (112, ⟨true, (.struct [(0, 1, false), (1, 1, false), (2, 1, false)]), true, 3, [.int .i64 0, .int .i64 0, .int .i64 0]⟩),
  (113, ⟨true, (.struct [(0, 1, false), (1, 1, false), (2, 1, false)]), true, 3, [.int .i64 0, .int .i64 0, .int .i64 0]⟩),
  (114, ⟨true, .other, false, 1, [.nilFunc]⟩),
  (115, ⟨true, .other, false, 1, [.nilFunc]⟩),
  (116, ⟨true, .other, false, 1, [.nilFunc]⟩),
  (117, ⟨true, .other, false, 1, [.nilFunc]⟩),
  (118, ⟨true, .other, false, 1, [.nilFunc]⟩),
  (119, ⟨true, .other, false, 1, [.nilFunc]⟩),
  (120, ⟨true, .other, false, 1, [.nilFunc]⟩),
  (121, ⟨true, (.int .i64), false, 1, [.int .i64 0]⟩),
  (122, ⟨true, (.struct [(0, 1, false), (1, 1, false)]), true, 2, [.int .i64 0, .int .i64 0]⟩),
  (123, ⟨true, (.struct [(0, 1, false), (1, 1, false)]), true, 2, [.int .i64 0, .int .i64 0]⟩),
  (125, ⟨true, .other, false, 1, [.nilFunc]⟩),
  (126, ⟨true, .other, false, 1, [.nilFunc]⟩),
  (127, ⟨true, .other, false, 1, [.nilFunc]⟩),
  (128, ⟨true, .other, false, 1, [.nilFunc]⟩),
  (129, ⟨true, .other, false, 1, [.nilFunc]⟩),
  (130, ⟨true, .other, false, 1, [.nilFunc]⟩),
  (132, ⟨true, .other, false, 1, [.nilFunc]⟩),
  (133, ⟨true, .other, false, 1, [.nilFunc]⟩),
  (134, ⟨true, .other, false, 1, [.nilFunc]⟩),
  (135, ⟨true, (.struct [(0, 1, false), (1, 1, false)]), true, 2, [.int .i64 0, .nilFunc]⟩),
  (136, ⟨true, (.struct [(0, 1, false), (1, 1, false)]), true, 2, [.int .i64 0, .nilFunc]⟩),
  (138, ⟨true, .other, false, 1, [.nilFunc]⟩),
  (139, ⟨true, (.array 15 2 true), true, 30, [.int .i64 0, .nilFunc, .int .i64 0, .nilFunc, .int .i64 0, .nilFunc, .int .i64 0, .nilFunc, .int .i64 0, .nilFunc, .int .i64 0, .nilFunc, .int .i64 0, .nilFunc, .int .i64 0, .nilFunc, .int .i64 0, .nilFunc, .int .i64 0, .nilFunc, .int .i64 0, .nilFunc, .int .i64 0, .nilFunc, .int .i64 0, .nilFunc, .int .i64 0, .nilFunc, .int .i64 0, .nilFunc]⟩),
  (140, ⟨true, (.struct [(0, 1, false), (1, 1, false), (2, 1, false), (3, 1, false), (4, 1, false), (5, 1, false)]), true, 6, [.bool false, .bool false, .bool false, .bool false, .bool false, .bool false]⟩),
  (141, ⟨true, (.struct [(0, 1, false), (1, 1, false), (2, 1, false), (3, 1, false), (4, 1, false), (5, 1, false)]), true, 6, [.bool false, .bool false, .bool false, .bool false, .bool false, .bool false]⟩),
  (143, ⟨true, .other, false, 1, [.nilFunc]⟩),
  (144, ⟨true, .other, false, 1, [.nilFunc]⟩),
  (145, ⟨true, .other, false, 1, [.nilFunc]⟩),
  (146, ⟨true, .other, false, 1, [.map none]⟩),
  (147, ⟨true, (.struct [(0, 1, false), (1, 1, false), (2, 1, false), (3, 1, false)]), true, 4, [.pointer none, .pointer none, .pointer none, .string ⟨#[]⟩]⟩),
  (148, ⟨true, (.struct [(0, 1, false), (1, 1, false), (2, 1, false), (3, 1, false)]), true, 4, [.pointer none, .pointer none, .pointer none, .string ⟨#[]⟩]⟩),
  (149, ⟨true, (.array 0 1 false), true, 0, []⟩),
  (150, ⟨true, (.struct [(0, 0, true)]), true, 0, []⟩),
  (151, ⟨true, (.struct [(0, 0, true)]), true, 0, []⟩),
  (152, ⟨true, (.int .u32), false, 1, [.int .u32 0]⟩),
  (153, ⟨true, (.int .u8), false, 1, [.int .u8 0]⟩),
  (154, ⟨true, (.int .u8), false, 1, [.int .u8 0]⟩),
  (155, ⟨true, .other, false, 1, [.nilFunc]⟩),
  (156, ⟨true, .other, false, 1, [.pointer none]⟩),
  (157, ⟨true, (.int .i32), false, 1, [.int .i32 0]⟩),
  (158, ⟨true, (.int .i32), false, 1, [.int .i32 0]⟩),
  (159, ⟨true, (.struct [(0, 1, false), (1, 1, false), (2, 1, false), (3, 1, false), (4, 1, false), (5, 1, false), (6, 1, false), (7, 1, false), (8, 1, false), (9, 1, false), (10, 1, false)]), true, 11, [.int .u64 0, .int .u64 0, .int .u32 0, .int .u8 0, .int .u8 0, .int .u8 0, .int .u8 0, .nilFunc, .pointer none, .int .i32 0, .int .i32 0]⟩),
  (160, ⟨true, (.struct [(0, 1, false), (1, 1, false), (2, 1, false), (3, 1, false), (4, 1, false), (5, 1, false), (6, 1, false), (7, 1, false), (8, 1, false), (9, 1, false), (10, 1, false)]), true, 11, [.int .u64 0, .int .u64 0, .int .u32 0, .int .u8 0, .int .u8 0, .int .u8 0, .int .u8 0, .nilFunc, .pointer none, .int .i32 0, .int .i32 0]⟩),
  (161, ⟨true, .other, false, 1, [.pointer none]⟩)]
theorem tys_ok : tys.map (fun x => tyOf Try.prog x.1) = tys.map (·.2) := by kernel_rfl
def T : Tab Try.prog := ⟨lookT tys, lookT_ok tys tys_ok⟩
theorem T1 : T.get 1 = ⟨true, .other, false, 1, [.nilFunc]⟩ := rfl
theorem T2 : T.get 2 = ⟨true, (.int .i64), false, 1, [.int .i64 0]⟩ := rfl
theorem T3 : T.get 3 = ⟨true, (.int .i64), false, 1, [.int .i64 0]⟩ := rfl
theorem T4 : T.get 4 = ⟨true, .bool, false, 1, [.bool false]⟩ := rfl
theorem T5 : T.get 5 = ⟨true, (.int .u8), false, 1, [.int .u8 0]⟩ := rfl
theorem T6 : T.get 6 = ⟨true, (.int .u8), false, 1, [.int .u8 0]⟩ := rfl
theorem T7 : T.get 7 = ⟨true, (.struct [(0, 1, false), (1, 1, false), (2, 1, false), (3, 1, false)]), true, 4, [.int .i64 0, .int .i64 0, .bool false, .int .u8 0]⟩ := rfl
theorem T8 : T.get 8 = ⟨true, (.struct [(0, 1, false), (1, 1, false), (2, 1, false), (3, 1, false)]), true, 4, [.int .i64 0, .int .i64 0, .bool false, .int .u8 0]⟩ := rfl
theorem T9 : T.get 9 = ⟨true, .str, false, 1, [.string ⟨#[]⟩]⟩ := rfl
theorem T10 : T.get 10 = ⟨true, .str, false, 1, [.string ⟨#[]⟩]⟩ := rfl
theorem T11 : T.get 11 = ⟨true, .str, false, 1, [.string ⟨#[]⟩]⟩ := rfl
theorem T12 : T.get 12 = ⟨true, (.int .u64), false, 1, [.int .u64 0]⟩ := rfl
theorem T13 : T.get 13 = ⟨true, (.struct [(0, 1, false), (1, 1, false)]), true, 2, [.string ⟨#[]⟩, .int .u64 0]⟩ := rfl
theorem T14 : T.get 14 = ⟨true, (.struct [(0, 1, false), (1, 1, false)]), true, 2, [.string ⟨#[]⟩, .int .u64 0]⟩ := rfl
theorem T15 : T.get 15 = ⟨true, .other, false, 1, [.pointer none]⟩ := rfl
theorem T16 : T.get 16 = ⟨true, .other, false, 1, [.pointer none]⟩ := rfl
theorem T17 : T.get 17 = ⟨true, .other, false, 1, [.pointer none]⟩ := rfl
theorem T18 : T.get 18 = ⟨true, (.struct [(0, 1, false)]), true, 1, [.pointer none]⟩ := rfl
theorem T19 : T.get 19 = ⟨true, (.struct [(0, 1, false)]), true, 1, [.pointer none]⟩ := rfl
theorem T20 : T.get 20 = ⟨true, .other, false, 1, [.nilIface]⟩ := rfl
theorem T21 : T.get 21 = ⟨true, (.int .i32), false, 1, [.int .i32 0]⟩ := rfl
theorem T22 : T.get 22 = ⟨true, (.slice 25 2 16 true [.int .i64 0, .int .i64 0]), false, 1, [.slice none 0 0]⟩ := rfl
theorem T23 : T.get 23 = ⟨true, .other, false, 1, [.nilFunc]⟩ := rfl
theorem T24 : T.get 24 = ⟨true, (.struct [(0, 1, false), (1, 1, false)]), true, 2, [.int .i64 0, .int .i64 0]⟩ := rfl
theorem T25 : T.get 25 = ⟨true, (.struct [(0, 1, false), (1, 1, false)]), true, 2, [.int .i64 0, .int .i64 0]⟩ := rfl
theorem T26 : T.get 26 = ⟨true, .other, false, 1, [.nilFunc]⟩ := rfl
theorem T27 : T.get 27 = ⟨true, .other, false, 1, [.nilFunc]⟩ := rfl
theorem T28 : T.get 28 = ⟨true, .other, false, 1, [.nilFunc]⟩ := rfl
theorem T30 : T.get 30 = ⟨true, .other, false, 1, [.nilFunc]⟩ := rfl
theorem T31 : T.get 31 = ⟨true, (.slice 3 1 8 false [.int .i64 0]), false, 1, [.slice none 0 0]⟩ := rfl
theorem T32 : T.get 32 = ⟨true, .other, false, 1, [.nilFunc]⟩ := rfl
theorem T34 : T.get 34 = ⟨true, .other, false, 1, [.nilFunc]⟩ := rfl
theorem T35 : T.get 35 = ⟨true, .other, false, 1, [.nilFunc]⟩ := rfl
theorem T36 : T.get 36 = ⟨true, .other, false, 1, [.nilFunc]⟩ := rfl
theorem T37 : T.get 37 = ⟨true, .other, false, 1, [.nilFunc]⟩ := rfl
theorem T38 : T.get 38 = ⟨true, .other, false, 1, [.nilFunc]⟩ := rfl
theorem T39 : T.get 39 = ⟨true, .other, false, 1, [.nilFunc]⟩ := rfl
theorem T40 : T.get 40 = ⟨true, (.slice 63 1 24 false [.slice none 0 0]), false, 1, [.slice none 0 0]⟩ := rfl
theorem T41 : T.get 41 = ⟨true, (.struct [(0, 1, false), (1, 1, false), (2, 1, false), (3, 1, false)]), true, 4, [.int .i64 0, .slice none 0 0, .slice none 0 0, .slice none 0 0]⟩ := rfl
theorem T42 : T.get 42 = ⟨true, (.struct [(0, 1, false), (1, 1, false), (2, 1, false), (3, 1, false)]), true, 4, [.int .i64 0, .slice none 0 0, .slice none 0 0, .slice none 0 0]⟩ := rfl
theorem T43 : T.get 43 = ⟨true, (.slice 31 1 24 false [.slice none 0 0]), false, 1, [.slice none 0 0]⟩ := rfl
theorem T44 : T.get 44 = ⟨true, (.slice 22 1 24 false [.slice none 0 0]), false, 1, [.slice none 0 0]⟩ := rfl
theorem T45 : T.get 45 = ⟨true, (.struct [(0, 1, false), (1, 1, false), (2, 1, false), (3, 1, false)]), true, 4, [.slice none 0 0, .slice none 0 0, .slice none 0 0, .slice none 0 0]⟩ := rfl
theorem T46 : T.get 46 = ⟨true, (.struct [(0, 1, false), (1, 1, false), (2, 1, false), (3, 1, false)]), true, 4, [.slice none 0 0, .slice none 0 0, .slice none 0 0, .slice none 0 0]⟩ := rfl
theorem T47 : T.get 47 = ⟨true, (.struct [(0, 4, true), (4, 4, true), (8, 1, false), (9, 1, false), (10, 1, false), (11, 1, false)]), true, 12, [.int .i64 0, .slice none 0 0, .slice none 0 0, .slice none 0 0, .slice none 0 0, .slice none 0 0, .slice none 0 0, .slice none 0 0, .int .i64 0, .int .i64 0, .int .i64 0, .int .i64 0]⟩ := rfl
theorem T48 : T.get 48 = ⟨true, (.struct [(0, 4, true), (4, 4, true), (8, 1, false), (9, 1, false), (10, 1, false), (11, 1, false)]), true, 12, [.int .i64 0, .slice none 0 0, .slice none 0 0, .slice none 0 0, .slice none 0 0, .slice none 0 0, .slice none 0 0, .slice none 0 0, .int .i64 0, .int .i64 0, .int .i64 0, .int .i64 0]⟩ := rfl
theorem T49 : T.get 49 = ⟨true, .other, false, 1, [.nilFunc]⟩ := rfl
theorem T50 : T.get 50 = ⟨true, .other, false, 1, [.nilFunc]⟩ := rfl
theorem T52 : T.get 52 = ⟨true, .other, false, 1, [.nilFunc]⟩ := rfl
theorem T53 : T.get 53 = ⟨true, .other, false, 1, [.nilFunc]⟩ := rfl
theorem T54 : T.get 54 = ⟨true, .other, false, 1, [.nilFunc]⟩ := rfl
theorem T55 : T.get 55 = ⟨true, .other, false, 1, [.nilFunc]⟩ := rfl
theorem T56 : T.get 56 = ⟨true, .other, false, 1, [.nilFunc]⟩ := rfl
theorem T57 : T.get 57 = ⟨true, .other, false, 1, [.nilFunc]⟩ := rfl
theorem T58 : T.get 58 = ⟨true, .other, false, 1, [.nilFunc]⟩ := rfl
theorem T59 : T.get 59 = ⟨true, .other, false, 1, [.nilFunc]⟩ := rfl
theorem T60 : T.get 60 = ⟨true, (.slice 113 3 24 true [.int .i64 0, .int .i64 0, .int .i64 0]), false, 1, [.slice none 0 0]⟩ := rfl
theorem T61 : T.get 61 = ⟨true, (.struct [(0, 1, false), (1, 1, false), (2, 1, false), (3, 1, false), (4, 1, false), (5, 1, false), (6, 1, false)]), true, 7, [.int .i64 0, .int .i64 0, .int .i64 0, .slice none 0 0, .slice none 0 0, .bool false, .int .i64 0]⟩ := rfl
theorem T62 : T.get 62 = ⟨true, (.struct [(0, 1, false), (1, 1, false), (2, 1, false), (3, 1, false), (4, 1, false), (5, 1, false), (6, 1, false)]), true, 7, [.int .i64 0, .int .i64 0, .int .i64 0, .slice none 0 0, .slice none 0 0, .bool false, .int .i64 0]⟩ := rfl
theorem T63 : T.get 63 = ⟨true, (.slice 62 7 88 true [.int .i64 0, .int .i64 0, .int .i64 0, .slice none 0 0, .slice none 0 0, .bool false, .int .i64 0]), false, 1, [.slice none 0 0]⟩ := rfl
theorem T64 : T.get 64 = ⟨true, .other, false, 1, [.nilFunc]⟩ := rfl
theorem T65 : T.get 65 = ⟨true, .other, false, 1, [.nilFunc]⟩ := rfl
theorem T66 : T.get 66 = ⟨true, .other, false, 1, [.nilFunc]⟩ := rfl
theorem T67 : T.get 67 = ⟨true, .other, false, 1, [.nilFunc]⟩ := rfl
theorem T68 : T.get 68 = ⟨true, .other, false, 1, [.nilFunc]⟩ := rfl
theorem T69 : T.get 69 = ⟨true, .other, false, 1, [.nilFunc]⟩ := rfl
theorem T70 : T.get 70 = ⟨true, (.struct [(0, 4, true), (4, 4, true), (8, 1, false), (9, 1, false), (10, 1, false)]), true, 11, [.int .i64 0, .slice none 0 0, .slice none 0 0, .slice none 0 0, .slice none 0 0, .slice none 0 0, .slice none 0 0, .slice none 0 0, .int .i64 0, .int .i64 0, .int .i64 0]⟩ := rfl
theorem T71 : T.get 71 = ⟨true, (.struct [(0, 4, true), (4, 4, true), (8, 1, false), (9, 1, false), (10, 1, false)]), true, 11, [.int .i64 0, .slice none 0 0, .slice none 0 0, .slice none 0 0, .slice none 0 0, .slice none 0 0, .slice none 0 0, .slice none 0 0, .int .i64 0, .int .i64 0, .int .i64 0]⟩ := rfl
theorem T72 : T.get 72 = ⟨true, .other, false, 1, [.nilFunc]⟩ := rfl
theorem T73 : T.get 73 = ⟨true, .other, false, 1, [.nilFunc]⟩ := rfl
theorem T74 : T.get 74 = ⟨true, .other, false, 1, [.nilFunc]⟩ := rfl
theorem T75 : T.get 75 = ⟨true, (.array 2 1 false), true, 2, [.int .u8 0, .int .u8 0]⟩ := rfl
theorem T76 : T.get 76 = ⟨true, (.slice 5 1 1 false [.int .u8 0]), false, 1, [.slice none 0 0]⟩ := rfl
theorem T77 : T.get 77 = ⟨true, (.int .i64), false, 1, [.int .i64 0]⟩ := rfl
theorem T79 : T.get 79 = ⟨true, .other, false, 1, [.nilFunc]⟩ := rfl
theorem T80 : T.get 80 = ⟨true, .other, false, 1, [.nilFunc]⟩ := rfl
theorem T81 : T.get 81 = ⟨true, .other, false, 1, [.nilFunc]⟩ := rfl
theorem T82 : T.get 82 = ⟨true, .other, false, 1, [.nilFunc]⟩ := rfl
theorem T83 : T.get 83 = ⟨true, .other, false, 1, [.nilFunc]⟩ := rfl
theorem T84 : T.get 84 = ⟨true, .other, false, 1, [.nilFunc]⟩ := rfl
theorem T85 : T.get 85 = ⟨true, .other, false, 1, [.nilFunc]⟩ := rfl
theorem T86 : T.get 86 = ⟨true, .other, false, 1, [.pointer none]⟩ := rfl
theorem T88 : T.get 88 = ⟨true, .other, false, 1, [.nilFunc]⟩ := rfl
theorem T89 : T.get 89 = ⟨true, (.struct [(0, 4, true), (4, 4, true), (8, 1, false), (9, 1, false), (10, 1, false), (11, 7, true)]), true, 18, [.int .i64 0, .slice none 0 0, .slice none 0 0, .slice none 0 0, .slice none 0 0, .slice none 0 0, .slice none 0 0, .slice none 0 0, .int .i64 0, .int .i64 0, .int .i64 0, .int .i64 0, .int .i64 0, .int .i64 0, .slice none 0 0, .slice none 0 0, .bool false, .int .i64 0]⟩ := rfl
theorem T90 : T.get 90 = ⟨true, (.struct [(0, 4, true), (4, 4, true), (8, 1, false), (9, 1, false), (10, 1, false), (11, 7, true)]), true, 18, [.int .i64 0, .slice none 0 0, .slice none 0 0, .slice none 0 0, .slice none 0 0, .slice none 0 0, .slice none 0 0, .slice none 0 0, .int .i64 0, .int .i64 0, .int .i64 0, .int .i64 0, .int .i64 0, .int .i64 0, .slice none 0 0, .slice none 0 0, .bool false, .int .i64 0]⟩ := rfl
theorem T91 : T.get 91 = ⟨true, .other, false, 1, [.nilFunc]⟩ := rfl
theorem T92 : T.get 92 = ⟨true, .other, false, 1, [.map none]⟩ := rfl
theorem T93 : T.get 93 = ⟨true, .other, false, 1, [.nilFunc]⟩ := rfl
theorem T95 : T.get 95 = ⟨true, .other, false, 1, [.nilFunc]⟩ := rfl
theorem T96 : T.get 96 = ⟨true, .other, false, 1, [.nilFunc]⟩ := rfl
theorem T97 : T.get 97 = ⟨true, (.slice 100 1 16 false [.nilIface]), false, 1, [.slice none 0 0]⟩ := rfl
theorem T98 : T.get 98 = ⟨true, .other, false, 1, [.nilFunc]⟩ := rfl
theorem T99 : T.get 99 = ⟨true, .other, false, 1, [.nilIface]⟩ := rfl
theorem T100 : T.get 100 = ⟨true, .other, false, 1, [.nilIface]⟩ := rfl
theorem T101 : T.get 101 = ⟨true, .other, false, 1, [.nilFunc]⟩ := rfl
theorem T103 : T.get 103 = ⟨true, .other, false, 1, [.nilFunc]⟩ := rfl
theorem T104 : T.get 104 = ⟨true, .other, false, 1, [.nilFunc]⟩ := rfl
theorem T105 : T.get 105 = ⟨true, .other, false, 1, [.nilFunc]⟩ := rfl
theorem T106 : T.get 106 = ⟨true, (.struct [(0, 4, true), (4, 4, true), (8, 1, false), (9, 1, false)]), true, 10, [.int .i64 0, .slice none 0 0, .slice none 0 0, .slice none 0 0, .slice none 0 0, .slice none 0 0, .slice none 0 0, .slice none 0 0, .int .i64 0, .int .i64 0]⟩ := rfl
theorem T107 : T.get 107 = ⟨true, (.struct [(0, 4, true), (4, 4, true), (8, 1, false), (9, 1, false)]), true, 10, [.int .i64 0, .slice none 0 0, .slice none 0 0, .slice none 0 0, .slice none 0 0, .slice none 0 0, .slice none 0 0, .slice none 0 0, .int .i64 0, .int .i64 0]⟩ := rfl
theorem T108 : T.get 108 = ⟨true, .other, false, 1, [.nilFunc]⟩ := rfl
theorem T109 : T.get 109 = ⟨true, .other, false, 1, [.nilFunc]⟩ := rfl
theorem T110 : T.get 110 = ⟨true, .other, false, 1, [.nilFunc]⟩ := rfl
theorem T111 : T.get 111 = ⟨true, .other, false, 1, [.nilFunc]⟩ := rfl
theorem T112 : T.get 112 = ⟨true, (.struct [(0, 1, false), (1, 1, false), (2, 1, false)]), true, 3, [.int .i64 0, .int .i64 0, .int .i64 0]⟩ := rfl
theorem T113 : T.get 113 = ⟨true, (.struct [(0, 1, false), (1, 1, false), (2, 1, false)]), true, 3, [.int .i64 0, .int .i64 0, .int .i64 0]⟩ := rfl
theorem T114 : T.get 114 = ⟨true, .other, false, 1, [.nilFunc]⟩ := rfl
theorem T115 : T.get 115 = ⟨true, .other, false, 1, [.nilFunc]⟩ := rfl
theorem T116 : T.get 116 = ⟨true, .other, false, 1, [.nilFunc]⟩ := rfl
theorem T117 : T.get 117 = ⟨true, .other, false, 1, [.nilFunc]⟩ := rfl
theorem T118 : T.get 118 = ⟨true, .other, false, 1, [.nilFunc]⟩ := rfl
theorem T119 : T.get 119 = ⟨true, .other, false, 1, [.nilFunc]⟩ := rfl
theorem T120 : T.get 120 = ⟨true, .other, false, 1, [.nilFunc]⟩ := rfl
theorem T121 : T.get 121 = ⟨true, (.int .i64), false, 1, [.int .i64 0]⟩ := rfl
theorem T122 : T.get 122 = ⟨true, (.struct [(0, 1, false), (1, 1, false)]), true, 2, [.int .i64 0, .int .i64 0]⟩ := rfl
theorem T123 : T.get 123 = ⟨true, (.struct [(0, 1, false), (1, 1, false)]), true, 2, [.int .i64 0, .int .i64 0]⟩ := rfl
theorem T125 : T.get 125 = ⟨true, .other, false, 1, [.nilFunc]⟩ := rfl
theorem T126 : T.get 126 = ⟨true, .other, false, 1, [.nilFunc]⟩ := rfl
theorem T127 : T.get 127 = ⟨true, .other, false, 1, [.nilFunc]⟩ := rfl
theorem T128 : T.get 128 = ⟨true, .other, false, 1, [.nilFunc]⟩ := rfl
theorem T129 : T.get 129 = ⟨true, .other, false, 1, [.nilFunc]⟩ := rfl
theorem T130 : T.get 130 = ⟨true, .other, false, 1, [.nilFunc]⟩ := rfl
theorem T132 : T.get 132 = ⟨true, .other, false, 1, [.nilFunc]⟩ := rfl
theorem T133 : T.get 133 = ⟨true, .other, false, 1, [.nilFunc]⟩ := rfl
theorem T134 : T.get 134 = ⟨true, .other, false, 1, [.nilFunc]⟩ := rfl
theorem T135 : T.get 135 = ⟨true, (.struct [(0, 1, false), (1, 1, false)]), true, 2, [.int .i64 0, .nilFunc]⟩ := rfl
theorem T136 : T.get 136 = ⟨true, (.struct [(0, 1, false), (1, 1, false)]), true, 2, [.int .i64 0, .nilFunc]⟩ := rfl
theorem T138 : T.get 138 = ⟨true, .other, false, 1, [.nilFunc]⟩ := rfl
theorem T139 : T.get 139 = ⟨true, (.array 15 2 true), true, 30, [.int .i64 0, .nilFunc, .int .i64 0, .nilFunc, .int .i64 0, .nilFunc, .int .i64 0, .nilFunc, .int .i64 0, .nilFunc, .int .i64 0, .nilFunc, .int .i64 0, .nilFunc, .int .i64 0, .nilFunc, .int .i64 0, .nilFunc, .int .i64 0, .nilFunc, .int .i64 0, .nilFunc, .int .i64 0, .nilFunc, .int .i64 0, .nilFunc, .int .i64 0, .nilFunc, .int .i64 0, .nilFunc]⟩ := rfl
theorem T140 : T.get 140 = ⟨true, (.struct [(0, 1, false), (1, 1, false), (2, 1, false), (3, 1, false), (4, 1, false), (5, 1, false)]), true, 6, [.bool false, .bool false, .bool false, .bool false, .bool false, .bool false]⟩ := rfl
theorem T141 : T.get 141 = ⟨true, (.struct [(0, 1, false), (1, 1, false), (2, 1, false), (3, 1, false), (4, 1, false), (5, 1, false)]), true, 6, [.bool false, .bool false, .bool false, .bool false, .bool false, .bool false]⟩ := rfl
theorem T143 : T.get 143 = ⟨true, .other, false, 1, [.nilFunc]⟩ := rfl
theorem T144 : T.get 144 = ⟨true, .other, false, 1, [.nilFunc]⟩ := rfl
theorem T145 : T.get 145 = ⟨true, .other, false, 1, [.nilFunc]⟩ := rfl
theorem T146 : T.get 146 = ⟨true, .other, false, 1, [.map none]⟩ := rfl
theorem T147 : T.get 147 = ⟨true, (.struct [(0, 1, false), (1, 1, false), (2, 1, false), (3, 1, false)]), true, 4, [.pointer none, .pointer none, .pointer none, .string ⟨#[]⟩]⟩ := rfl
theorem T148 : T.get 148 = ⟨true, (.struct [(0, 1, false), (1, 1, false), (2, 1, false), (3, 1, false)]), true, 4, [.pointer none, .pointer none, .pointer none, .string ⟨#[]⟩]⟩ := rfl
theorem T149 : T.get 149 = ⟨true, (.array 0 1 false), true, 0, []⟩ := rfl
theorem T150 : T.get 150 = ⟨true, (.struct [(0, 0, true)]), true, 0, []⟩ := rfl
theorem T151 : T.get 151 = ⟨true, (.struct [(0, 0, true)]), true, 0, []⟩ := rfl
theorem T152 : T.get 152 = ⟨true, (.int .u32), false, 1, [.int .u32 0]⟩ := rfl
theorem T153 : T.get 153 = ⟨true, (.int .u8), false, 1, [.int .u8 0]⟩ := rfl
theorem T154 : T.get 154 = ⟨true, (.int .u8), false, 1, [.int .u8 0]⟩ := rfl
theorem T155 : T.get 155 = ⟨true, .other, false, 1, [.nilFunc]⟩ := rfl
theorem T156 : T.get 156 = ⟨true, .other, false, 1, [.pointer none]⟩ := rfl
theorem T157 : T.get 157 = ⟨true, (.int .i32), false, 1, [.int .i32 0]⟩ := rfl
theorem T158 : T.get 158 = ⟨true, (.int .i32), false, 1, [.int .i32 0]⟩ := rfl
theorem T159 : T.get 159 = ⟨true, (.struct [(0, 1, false), (1, 1, false), (2, 1, false), (3, 1, false), (4, 1, false), (5, 1, false), (6, 1, false), (7, 1, false), (8, 1, false), (9, 1, false), (10, 1, false)]), true, 11, [.int .u64 0, .int .u64 0, .int .u32 0, .int .u8 0, .int .u8 0, .int .u8 0, .int .u8 0, .nilFunc, .pointer none, .int .i32 0, .int .i32 0]⟩ := rfl
theorem T160 : T.get 160 = ⟨true, (.struct [(0, 1, false), (1, 1, false), (2, 1, false), (3, 1, false), (4, 1, false), (5, 1, false), (6, 1, false), (7, 1, false), (8, 1, false), (9, 1, false), (10, 1, false)]), true, 11, [.int .u64 0, .int .u64 0, .int .u32 0, .int .u8 0, .int .u8 0, .int .u8 0, .int .u8 0, .nilFunc, .pointer none, .int .i32 0, .int .i32 0]⟩ := rfl
theorem T161 : T.get 161 = ⟨true, .other, false, 1, [.pointer none]⟩ := rfl
end Go.Proofs.Ytlnmljmeahknaaa
