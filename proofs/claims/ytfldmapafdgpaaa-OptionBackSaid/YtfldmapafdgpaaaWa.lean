/- The types of the program, as a walk asks them. No condition. -/
import Derived.Test.YtfldmapafdgpaaaChecked
import Derived.Test.YtfldmapafdgpaaaVm
namespace Go.Proofs.Ytfldmapafdgpaaa
set_option linter.unusedSimpArgs false
set_option linter.unusedVariables false
open Go Go.Proofs Go.Vc
def tys : List (TypeId × TyI) := [
  (1, ⟨true, .other, false, 1, [.nilFunc]⟩),
  (2, ⟨true, (.int .i64), false, 1, [.int .i64 0]⟩),
  (3, ⟨true, (.int .i64), false, 1, [.int .i64 0]⟩),
  (4, ⟨true, .bool, false, 1, [.bool false]⟩),
  (5, ⟨true, (.int .u8), false, 1, [.int .u8 0]⟩),
  (6, ⟨true, (.int .u8), false, 1, [.int .u8 0]⟩),
  (7, ⟨true, (.struct [(0, 1, false), (1, 1, false), (2, 1, false), (3, 1, false)]), true, 4, [.int .i64 0, .int .i64 0, .bool false, .int .u8 0]⟩),
  (8, ⟨true, (.struct [(0, 1, false), (1, 1, false), (2, 1, false), (3, 1, false)]), true, 4, [.int .i64 0, .int .i64 0, .bool false, .int .u8 0]⟩),
  (9, ⟨true, .str, false, 1, [.string ⟨#[]⟩]⟩),
  (10, ⟨true, .str, false, 1, [.string ⟨#[]⟩]⟩),
  (11, ⟨true, .str, false, 1, [.string ⟨#[]⟩]⟩),
  (12, ⟨true, (.int .u64), false, 1, [.int .u64 0]⟩),
  (13, ⟨true, (.struct [(0, 1, false), (1, 1, false)]), true, 2, [.string ⟨#[]⟩, .int .u64 0]⟩),
  (14, ⟨true, (.struct [(0, 1, false), (1, 1, false)]), true, 2, [.string ⟨#[]⟩, .int .u64 0]⟩),
  (15, ⟨true, .other, false, 1, [.pointer none]⟩),
  (16, ⟨true, .other, false, 1, [.pointer none]⟩),
  (17, ⟨true, .other, false, 1, [.pointer none]⟩),
  (18, ⟨true, (.struct [(0, 1, false)]), true, 1, [.pointer none]⟩),
  (19, ⟨true, (.struct [(0, 1, false)]), true, 1, [.pointer none]⟩),
  (20, ⟨true, .other, false, 1, [.nilIface]⟩),
  (21, ⟨true, (.int .i32), false, 1, [.int .i32 0]⟩),
  (22, ⟨true, .other, false, 1, [.nilFunc]⟩),
  (23, ⟨true, (.struct [(0, 1, false), (1, 1, false), (2, 1, false), (3, 1, false)]), true, 4, [.int .i64 0, .int .i64 0, .int .i64 0, .int .i64 0]⟩),
  (24, ⟨true, (.struct [(0, 1, false), (1, 1, false), (2, 1, false), (3, 1, false)]), true, 4, [.int .i64 0, .int .i64 0, .int .i64 0, .int .i64 0]⟩),
  (25, ⟨true, (.int .i64), false, 1, [.int .i64 0]⟩),
  (27, ⟨true, .other, false, 1, [.nilFunc]⟩),
  (28, ⟨true, .other, false, 1, [.nilFunc]⟩),
  (29, ⟨true, (.slice 24 4 32 true [.int .i64 0, .int .i64 0, .int .i64 0, .int .i64 0]), false, 1, [.slice none 0 0]⟩),
  (30, ⟨true, .other, false, 1, [.nilFunc]⟩),
  (31, ⟨true, .other, false, 1, [.nilFunc]⟩),
  (32, ⟨true, .other, false, 1, [.nilFunc]⟩),
  (33, ⟨true, .other, false, 1, [.nilFunc]⟩),
  (34, ⟨true, (.int .u16), false, 1, [.int .u16 0]⟩),
  (35, ⟨true, .other, false, 1, [.nilFunc]⟩),
  (36, ⟨true, .other, false, 1, [.nilFunc]⟩),
  (37, ⟨true, (.slice 9 1 16 false [.string ⟨#[]⟩]), false, 1, [.slice none 0 0]⟩),
  (38, ⟨true, .other, false, 1, [.nilFunc]⟩),
  (39, ⟨true, .other, false, 1, [.nilFunc]⟩),
  (40, ⟨true, .other, false, 1, [.nilFunc]⟩),
  (41, ⟨true, .other, false, 1, [.nilFunc]⟩),
  (42, ⟨true, .other, false, 1, [.nilFunc]⟩),
  (43, ⟨true, (.slice 21 1 4 false [.int .i32 0]), false, 1, [.slice none 0 0]⟩),
  (44, ⟨true, (.slice 5 1 1 false [.int .u8 0]), false, 1, [.slice none 0 0]⟩),
  (45, ⟨true, .other, false, 1, [.nilFunc]⟩),
  (46, ⟨true, (.struct [(0, 1, false), (1, 1, false), (2, 1, false), (3, 1, false)]), true, 4, [.pointer none, .pointer none, .pointer none, .string ⟨#[]⟩]⟩),
  (47, ⟨true, (.struct [(0, 1, false), (1, 1, false), (2, 1, false), (3, 1, false)]), true, 4, [.pointer none, .pointer none, .pointer none, .string ⟨#[]⟩]⟩),
  (48, ⟨true, (.array 0 1 false), true, 0, []⟩),
  (49, ⟨true, (.struct [(0, 0, true)]), true, 0, []⟩),
  (50, ⟨true, (.struct [(0, 0, true)]), true, 0, []⟩),
  (51, ⟨true, .other, false, 1, [.nilFunc]⟩),
  (52, ⟨true, (.int .u32), false, 1, [.int .u32 0]⟩),
  (53, ⟨true, (.int .u8), false, 1, [.int .u8 0]⟩),
  (54, ⟨true, (.int .u8), false, 1, [.int .u8 0]⟩),
  (55, ⟨true, .other, false, 1, [.nilFunc]⟩),
  (56, ⟨true, .other, false, 1, [.pointer none]⟩),
  (57, ⟨true, (.int .i32), false, 1, [.int .i32 0]⟩),
  (58, ⟨true, (.int .i32), false, 1, [.int .i32 0]⟩),
  (59, ⟨true, (.struct [(0, 1, false), (1, 1, false), (2, 1, false), (3, 1, false), (4, 1, false), (5, 1, false), (6, 1, false), (7, 1, false), (8, 1, false), (9, 1, false), (10, 1, false)]), true, 11, [.int .u64 0, .int .u64 0, .int .u32 0, .int .u8 0, .int .u8 0, .int .u8 0, .int .u8 0, .nilFunc, .pointer none, .int .i32 0, .int .i32 0]⟩),
  (60, ⟨true, (.struct [(0, 1, false), (1, 1, false), (2, 1, false), (3, 1, false), (4, 1, false), (5, 1, false), (6, 1, false), (7, 1, false), (8, 1, false), (9, 1, false), (10, 1, false)]), true, 11, [.int .u64 0, .int .u64 0, .int .u32 0, .int .u8 0, .int .u8 0, .int .u8 0, .int .u8 0, .nilFunc, .pointer none, .int .i32 0, .int .i32 0]⟩),
  (61, ⟨true, .other, false, 1, [.pointer none]⟩)]
theorem tys_ok : tys.map (fun x => tyOf Try.prog x.1) = tys.map (·.2) := by kernel_rfl
def T : Tab Try.prog := ⟨lookT tys, lookT_ok tys tys_ok⟩
theorem T1 : T.get 1 = ⟨true, .other, false, 1, [.nilFunc]⟩ := rfl
theorem T2 : T.get 2 = ⟨true, (.int .i64), false, 1, [.int .i64 0]⟩ := rfl
theorem T3 : T.get 3 = ⟨true, (.int .i64), false, 1, [.int .i64 0]⟩ := rfl
theorem T4 : T.get 4 = ⟨true, .bool, false, 1, [.bool false]⟩ := rfl
theorem T5 : T.get 5 = ⟨true, (.int .u8), false, 1, [.int .u8 0]⟩ := rfl
theorem T6 : T.get 6 = ⟨true, (.int .u8), false, 1, [.int .u8 0]⟩ := rfl
theorem T7 : T.get 7 = ⟨true, (.struct [(0, 1, false), (1, 1, false), (2, 1, false), (3, 1, false)]), true, 4, [.int .i64 0, .int .i64 0, .bool false, .int .u8 0]⟩ := rfl
theorem T8 : T.get 8 = ⟨true, (.struct [(0, 1, false), (1, 1, false), (2, 1, false), (3, 1, false)]), true, 4, [.int .i64 0, .int .i64 0, .bool false, .int .u8 0]⟩ := rfl
theorem T9 : T.get 9 = ⟨true, .str, false, 1, [.string ⟨#[]⟩]⟩ := rfl
theorem T10 : T.get 10 = ⟨true, .str, false, 1, [.string ⟨#[]⟩]⟩ := rfl
theorem T11 : T.get 11 = ⟨true, .str, false, 1, [.string ⟨#[]⟩]⟩ := rfl
theorem T12 : T.get 12 = ⟨true, (.int .u64), false, 1, [.int .u64 0]⟩ := rfl
theorem T13 : T.get 13 = ⟨true, (.struct [(0, 1, false), (1, 1, false)]), true, 2, [.string ⟨#[]⟩, .int .u64 0]⟩ := rfl
theorem T14 : T.get 14 = ⟨true, (.struct [(0, 1, false), (1, 1, false)]), true, 2, [.string ⟨#[]⟩, .int .u64 0]⟩ := rfl
theorem T15 : T.get 15 = ⟨true, .other, false, 1, [.pointer none]⟩ := rfl
theorem T16 : T.get 16 = ⟨true, .other, false, 1, [.pointer none]⟩ := rfl
theorem T17 : T.get 17 = ⟨true, .other, false, 1, [.pointer none]⟩ := rfl
theorem T18 : T.get 18 = ⟨true, (.struct [(0, 1, false)]), true, 1, [.pointer none]⟩ := rfl
theorem T19 : T.get 19 = ⟨true, (.struct [(0, 1, false)]), true, 1, [.pointer none]⟩ := rfl
theorem T20 : T.get 20 = ⟨true, .other, false, 1, [.nilIface]⟩ := rfl
theorem T21 : T.get 21 = ⟨true, (.int .i32), false, 1, [.int .i32 0]⟩ := rfl
theorem T22 : T.get 22 = ⟨true, .other, false, 1, [.nilFunc]⟩ := rfl
theorem T23 : T.get 23 = ⟨true, (.struct [(0, 1, false), (1, 1, false), (2, 1, false), (3, 1, false)]), true, 4, [.int .i64 0, .int .i64 0, .int .i64 0, .int .i64 0]⟩ := rfl
theorem T24 : T.get 24 = ⟨true, (.struct [(0, 1, false), (1, 1, false), (2, 1, false), (3, 1, false)]), true, 4, [.int .i64 0, .int .i64 0, .int .i64 0, .int .i64 0]⟩ := rfl
theorem T25 : T.get 25 = ⟨true, (.int .i64), false, 1, [.int .i64 0]⟩ := rfl
theorem T27 : T.get 27 = ⟨true, .other, false, 1, [.nilFunc]⟩ := rfl
theorem T28 : T.get 28 = ⟨true, .other, false, 1, [.nilFunc]⟩ := rfl
theorem T29 : T.get 29 = ⟨true, (.slice 24 4 32 true [.int .i64 0, .int .i64 0, .int .i64 0, .int .i64 0]), false, 1, [.slice none 0 0]⟩ := rfl
theorem T30 : T.get 30 = ⟨true, .other, false, 1, [.nilFunc]⟩ := rfl
theorem T31 : T.get 31 = ⟨true, .other, false, 1, [.nilFunc]⟩ := rfl
theorem T32 : T.get 32 = ⟨true, .other, false, 1, [.nilFunc]⟩ := rfl
theorem T33 : T.get 33 = ⟨true, .other, false, 1, [.nilFunc]⟩ := rfl
theorem T34 : T.get 34 = ⟨true, (.int .u16), false, 1, [.int .u16 0]⟩ := rfl
theorem T35 : T.get 35 = ⟨true, .other, false, 1, [.nilFunc]⟩ := rfl
theorem T36 : T.get 36 = ⟨true, .other, false, 1, [.nilFunc]⟩ := rfl
theorem T37 : T.get 37 = ⟨true, (.slice 9 1 16 false [.string ⟨#[]⟩]), false, 1, [.slice none 0 0]⟩ := rfl
theorem T38 : T.get 38 = ⟨true, .other, false, 1, [.nilFunc]⟩ := rfl
theorem T39 : T.get 39 = ⟨true, .other, false, 1, [.nilFunc]⟩ := rfl
theorem T40 : T.get 40 = ⟨true, .other, false, 1, [.nilFunc]⟩ := rfl
theorem T41 : T.get 41 = ⟨true, .other, false, 1, [.nilFunc]⟩ := rfl
theorem T42 : T.get 42 = ⟨true, .other, false, 1, [.nilFunc]⟩ := rfl
theorem T43 : T.get 43 = ⟨true, (.slice 21 1 4 false [.int .i32 0]), false, 1, [.slice none 0 0]⟩ := rfl
theorem T44 : T.get 44 = ⟨true, (.slice 5 1 1 false [.int .u8 0]), false, 1, [.slice none 0 0]⟩ := rfl
theorem T45 : T.get 45 = ⟨true, .other, false, 1, [.nilFunc]⟩ := rfl
theorem T46 : T.get 46 = ⟨true, (.struct [(0, 1, false), (1, 1, false), (2, 1, false), (3, 1, false)]), true, 4, [.pointer none, .pointer none, .pointer none, .string ⟨#[]⟩]⟩ := rfl
theorem T47 : T.get 47 = ⟨true, (.struct [(0, 1, false), (1, 1, false), (2, 1, false), (3, 1, false)]), true, 4, [.pointer none, .pointer none, .pointer none, .string ⟨#[]⟩]⟩ := rfl
theorem T48 : T.get 48 = ⟨true, (.array 0 1 false), true, 0, []⟩ := rfl
theorem T49 : T.get 49 = ⟨true, (.struct [(0, 0, true)]), true, 0, []⟩ := rfl
theorem T50 : T.get 50 = ⟨true, (.struct [(0, 0, true)]), true, 0, []⟩ := rfl
theorem T51 : T.get 51 = ⟨true, .other, false, 1, [.nilFunc]⟩ := rfl
theorem T52 : T.get 52 = ⟨true, (.int .u32), false, 1, [.int .u32 0]⟩ := rfl
theorem T53 : T.get 53 = ⟨true, (.int .u8), false, 1, [.int .u8 0]⟩ := rfl
theorem T54 : T.get 54 = ⟨true, (.int .u8), false, 1, [.int .u8 0]⟩ := rfl
theorem T55 : T.get 55 = ⟨true, .other, false, 1, [.nilFunc]⟩ := rfl
theorem T56 : T.get 56 = ⟨true, .other, false, 1, [.pointer none]⟩ := rfl
theorem T57 : T.get 57 = ⟨true, (.int .i32), false, 1, [.int .i32 0]⟩ := rfl
theorem T58 : T.get 58 = ⟨true, (.int .i32), false, 1, [.int .i32 0]⟩ := rfl
theorem T59 : T.get 59 = ⟨true, (.struct [(0, 1, false), (1, 1, false), (2, 1, false), (3, 1, false), (4, 1, false), (5, 1, false), (6, 1, false), (7, 1, false), (8, 1, false), (9, 1, false), (10, 1, false)]), true, 11, [.int .u64 0, .int .u64 0, .int .u32 0, .int .u8 0, .int .u8 0, .int .u8 0, .int .u8 0, .nilFunc, .pointer none, .int .i32 0, .int .i32 0]⟩ := rfl
theorem T60 : T.get 60 = ⟨true, (.struct [(0, 1, false), (1, 1, false), (2, 1, false), (3, 1, false), (4, 1, false), (5, 1, false), (6, 1, false), (7, 1, false), (8, 1, false), (9, 1, false), (10, 1, false)]), true, 11, [.int .u64 0, .int .u64 0, .int .u32 0, .int .u8 0, .int .u8 0, .int .u8 0, .int .u8 0, .nilFunc, .pointer none, .int .i32 0, .int .i32 0]⟩ := rfl
theorem T61 : T.get 61 = ⟨true, .other, false, 1, [.pointer none]⟩ := rfl
end Go.Proofs.Ytfldmapafdgpaaa
