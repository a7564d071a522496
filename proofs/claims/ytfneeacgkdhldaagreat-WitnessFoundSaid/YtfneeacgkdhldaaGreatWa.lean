/- The types of the program, as a walk asks them. No condition. -/
import Derived.Test.YtfneeacgkdhldaaGreatChecked
import Derived.Test.YtfneeacgkdhldaaGreatK2
namespace Go.Proofs.YtfneeacgkdhldaaGreat
set_option linter.unusedSimpArgs false
set_option linter.unusedVariables false
set_option maxRecDepth 100000
open Go Go.Proofs Go.Vc
def tys:List (TypeId×TyI):=[
 (1,⟨true,.other,false,1,[.nilFunc]⟩),
 (2,⟨true,(.int .i64),false,1,[.int .i64 0]⟩),
 (3,⟨true,(.int .i64),false,1,[.int .i64 0]⟩),
 (4,⟨true,.bool,false,1,[.bool false]⟩),
 (5,⟨true,(.int .u8),false,1,[.int .u8 0]⟩),
 (6,⟨true,(.int .u8),false,1,[.int .u8 0]⟩),
 (7,⟨true,(.struct [(0,1,false),(1,1,false),(2,1,false),(3,1,false)]),true,4,[.int .i64 0,.int .i64 0,.bool false,.int .u8 0]⟩),
 (8,⟨true,(.struct [(0,1,false),(1,1,false),(2,1,false),(3,1,false)]),true,4,[.int .i64 0,.int .i64 0,.bool false,.int .u8 0]⟩),
 (9,⟨true,.str,false,1,[.string ⟨#[]⟩]⟩),
 (10,⟨true,.str,false,1,[.string ⟨#[]⟩]⟩),
 (11,⟨true,.str,false,1,[.string ⟨#[]⟩]⟩),
 (12,⟨true,(.int .u64),false,1,[.int .u64 0]⟩),
 (13,⟨true,(.struct [(0,1,false),(1,1,false)]),true,2,[.string ⟨#[]⟩,.int .u64 0]⟩),
 (14,⟨true,(.struct [(0,1,false),(1,1,false)]),true,2,[.string ⟨#[]⟩,.int .u64 0]⟩),
 (15,⟨true,.other,false,1,[.pointer none]⟩),
 (16,⟨true,.other,false,1,[.pointer none]⟩),
 (17,⟨true,.other,false,1,[.pointer none]⟩),
 (18,⟨true,(.struct [(0,1,false)]),true,1,[.pointer none]⟩),
 (19,⟨true,(.struct [(0,1,false)]),true,1,[.pointer none]⟩),
 (20,⟨true,.other,false,1,[.nilIface]⟩),
 (21,⟨true,(.int .i32),false,1,[.int .i32 0]⟩),
 (22,⟨true,(.slice 3 1 8 false [.int .i64 0]),false,1,[.slice none 0 0]⟩),
 (23,⟨true,(.slice 53 1 24 false [.slice none 0 0]),false,1,[.slice none 0 0]⟩),
 (24,⟨true,(.struct [(0,1,false),(1,1,false),(2,1,false),(3,1,false)]),true,4,[.int .i64 0,.slice none 0 0,.slice none 0 0,.slice none 0 0]⟩),
 (25,⟨true,(.struct [(0,1,false),(1,1,false),(2,1,false),(3,1,false)]),true,4,[.int .i64 0,.slice none 0 0,.slice none 0 0,.slice none 0 0]⟩),
 (26,⟨true,(.struct [(0,4,true),(4,1,false),(5,1,false),(6,1,false)]),true,7,[.int .i64 0,.slice none 0 0,.slice none 0 0,.slice none 0 0,.int .i64 0,.int .i64 0,.int .i64 0]⟩),
 (27,⟨true,(.struct [(0,4,true),(4,1,false),(5,1,false),(6,1,false)]),true,7,[.int .i64 0,.slice none 0 0,.slice none 0 0,.slice none 0 0,.int .i64 0,.int .i64 0,.int .i64 0]⟩),
 (28,⟨true,.other,false,1,[.nilFunc]⟩),
 (29,⟨true,.other,false,1,[.nilFunc]⟩),
 (30,⟨true,(.slice 51 4 96 true [.slice none 0 0,.slice none 0 0,.slice none 0 0,.slice none 0 0]),false,1,[.slice none 0 0]⟩),
 (31,⟨true,(.struct [(0,1,false),(1,1,false),(2,1,false)]),true,3,[.slice none 0 0,.slice none 0 0,.slice none 0 0]⟩),
 (32,⟨true,(.struct [(0,1,false),(1,1,false),(2,1,false)]),true,3,[.slice none 0 0,.slice none 0 0,.slice none 0 0]⟩),
 (33,⟨true,(.struct [(0,1,false),(1,3,true),(4,1,false),(5,1,false)]),true,6,[.slice none 0 0,.slice none 0 0,.slice none 0 0,.slice none 0 0,.slice none 0 0,.slice none 0 0]⟩),
 (34,⟨true,(.struct [(0,1,false),(1,3,true),(4,1,false),(5,1,false)]),true,6,[.slice none 0 0,.slice none 0 0,.slice none 0 0,.slice none 0 0,.slice none 0 0,.slice none 0 0]⟩),
 (35,⟨true,(.int .i64),false,1,[.int .i64 0]⟩),
 (37,⟨true,.other,false,1,[.nilFunc]⟩),
 (38,⟨true,(.slice 73 1 24 false [.slice none 0 0]),false,1,[.slice none 0 0]⟩),
 (39,⟨true,.other,false,1,[.nilFunc]⟩),
 (40,⟨true,.other,false,1,[.nilFunc]⟩),
 (42,⟨true,.other,false,1,[.nilFunc]⟩),
 (43,⟨true,.other,false,1,[.nilFunc]⟩),
 (44,⟨true,.other,false,1,[.nilFunc]⟩),
 (45,⟨true,.other,false,1,[.nilFunc]⟩),
 (46,⟨true,.other,false,1,[.nilFunc]⟩),
 (47,⟨true,.other,false,1,[.nilFunc]⟩),
 (48,⟨true,(.slice 22 1 24 false [.slice none 0 0]),false,1,[.slice none 0 0]⟩),
 (49,⟨true,(.slice 117 1 24 false [.slice none 0 0]),false,1,[.slice none 0 0]⟩),
 (50,⟨true,(.struct [(0,1,false),(1,1,false),(2,1,false),(3,1,false)]),true,4,[.slice none 0 0,.slice none 0 0,.slice none 0 0,.slice none 0 0]⟩),
 (51,⟨true,(.struct [(0,1,false),(1,1,false),(2,1,false),(3,1,false)]),true,4,[.slice none 0 0,.slice none 0 0,.slice none 0 0,.slice none 0 0]⟩),
 (52,⟨true,.other,false,1,[.nilFunc]⟩),
 (53,⟨true,(.slice 56 7 88 true [.int .i64 0,.int .i64 0,.int .i64 0,.slice none 0 0,.slice none 0 0,.bool false,.int .i64 0]),false,1,[.slice none 0 0]⟩),
 (54,⟨true,(.slice 59 3 24 true [.int .i64 0,.int .i64 0,.int .i64 0]),false,1,[.slice none 0 0]⟩),
 (55,⟨true,(.struct [(0,1,false),(1,1,false),(2,1,false),(3,1,false),(4,1,false),(5,1,false),(6,1,false)]),true,7,[.int .i64 0,.int .i64 0,.int .i64 0,.slice none 0 0,.slice none 0 0,.bool false,.int .i64 0]⟩),
 (56,⟨true,(.struct [(0,1,false),(1,1,false),(2,1,false),(3,1,false),(4,1,false),(5,1,false),(6,1,false)]),true,7,[.int .i64 0,.int .i64 0,.int .i64 0,.slice none 0 0,.slice none 0 0,.bool false,.int .i64 0]⟩),
 (57,⟨true,.other,false,1,[.nilFunc]⟩),
 (58,⟨true,(.struct [(0,1,false),(1,1,false),(2,1,false)]),true,3,[.int .i64 0,.int .i64 0,.int .i64 0]⟩),
 (59,⟨true,(.struct [(0,1,false),(1,1,false),(2,1,false)]),true,3,[.int .i64 0,.int .i64 0,.int .i64 0]⟩),
 (60,⟨true,.other,false,1,[.nilFunc]⟩),
 (61,⟨true,.other,false,1,[.nilFunc]⟩),
 (63,⟨true,.other,false,1,[.nilFunc]⟩),
 (64,⟨true,(.slice 70 3 24 true [.int .i64 0,.int .i64 0,.int .i64 0]),false,1,[.slice none 0 0]⟩),
 (65,⟨true,.other,false,1,[.nilFunc]⟩),
 (67,⟨true,.other,false,1,[.nilFunc]⟩),
 (68,⟨true,.other,false,1,[.nilFunc]⟩),
 (69,⟨true,(.struct [(0,1,false),(1,1,false),(2,1,false)]),true,3,[.int .i64 0,.int .i64 0,.int .i64 0]⟩),
 (70,⟨true,(.struct [(0,1,false),(1,1,false),(2,1,false)]),true,3,[.int .i64 0,.int .i64 0,.int .i64 0]⟩),
 (72,⟨true,.other,false,1,[.nilFunc]⟩),
 (73,⟨true,(.slice 4 1 1 false [.bool false]),false,1,[.slice none 0 0]⟩),
 (74,⟨true,.other,false,1,[.nilFunc]⟩),
 (76,⟨true,.other,false,1,[.nilFunc]⟩),
 (77,⟨true,.other,false,1,[.nilFunc]⟩),
 (78,⟨true,.other,false,1,[.nilFunc]⟩),
 (79,⟨true,.other,false,1,[.pointer none]⟩),
 (81,⟨true,.other,false,1,[.nilFunc]⟩),
 (82,⟨true,(.struct [(0,4,true),(4,1,false),(5,1,false),(6,4,true)]),true,10,[.int .i64 0,.slice none 0 0,.slice none 0 0,.slice none 0 0,.int .i64 0,.int .i64 0,.slice none 0 0,.slice none 0 0,.slice none 0 0,.slice none 0 0]⟩),
 (83,⟨true,(.struct [(0,4,true),(4,1,false),(5,1,false),(6,4,true)]),true,10,[.int .i64 0,.slice none 0 0,.slice none 0 0,.slice none 0 0,.int .i64 0,.int .i64 0,.slice none 0 0,.slice none 0 0,.slice none 0 0,.slice none 0 0]⟩),
 (84,⟨true,.other,false,1,[.pointer none]⟩),
 (86,⟨true,.other,false,1,[.nilFunc]⟩),
 (87,⟨true,.other,false,1,[.nilFunc]⟩),
 (88,⟨true,.other,false,1,[.nilFunc]⟩),
 (89,⟨true,.other,false,1,[.nilFunc]⟩),
 (90,⟨true,.other,false,1,[.nilFunc]⟩),
 (91,⟨true,.other,false,1,[.nilFunc]⟩),
 (92,⟨true,.other,false,1,[.nilFunc]⟩),
 (93,⟨true,.other,false,1,[.nilFunc]⟩),
 (94,⟨true,.other,false,1,[.nilFunc]⟩),
 (95,⟨true,.other,false,1,[.nilFunc]⟩),
 (96,⟨true,.other,false,1,[.nilFunc]⟩),
 (97,⟨true,.other,false,1,[.nilFunc]⟩),
 (98,⟨true,.other,false,1,[.nilFunc]⟩),
 (100,⟨true,.other,false,1,[.nilFunc]⟩),
 (101,⟨true,.other,false,1,[.nilFunc]⟩),
 (102,⟨true,.other,false,1,[.nilFunc]⟩),
 (103,⟨true,.other,false,1,[.nilFunc]⟩),
 (104,⟨true,.other,false,1,[.nilFunc]⟩),
 (106,⟨true,.other,false,1,[.nilFunc]⟩),
 (107,⟨true,(.struct [(0,1,false),(1,1,false)]),true,2,[.slice none 0 0,.slice none 0 0]⟩),
 (108,⟨true,(.struct [(0,1,false),(1,1,false)]),true,2,[.slice none 0 0,.slice none 0 0]⟩),
 (109,⟨true,.other,false,1,[.nilFunc]⟩),
 (110,⟨true,.other,false,1,[.nilFunc]⟩),
 (111,⟨true,.other,false,1,[.nilFunc]⟩),
 (112,⟨true,.other,false,1,[.nilFunc]⟩),
 (113,⟨true,(.struct [(0,1,false),(1,1,false)]),true,2,[.int .i64 0,.int .i64 0]⟩),
 (114,⟨true,(.struct [(0,1,false),(1,1,false)]),true,2,[.int .i64 0,.int .i64 0]⟩),
 (115,⟨true,.other,false,1,[.nilFunc]⟩),
 (116,⟨true,.other,false,1,[.nilFunc]⟩),
 (117,⟨true,(.slice 114 2 16 true [.int .i64 0,.int .i64 0]),false,1,[.slice none 0 0]⟩),
 (118,⟨true,.other,false,1,[.nilFunc]⟩),
 (119,⟨true,.other,false,1,[.nilFunc]⟩),
 (120,⟨true,.other,false,1,[.nilFunc]⟩),
 (122,⟨true,.other,false,1,[.nilFunc]⟩),
 (123,⟨true,.other,false,1,[.nilFunc]⟩),
 (124,⟨true,.other,false,1,[.nilFunc]⟩),
 (125,⟨true,.other,false,1,[.nilFunc]⟩),
 (127,⟨true,.other,false,1,[.nilFunc]⟩),
 (128,⟨true,.other,false,1,[.nilFunc]⟩),
 (129,⟨true,.other,false,1,[.nilFunc]⟩),
 (130,⟨true,.other,false,1,[.nilFunc]⟩),
 (131,⟨true,.other,false,1,[.nilFunc]⟩),
 (132,⟨true,.other,false,1,[.nilFunc]⟩),
 (133,⟨true,.other,false,1,[.nilFunc]⟩),
 (134,⟨true,.other,false,1,[.nilFunc]⟩),
 (135,⟨true,.other,false,1,[.nilFunc]⟩),
 (136,⟨true,.other,false,1,[.nilFunc]⟩),
 (137,⟨true,.other,false,1,[.nilFunc]⟩),
 (138,⟨true,.other,false,1,[.nilFunc]⟩),
 (139,⟨true,.other,false,1,[.nilFunc]⟩),
 (140,⟨true,.other,false,1,[.nilFunc]⟩),
 (141,⟨true,.other,false,1,[.nilFunc]⟩),
 (142,⟨true,(.slice 145 1 16 false [.nilIface]),false,1,[.slice none 0 0]⟩),
 (143,⟨true,.other,false,1,[.nilFunc]⟩),
 (144,⟨true,.other,false,1,[.nilIface]⟩),
 (145,⟨true,.other,false,1,[.nilIface]⟩),
 (146,⟨true,.other,false,1,[.nilFunc]⟩),
 (147,⟨true,(.struct [(0,4,true),(4,4,true),(8,1,false),(9,1,false)]),true,10,[.int .i64 0,.slice none 0 0,.slice none 0 0,.slice none 0 0,.slice none 0 0,.slice none 0 0,.slice none 0 0,.slice none 0 0,.int .i64 0,.int .i64 0]⟩),
 (148,⟨true,(.struct [(0,4,true),(4,4,true),(8,1,false),(9,1,false)]),true,10,[.int .i64 0,.slice none 0 0,.slice none 0 0,.slice none 0 0,.slice none 0 0,.slice none 0 0,.slice none 0 0,.slice none 0 0,.int .i64 0,.int .i64 0]⟩),
 (150,⟨true,.other,false,1,[.nilFunc]⟩),
 (151,⟨true,.other,false,1,[.nilFunc]⟩),
 (153,⟨true,.other,false,1,[.nilFunc]⟩),
 (154,⟨true,.other,false,1,[.nilFunc]⟩),
 (155,⟨true,.other,false,1,[.nilFunc]⟩),
 (156,⟨true,.other,false,1,[.nilFunc]⟩),
 (157,⟨true,.other,false,1,[.nilFunc]⟩),
 (158,⟨true,.other,false,1,[.nilFunc]⟩),
 (159,⟨true,.other,false,1,[.nilFunc]⟩),
 (160,⟨true,(.int .i64),false,1,[.int .i64 0]⟩),
 (161,⟨true,(.struct [(0,1,false),(1,1,false)]),true,2,[.int .i64 0,.int .i64 0]⟩),
 (162,⟨true,(.struct [(0,1,false),(1,1,false)]),true,2,[.int .i64 0,.int .i64 0]⟩),
 (163,⟨true,.other,false,1,[.nilFunc]⟩),
 (164,⟨true,.other,false,1,[.nilFunc]⟩),
 (165,⟨true,.other,false,1,[.nilFunc]⟩),
 (166,⟨true,.other,false,1,[.nilFunc]⟩),
 (167,⟨true,.other,false,1,[.nilFunc]⟩),
 (168,⟨true,.other,false,1,[.nilFunc]⟩),
 (169,⟨true,(.struct [(0,1,false),(1,1,false),(2,1,false),(3,1,false),(4,1,false),(5,1,false)]),true,6,[.bool false,.bool false,.bool false,.bool false,.bool false,.bool false]⟩),
 (170,⟨true,(.struct [(0,1,false),(1,1,false),(2,1,false),(3,1,false),(4,1,false),(5,1,false)]),true,6,[.bool false,.bool false,.bool false,.bool false,.bool false,.bool false]⟩),
 (172,⟨true,.other,false,1,[.nilFunc]⟩),
 (173,⟨true,.other,false,1,[.nilFunc]⟩),
 (174,⟨true,.other,false,1,[.nilFunc]⟩),
 (175,⟨true,.other,false,1,[.map none]⟩),
 (176,⟨true,.other,false,1,[.nilFunc]⟩),
 (177,⟨true,(.struct [(0,1,false),(1,1,false)]),true,2,[.int .i64 0,.nilFunc]⟩),
 (178,⟨true,(.struct [(0,1,false),(1,1,false)]),true,2,[.int .i64 0,.nilFunc]⟩),
 (180,⟨true,.other,false,1,[.nilFunc]⟩),
 (181,⟨true,(.array 15 2 true),true,30,[.int .i64 0,.nilFunc,.int .i64 0,.nilFunc,.int .i64 0,.nilFunc,.int .i64 0,.nilFunc,.int .i64 0,.nilFunc,.int .i64 0,.nilFunc,.int .i64 0,.nilFunc,.int .i64 0,.nilFunc,.int .i64 0,.nilFunc,.int .i64 0,.nilFunc,.int .i64 0,.nilFunc,.int .i64 0,.nilFunc,.int .i64 0,.nilFunc,.int .i64 0,.nilFunc,.int .i64 0,.nilFunc]⟩),
 (182,⟨true,.other,false,1,[.nilFunc]⟩),
 (183,⟨true,(.struct [(0,1,false),(1,1,false),(2,1,false),(3,1,false)]),true,4,[.pointer none,.pointer none,.pointer none,.string ⟨#[]⟩]⟩),
 (184,⟨true,(.struct [(0,1,false),(1,1,false),(2,1,false),(3,1,false)]),true,4,[.pointer none,.pointer none,.pointer none,.string ⟨#[]⟩]⟩),
 (185,⟨true,(.array 0 1 false),true,0,[]⟩),
 (186,⟨true,(.struct [(0,0,true)]),true,0,[]⟩),
 (187,⟨true,(.struct [(0,0,true)]),true,0,[]⟩),
 (188,⟨true,.other,false,1,[.nilFunc]⟩),
 (189,⟨true,(.int .u32),false,1,[.int .u32 0]⟩),
 (190,⟨true,(.int .u8),false,1,[.int .u8 0]⟩),
 (191,⟨true,(.int .u8),false,1,[.int .u8 0]⟩),
 (192,⟨true,.other,false,1,[.nilFunc]⟩),
 (193,⟨true,.other,false,1,[.pointer none]⟩),
 (194,⟨true,(.int .i32),false,1,[.int .i32 0]⟩),
 (195,⟨true,(.int .i32),false,1,[.int .i32 0]⟩),
 (196,⟨true,(.struct [(0,1,false),(1,1,false),(2,1,false),(3,1,false),(4,1,false),(5,1,false),(6,1,false),(7,1,false),(8,1,false),(9,1,false),(10,1,false)]),true,11,[.int .u64 0,.int .u64 0,.int .u32 0,.int .u8 0,.int .u8 0,.int .u8 0,.int .u8 0,.nilFunc,.pointer none,.int .i32 0,.int .i32 0]⟩),
 (197,⟨true,(.struct [(0,1,false),(1,1,false),(2,1,false),(3,1,false),(4,1,false),(5,1,false),(6,1,false),(7,1,false),(8,1,false),(9,1,false),(10,1,false)]),true,11,[.int .u64 0,.int .u64 0,.int .u32 0,.int .u8 0,.int .u8 0,.int .u8 0,.int .u8 0,.nilFunc,.pointer none,.int .i32 0,.int .i32 0]⟩),
 (198,⟨true,.other,false,1,[.pointer none]⟩),
 (200,⟨true,.other,false,1,[.nilFunc]⟩),
 (201,⟨true,(.struct [(0,4,true),(4,4,true),(8,1,false),(9,1,false),(10,1,false),(11,7,true)]),true,18,[.int .i64 0,.slice none 0 0,.slice none 0 0,.slice none 0 0,.slice none 0 0,.slice none 0 0,.slice none 0 0,.slice none 0 0,.int .i64 0,.int .i64 0,.int .i64 0,.int .i64 0,.int .i64 0,.int .i64 0,.slice none 0 0,.slice none 0 0,.bool false,.int .i64 0]⟩),
 (202,⟨true,(.struct [(0,4,true),(4,4,true),(8,1,false),(9,1,false),(10,1,false),(11,7,true)]),true,18,[.int .i64 0,.slice none 0 0,.slice none 0 0,.slice none 0 0,.slice none 0 0,.slice none 0 0,.slice none 0 0,.slice none 0 0,.int .i64 0,.int .i64 0,.int .i64 0,.int .i64 0,.int .i64 0,.int .i64 0,.slice none 0 0,.slice none 0 0,.bool false,.int .i64 0]⟩),
 (203,⟨true,.other,false,1,[.nilFunc]⟩),
 (204,⟨true,.other,false,1,[.map none]⟩),
 (205,⟨true,.other,false,1,[.nilFunc]⟩),
 (207,⟨true,.other,false,1,[.nilFunc]⟩),
 (208,⟨true,.other,false,1,[.nilFunc]⟩),
 (209,⟨true,.other,false,1,[.nilFunc]⟩),
 (210,⟨true,.other,false,1,[.nilFunc]⟩),
 (211,⟨true,.other,false,1,[.pointer none]⟩)]
theorem ZpN:tys.map (fun x=>Zgr Tryz.prog x.1)=tys.map (·.2):=by kernel_rfl
def T:Tab Tryz.prog:=⟨Zey tys,ZhQ tys ZpN⟩
@[go_sem] theorem T1 : T.get 1 = ⟨true, .other, false, 1, [.nilFunc]⟩ := rfl
@[go_sem] theorem T2 : T.get 2 = ⟨true, (.int .i64), false, 1, [.int .i64 0]⟩ := rfl
@[go_sem] theorem T3 : T.get 3 = ⟨true, (.int .i64), false, 1, [.int .i64 0]⟩ := rfl
@[go_sem] theorem T4 : T.get 4 = ⟨true, .bool, false, 1, [.bool false]⟩ := rfl
@[go_sem] theorem T5 : T.get 5 = ⟨true, (.int .u8), false, 1, [.int .u8 0]⟩ := rfl
@[go_sem] theorem T6 : T.get 6 = ⟨true, (.int .u8), false, 1, [.int .u8 0]⟩ := rfl
@[go_sem] theorem T7 : T.get 7 = ⟨true, (.struct [(0, 1, false), (1, 1, false), (2, 1, false), (3, 1, false)]), true, 4, [.int .i64 0, .int .i64 0, .bool false, .int .u8 0]⟩ := rfl
@[go_sem] theorem T8 : T.get 8 = ⟨true, (.struct [(0, 1, false), (1, 1, false), (2, 1, false), (3, 1, false)]), true, 4, [.int .i64 0, .int .i64 0, .bool false, .int .u8 0]⟩ := rfl
@[go_sem] theorem T9 : T.get 9 = ⟨true, .str, false, 1, [.string ⟨#[]⟩]⟩ := rfl
@[go_sem] theorem T10 : T.get 10 = ⟨true, .str, false, 1, [.string ⟨#[]⟩]⟩ := rfl
@[go_sem] theorem T11 : T.get 11 = ⟨true, .str, false, 1, [.string ⟨#[]⟩]⟩ := rfl
@[go_sem] theorem T12 : T.get 12 = ⟨true, (.int .u64), false, 1, [.int .u64 0]⟩ := rfl
@[go_sem] theorem T13 : T.get 13 = ⟨true, (.struct [(0, 1, false), (1, 1, false)]), true, 2, [.string ⟨#[]⟩, .int .u64 0]⟩ := rfl
@[go_sem] theorem T14 : T.get 14 = ⟨true, (.struct [(0, 1, false), (1, 1, false)]), true, 2, [.string ⟨#[]⟩, .int .u64 0]⟩ := rfl
@[go_sem] theorem T15 : T.get 15 = ⟨true, .other, false, 1, [.pointer none]⟩ := rfl
@[go_sem] theorem T16 : T.get 16 = ⟨true, .other, false, 1, [.pointer none]⟩ := rfl
@[go_sem] theorem T17 : T.get 17 = ⟨true, .other, false, 1, [.pointer none]⟩ := rfl
@[go_sem] theorem T18 : T.get 18 = ⟨true, (.struct [(0, 1, false)]), true, 1, [.pointer none]⟩ := rfl
@[go_sem] theorem T19 : T.get 19 = ⟨true, (.struct [(0, 1, false)]), true, 1, [.pointer none]⟩ := rfl
@[go_sem] theorem T20 : T.get 20 = ⟨true, .other, false, 1, [.nilIface]⟩ := rfl
@[go_sem] theorem T21 : T.get 21 = ⟨true, (.int .i32), false, 1, [.int .i32 0]⟩ := rfl
@[go_sem] theorem T22 : T.get 22 = ⟨true, (.slice 3 1 8 false [.int .i64 0]), false, 1, [.slice none 0 0]⟩ := rfl
@[go_sem] theorem T23 : T.get 23 = ⟨true, (.slice 53 1 24 false [.slice none 0 0]), false, 1, [.slice none 0 0]⟩ := rfl
@[go_sem] theorem T24 : T.get 24 = ⟨true, (.struct [(0, 1, false), (1, 1, false), (2, 1, false), (3, 1, false)]), true, 4, [.int .i64 0, .slice none 0 0, .slice none 0 0, .slice none 0 0]⟩ := rfl
@[go_sem] theorem T25 : T.get 25 = ⟨true, (.struct [(0, 1, false), (1, 1, false), (2, 1, false), (3, 1, false)]), true, 4, [.int .i64 0, .slice none 0 0, .slice none 0 0, .slice none 0 0]⟩ := rfl
@[go_sem] theorem T26 : T.get 26 = ⟨true, (.struct [(0, 4, true), (4, 1, false), (5, 1, false), (6, 1, false)]), true, 7, [.int .i64 0, .slice none 0 0, .slice none 0 0, .slice none 0 0, .int .i64 0, .int .i64 0, .int .i64 0]⟩ := rfl
@[go_sem] theorem T27 : T.get 27 = ⟨true, (.struct [(0, 4, true), (4, 1, false), (5, 1, false), (6, 1, false)]), true, 7, [.int .i64 0, .slice none 0 0, .slice none 0 0, .slice none 0 0, .int .i64 0, .int .i64 0, .int .i64 0]⟩ := rfl
@[go_sem] theorem T28 : T.get 28 = ⟨true, .other, false, 1, [.nilFunc]⟩ := rfl
@[go_sem] theorem T29 : T.get 29 = ⟨true, .other, false, 1, [.nilFunc]⟩ := rfl
@[go_sem] theorem T30 : T.get 30 = ⟨true, (.slice 51 4 96 true [.slice none 0 0, .slice none 0 0, .slice none 0 0, .slice none 0 0]), false, 1, [.slice none 0 0]⟩ := rfl
@[go_sem] theorem T31 : T.get 31 = ⟨true, (.struct [(0, 1, false), (1, 1, false), (2, 1, false)]), true, 3, [.slice none 0 0, .slice none 0 0, .slice none 0 0]⟩ := rfl
@[go_sem] theorem T32 : T.get 32 = ⟨true, (.struct [(0, 1, false), (1, 1, false), (2, 1, false)]), true, 3, [.slice none 0 0, .slice none 0 0, .slice none 0 0]⟩ := rfl
@[go_sem] theorem T33 : T.get 33 = ⟨true, (.struct [(0, 1, false), (1, 3, true), (4, 1, false), (5, 1, false)]), true, 6, [.slice none 0 0, .slice none 0 0, .slice none 0 0, .slice none 0 0, .slice none 0 0, .slice none 0 0]⟩ := rfl
@[go_sem] theorem T34 : T.get 34 = ⟨true, (.struct [(0, 1, false), (1, 3, true), (4, 1, false), (5, 1, false)]), true, 6, [.slice none 0 0, .slice none 0 0, .slice none 0 0, .slice none 0 0, .slice none 0 0, .slice none 0 0]⟩ := rfl
@[go_sem] theorem T35 : T.get 35 = ⟨true, (.int .i64), false, 1, [.int .i64 0]⟩ := rfl
@[go_sem] theorem T37 : T.get 37 = ⟨true, .other, false, 1, [.nilFunc]⟩ := rfl
@[go_sem] theorem T38 : T.get 38 = ⟨true, (.slice 73 1 24 false [.slice none 0 0]), false, 1, [.slice none 0 0]⟩ := rfl
@[go_sem] theorem T39 : T.get 39 = ⟨true, .other, false, 1, [.nilFunc]⟩ := rfl
@[go_sem] theorem T40 : T.get 40 = ⟨true, .other, false, 1, [.nilFunc]⟩ := rfl
@[go_sem] theorem T42 : T.get 42 = ⟨true, .other, false, 1, [.nilFunc]⟩ := rfl
@[go_sem] theorem T43 : T.get 43 = ⟨true, .other, false, 1, [.nilFunc]⟩ := rfl
@[go_sem] theorem T44 : T.get 44 = ⟨true, .other, false, 1, [.nilFunc]⟩ := rfl
@[go_sem] theorem T45 : T.get 45 = ⟨true, .other, false, 1, [.nilFunc]⟩ := rfl
@[go_sem] theorem T46 : T.get 46 = ⟨true, .other, false, 1, [.nilFunc]⟩ := rfl
@[go_sem] theorem T47 : T.get 47 = ⟨true, .other, false, 1, [.nilFunc]⟩ := rfl
@[go_sem] theorem T48 : T.get 48 = ⟨true, (.slice 22 1 24 false [.slice none 0 0]), false, 1, [.slice none 0 0]⟩ := rfl
@[go_sem] theorem T49 : T.get 49 = ⟨true, (.slice 117 1 24 false [.slice none 0 0]), false, 1, [.slice none 0 0]⟩ := rfl
@[go_sem] theorem T50 : T.get 50 = ⟨true, (.struct [(0, 1, false), (1, 1, false), (2, 1, false), (3, 1, false)]), true, 4, [.slice none 0 0, .slice none 0 0, .slice none 0 0, .slice none 0 0]⟩ := rfl
@[go_sem] theorem T51 : T.get 51 = ⟨true, (.struct [(0, 1, false), (1, 1, false), (2, 1, false), (3, 1, false)]), true, 4, [.slice none 0 0, .slice none 0 0, .slice none 0 0, .slice none 0 0]⟩ := rfl
@[go_sem] theorem T52 : T.get 52 = ⟨true, .other, false, 1, [.nilFunc]⟩ := rfl
@[go_sem] theorem T53 : T.get 53 = ⟨true, (.slice 56 7 88 true [.int .i64 0, .int .i64 0, .int .i64 0, .slice none 0 0, .slice none 0 0, .bool false, .int .i64 0]), false, 1, [.slice none 0 0]⟩ := rfl
@[go_sem] theorem T54 : T.get 54 = ⟨true, (.slice 59 3 24 true [.int .i64 0, .int .i64 0, .int .i64 0]), false, 1, [.slice none 0 0]⟩ := rfl
@[go_sem] theorem T55 : T.get 55 = ⟨true, (.struct [(0, 1, false), (1, 1, false), (2, 1, false), (3, 1, false), (4, 1, false), (5, 1, false), (6, 1, false)]), true, 7, [.int .i64 0, .int .i64 0, .int .i64 0, .slice none 0 0, .slice none 0 0, .bool false, .int .i64 0]⟩ := rfl
@[go_sem] theorem T56 : T.get 56 = ⟨true, (.struct [(0, 1, false), (1, 1, false), (2, 1, false), (3, 1, false), (4, 1, false), (5, 1, false), (6, 1, false)]), true, 7, [.int .i64 0, .int .i64 0, .int .i64 0, .slice none 0 0, .slice none 0 0, .bool false, .int .i64 0]⟩ := rfl
@[go_sem] theorem T57 : T.get 57 = ⟨true, .other, false, 1, [.nilFunc]⟩ := rfl
@[go_sem] theorem T58 : T.get 58 = ⟨true, (.struct [(0, 1, false), (1, 1, false), (2, 1, false)]), true, 3, [.int .i64 0, .int .i64 0, .int .i64 0]⟩ := rfl
@[go_sem] theorem T59 : T.get 59 = ⟨true, (.struct [(0, 1, false), (1, 1, false), (2, 1, false)]), true, 3, [.int .i64 0, .int .i64 0, .int .i64 0]⟩ := rfl
@[go_sem] theorem T60 : T.get 60 = ⟨true, .other, false, 1, [.nilFunc]⟩ := rfl
@[go_sem] theorem T61 : T.get 61 = ⟨true, .other, false, 1, [.nilFunc]⟩ := rfl
@[go_sem] theorem T63 : T.get 63 = ⟨true, .other, false, 1, [.nilFunc]⟩ := rfl
@[go_sem] theorem T64 : T.get 64 = ⟨true, (.slice 70 3 24 true [.int .i64 0, .int .i64 0, .int .i64 0]), false, 1, [.slice none 0 0]⟩ := rfl
@[go_sem] theorem T65 : T.get 65 = ⟨true, .other, false, 1, [.nilFunc]⟩ := rfl
@[go_sem] theorem T67 : T.get 67 = ⟨true, .other, false, 1, [.nilFunc]⟩ := rfl
@[go_sem] theorem T68 : T.get 68 = ⟨true, .other, false, 1, [.nilFunc]⟩ := rfl
@[go_sem] theorem T69 : T.get 69 = ⟨true, (.struct [(0, 1, false), (1, 1, false), (2, 1, false)]), true, 3, [.int .i64 0, .int .i64 0, .int .i64 0]⟩ := rfl
@[go_sem] theorem T70 : T.get 70 = ⟨true, (.struct [(0, 1, false), (1, 1, false), (2, 1, false)]), true, 3, [.int .i64 0, .int .i64 0, .int .i64 0]⟩ := rfl
@[go_sem] theorem T72 : T.get 72 = ⟨true, .other, false, 1, [.nilFunc]⟩ := rfl
@[go_sem] theorem T73 : T.get 73 = ⟨true, (.slice 4 1 1 false [.bool false]), false, 1, [.slice none 0 0]⟩ := rfl
@[go_sem] theorem T74 : T.get 74 = ⟨true, .other, false, 1, [.nilFunc]⟩ := rfl
@[go_sem] theorem T76 : T.get 76 = ⟨true, .other, false, 1, [.nilFunc]⟩ := rfl
@[go_sem] theorem T77 : T.get 77 = ⟨true, .other, false, 1, [.nilFunc]⟩ := rfl
@[go_sem] theorem T78 : T.get 78 = ⟨true, .other, false, 1, [.nilFunc]⟩ := rfl
@[go_sem] theorem T79 : T.get 79 = ⟨true, .other, false, 1, [.pointer none]⟩ := rfl
@[go_sem] theorem T81 : T.get 81 = ⟨true, .other, false, 1, [.nilFunc]⟩ := rfl
@[go_sem] theorem T82 : T.get 82 = ⟨true, (.struct [(0, 4, true), (4, 1, false), (5, 1, false), (6, 4, true)]), true, 10, [.int .i64 0, .slice none 0 0, .slice none 0 0, .slice none 0 0, .int .i64 0, .int .i64 0, .slice none 0 0, .slice none 0 0, .slice none 0 0, .slice none 0 0]⟩ := rfl
@[go_sem] theorem T83 : T.get 83 = ⟨true, (.struct [(0, 4, true), (4, 1, false), (5, 1, false), (6, 4, true)]), true, 10, [.int .i64 0, .slice none 0 0, .slice none 0 0, .slice none 0 0, .int .i64 0, .int .i64 0, .slice none 0 0, .slice none 0 0, .slice none 0 0, .slice none 0 0]⟩ := rfl
@[go_sem] theorem T84 : T.get 84 = ⟨true, .other, false, 1, [.pointer none]⟩ := rfl
@[go_sem] theorem T86 : T.get 86 = ⟨true, .other, false, 1, [.nilFunc]⟩ := rfl
@[go_sem] theorem T87 : T.get 87 = ⟨true, .other, false, 1, [.nilFunc]⟩ := rfl
@[go_sem] theorem T88 : T.get 88 = ⟨true, .other, false, 1, [.nilFunc]⟩ := rfl
@[go_sem] theorem T89 : T.get 89 = ⟨true, .other, false, 1, [.nilFunc]⟩ := rfl
@[go_sem] theorem T90 : T.get 90 = ⟨true, .other, false, 1, [.nilFunc]⟩ := rfl
@[go_sem] theorem T91 : T.get 91 = ⟨true, .other, false, 1, [.nilFunc]⟩ := rfl
@[go_sem] theorem T92 : T.get 92 = ⟨true, .other, false, 1, [.nilFunc]⟩ := rfl
@[go_sem] theorem T93 : T.get 93 = ⟨true, .other, false, 1, [.nilFunc]⟩ := rfl
@[go_sem] theorem T94 : T.get 94 = ⟨true, .other, false, 1, [.nilFunc]⟩ := rfl
@[go_sem] theorem T95 : T.get 95 = ⟨true, .other, false, 1, [.nilFunc]⟩ := rfl
@[go_sem] theorem T96 : T.get 96 = ⟨true, .other, false, 1, [.nilFunc]⟩ := rfl
@[go_sem] theorem T97 : T.get 97 = ⟨true, .other, false, 1, [.nilFunc]⟩ := rfl
@[go_sem] theorem T98 : T.get 98 = ⟨true, .other, false, 1, [.nilFunc]⟩ := rfl
@[go_sem] theorem T100 : T.get 100 = ⟨true, .other, false, 1, [.nilFunc]⟩ := rfl
@[go_sem] theorem T101 : T.get 101 = ⟨true, .other, false, 1, [.nilFunc]⟩ := rfl
@[go_sem] theorem T102 : T.get 102 = ⟨true, .other, false, 1, [.nilFunc]⟩ := rfl
@[go_sem] theorem T103 : T.get 103 = ⟨true, .other, false, 1, [.nilFunc]⟩ := rfl
@[go_sem] theorem T104 : T.get 104 = ⟨true, .other, false, 1, [.nilFunc]⟩ := rfl
@[go_sem] theorem T106 : T.get 106 = ⟨true, .other, false, 1, [.nilFunc]⟩ := rfl
@[go_sem] theorem T107 : T.get 107 = ⟨true, (.struct [(0, 1, false), (1, 1, false)]), true, 2, [.slice none 0 0, .slice none 0 0]⟩ := rfl
@[go_sem] theorem T108 : T.get 108 = ⟨true, (.struct [(0, 1, false), (1, 1, false)]), true, 2, [.slice none 0 0, .slice none 0 0]⟩ := rfl
@[go_sem] theorem T109 : T.get 109 = ⟨true, .other, false, 1, [.nilFunc]⟩ := rfl
@[go_sem] theorem T110 : T.get 110 = ⟨true, .other, false, 1, [.nilFunc]⟩ := rfl
@[go_sem] theorem T111 : T.get 111 = ⟨true, .other, false, 1, [.nilFunc]⟩ := rfl
@[go_sem] theorem T112 : T.get 112 = ⟨true, .other, false, 1, [.nilFunc]⟩ := rfl
@[go_sem] theorem T113 : T.get 113 = ⟨true, (.struct [(0, 1, false), (1, 1, false)]), true, 2, [.int .i64 0, .int .i64 0]⟩ := rfl
@[go_sem] theorem T114 : T.get 114 = ⟨true, (.struct [(0, 1, false), (1, 1, false)]), true, 2, [.int .i64 0, .int .i64 0]⟩ := rfl
@[go_sem] theorem T115 : T.get 115 = ⟨true, .other, false, 1, [.nilFunc]⟩ := rfl
@[go_sem] theorem T116 : T.get 116 = ⟨true, .other, false, 1, [.nilFunc]⟩ := rfl
@[go_sem] theorem T117 : T.get 117 = ⟨true, (.slice 114 2 16 true [.int .i64 0, .int .i64 0]), false, 1, [.slice none 0 0]⟩ := rfl
@[go_sem] theorem T118 : T.get 118 = ⟨true, .other, false, 1, [.nilFunc]⟩ := rfl
@[go_sem] theorem T119 : T.get 119 = ⟨true, .other, false, 1, [.nilFunc]⟩ := rfl
@[go_sem] theorem T120 : T.get 120 = ⟨true, .other, false, 1, [.nilFunc]⟩ := rfl
@[go_sem] theorem T122 : T.get 122 = ⟨true, .other, false, 1, [.nilFunc]⟩ := rfl
@[go_sem] theorem T123 : T.get 123 = ⟨true, .other, false, 1, [.nilFunc]⟩ := rfl
@[go_sem] theorem T124 : T.get 124 = ⟨true, .other, false, 1, [.nilFunc]⟩ := rfl
@[go_sem] theorem T125 : T.get 125 = ⟨true, .other, false, 1, [.nilFunc]⟩ := rfl
@[go_sem] theorem T127 : T.get 127 = ⟨true, .other, false, 1, [.nilFunc]⟩ := rfl
@[go_sem] theorem T128 : T.get 128 = ⟨true, .other, false, 1, [.nilFunc]⟩ := rfl
@[go_sem] theorem T129 : T.get 129 = ⟨true, .other, false, 1, [.nilFunc]⟩ := rfl
@[go_sem] theorem T130 : T.get 130 = ⟨true, .other, false, 1, [.nilFunc]⟩ := rfl
@[go_sem] theorem T131 : T.get 131 = ⟨true, .other, false, 1, [.nilFunc]⟩ := rfl
@[go_sem] theorem T132 : T.get 132 = ⟨true, .other, false, 1, [.nilFunc]⟩ := rfl
@[go_sem] theorem T133 : T.get 133 = ⟨true, .other, false, 1, [.nilFunc]⟩ := rfl
@[go_sem] theorem T134 : T.get 134 = ⟨true, .other, false, 1, [.nilFunc]⟩ := rfl
@[go_sem] theorem T135 : T.get 135 = ⟨true, .other, false, 1, [.nilFunc]⟩ := rfl
@[go_sem] theorem T136 : T.get 136 = ⟨true, .other, false, 1, [.nilFunc]⟩ := rfl
@[go_sem] theorem T137 : T.get 137 = ⟨true, .other, false, 1, [.nilFunc]⟩ := rfl
@[go_sem] theorem T138 : T.get 138 = ⟨true, .other, false, 1, [.nilFunc]⟩ := rfl
@[go_sem] theorem T139 : T.get 139 = ⟨true, .other, false, 1, [.nilFunc]⟩ := rfl
@[go_sem] theorem T140 : T.get 140 = ⟨true, .other, false, 1, [.nilFunc]⟩ := rfl
@[go_sem] theorem T141 : T.get 141 = ⟨true, .other, false, 1, [.nilFunc]⟩ := rfl
@[go_sem] theorem T142 : T.get 142 = ⟨true, (.slice 145 1 16 false [.nilIface]), false, 1, [.slice none 0 0]⟩ := rfl
@[go_sem] theorem T143 : T.get 143 = ⟨true, .other, false, 1, [.nilFunc]⟩ := rfl
@[go_sem] theorem T144 : T.get 144 = ⟨true, .other, false, 1, [.nilIface]⟩ := rfl
@[go_sem] theorem T145 : T.get 145 = ⟨true, .other, false, 1, [.nilIface]⟩ := rfl
@[go_sem] theorem T146 : T.get 146 = ⟨true, .other, false, 1, [.nilFunc]⟩ := rfl
@[go_sem] theorem T147 : T.get 147 = ⟨true, (.struct [(0, 4, true), (4, 4, true), (8, 1, false), (9, 1, false)]), true, 10, [.int .i64 0, .slice none 0 0, .slice none 0 0, .slice none 0 0, .slice none 0 0, .slice none 0 0, .slice none 0 0, .slice none 0 0, .int .i64 0, .int .i64 0]⟩ := rfl
@[go_sem] theorem T148 : T.get 148 = ⟨true, (.struct [(0, 4, true), (4, 4, true), (8, 1, false), (9, 1, false)]), true, 10, [.int .i64 0, .slice none 0 0, .slice none 0 0, .slice none 0 0, .slice none 0 0, .slice none 0 0, .slice none 0 0, .slice none 0 0, .int .i64 0, .int .i64 0]⟩ := rfl
@[go_sem] theorem T150 : T.get 150 = ⟨true, .other, false, 1, [.nilFunc]⟩ := rfl
@[go_sem] theorem T151 : T.get 151 = ⟨true, .other, false, 1, [.nilFunc]⟩ := rfl
@[go_sem] theorem T153 : T.get 153 = ⟨true, .other, false, 1, [.nilFunc]⟩ := rfl
@[go_sem] theorem T154 : T.get 154 = ⟨true, .other, false, 1, [.nilFunc]⟩ := rfl
@[go_sem] theorem T155 : T.get 155 = ⟨true, .other, false, 1, [.nilFunc]⟩ := rfl
@[go_sem] theorem T156 : T.get 156 = ⟨true, .other, false, 1, [.nilFunc]⟩ := rfl
@[go_sem] theorem T157 : T.get 157 = ⟨true, .other, false, 1, [.nilFunc]⟩ := rfl
@[go_sem] theorem T158 : T.get 158 = ⟨true, .other, false, 1, [.nilFunc]⟩ := rfl
@[go_sem] theorem T159 : T.get 159 = ⟨true, .other, false, 1, [.nilFunc]⟩ := rfl
@[go_sem] theorem T160 : T.get 160 = ⟨true, (.int .i64), false, 1, [.int .i64 0]⟩ := rfl
@[go_sem] theorem T161 : T.get 161 = ⟨true, (.struct [(0, 1, false), (1, 1, false)]), true, 2, [.int .i64 0, .int .i64 0]⟩ := rfl
@[go_sem] theorem T162 : T.get 162 = ⟨true, (.struct [(0, 1, false), (1, 1, false)]), true, 2, [.int .i64 0, .int .i64 0]⟩ := rfl
@[go_sem] theorem T163 : T.get 163 = ⟨true, .other, false, 1, [.nilFunc]⟩ := rfl
@[go_sem] theorem T164 : T.get 164 = ⟨true, .other, false, 1, [.nilFunc]⟩ := rfl
@[go_sem] theorem T165 : T.get 165 = ⟨true, .other, false, 1, [.nilFunc]⟩ := rfl
@[go_sem] theorem T166 : T.get 166 = ⟨true, .other, false, 1, [.nilFunc]⟩ := rfl
@[go_sem] theorem T167 : T.get 167 = ⟨true, .other, false, 1, [.nilFunc]⟩ := rfl
@[go_sem] theorem T168 : T.get 168 = ⟨true, .other, false, 1, [.nilFunc]⟩ := rfl
@[go_sem] theorem T169 : T.get 169 = ⟨true, (.struct [(0, 1, false), (1, 1, false), (2, 1, false), (3, 1, false), (4, 1, false), (5, 1, false)]), true, 6, [.bool false, .bool false, .bool false, .bool false, .bool false, .bool false]⟩ := rfl
@[go_sem] theorem T170 : T.get 170 = ⟨true, (.struct [(0, 1, false), (1, 1, false), (2, 1, false), (3, 1, false), (4, 1, false), (5, 1, false)]), true, 6, [.bool false, .bool false, .bool false, .bool false, .bool false, .bool false]⟩ := rfl
@[go_sem] theorem T172 : T.get 172 = ⟨true, .other, false, 1, [.nilFunc]⟩ := rfl
@[go_sem] theorem T173 : T.get 173 = ⟨true, .other, false, 1, [.nilFunc]⟩ := rfl
@[go_sem] theorem T174 : T.get 174 = ⟨true, .other, false, 1, [.nilFunc]⟩ := rfl
@[go_sem] theorem T175 : T.get 175 = ⟨true, .other, false, 1, [.map none]⟩ := rfl
@[go_sem] theorem T176 : T.get 176 = ⟨true, .other, false, 1, [.nilFunc]⟩ := rfl
@[go_sem] theorem T177 : T.get 177 = ⟨true, (.struct [(0, 1, false), (1, 1, false)]), true, 2, [.int .i64 0, .nilFunc]⟩ := rfl
@[go_sem] theorem T178 : T.get 178 = ⟨true, (.struct [(0, 1, false), (1, 1, false)]), true, 2, [.int .i64 0, .nilFunc]⟩ := rfl
@[go_sem] theorem T180 : T.get 180 = ⟨true, .other, false, 1, [.nilFunc]⟩ := rfl
@[go_sem] theorem T181 : T.get 181 = ⟨true, (.array 15 2 true), true, 30, [.int .i64 0, .nilFunc, .int .i64 0, .nilFunc, .int .i64 0, .nilFunc, .int .i64 0, .nilFunc, .int .i64 0, .nilFunc, .int .i64 0, .nilFunc, .int .i64 0, .nilFunc, .int .i64 0, .nilFunc, .int .i64 0, .nilFunc, .int .i64 0, .nilFunc, .int .i64 0, .nilFunc, .int .i64 0, .nilFunc, .int .i64 0, .nilFunc, .int .i64 0, .nilFunc, .int .i64 0, .nilFunc]⟩ := rfl
@[go_sem] theorem T182 : T.get 182 = ⟨true, .other, false, 1, [.nilFunc]⟩ := rfl
@[go_sem] theorem T183 : T.get 183 = ⟨true, (.struct [(0, 1, false), (1, 1, false), (2, 1, false), (3, 1, false)]), true, 4, [.pointer none, .pointer none, .pointer none, .string ⟨#[]⟩]⟩ := rfl
@[go_sem] theorem T184 : T.get 184 = ⟨true, (.struct [(0, 1, false), (1, 1, false), (2, 1, false), (3, 1, false)]), true, 4, [.pointer none, .pointer none, .pointer none, .string ⟨#[]⟩]⟩ := rfl
@[go_sem] theorem T185 : T.get 185 = ⟨true, (.array 0 1 false), true, 0, []⟩ := rfl
@[go_sem] theorem T186 : T.get 186 = ⟨true, (.struct [(0, 0, true)]), true, 0, []⟩ := rfl
@[go_sem] theorem T187 : T.get 187 = ⟨true, (.struct [(0, 0, true)]), true, 0, []⟩ := rfl
@[go_sem] theorem T188 : T.get 188 = ⟨true, .other, false, 1, [.nilFunc]⟩ := rfl
@[go_sem] theorem T189 : T.get 189 = ⟨true, (.int .u32), false, 1, [.int .u32 0]⟩ := rfl
@[go_sem] theorem T190 : T.get 190 = ⟨true, (.int .u8), false, 1, [.int .u8 0]⟩ := rfl
@[go_sem] theorem T191 : T.get 191 = ⟨true, (.int .u8), false, 1, [.int .u8 0]⟩ := rfl
@[go_sem] theorem T192 : T.get 192 = ⟨true, .other, false, 1, [.nilFunc]⟩ := rfl
@[go_sem] theorem T193 : T.get 193 = ⟨true, .other, false, 1, [.pointer none]⟩ := rfl
@[go_sem] theorem T194 : T.get 194 = ⟨true, (.int .i32), false, 1, [.int .i32 0]⟩ := rfl
@[go_sem] theorem T195 : T.get 195 = ⟨true, (.int .i32), false, 1, [.int .i32 0]⟩ := rfl
@[go_sem] theorem T196 : T.get 196 = ⟨true, (.struct [(0, 1, false), (1, 1, false), (2, 1, false), (3, 1, false), (4, 1, false), (5, 1, false), (6, 1, false), (7, 1, false), (8, 1, false), (9, 1, false), (10, 1, false)]), true, 11, [.int .u64 0, .int .u64 0, .int .u32 0, .int .u8 0, .int .u8 0, .int .u8 0, .int .u8 0, .nilFunc, .pointer none, .int .i32 0, .int .i32 0]⟩ := rfl
@[go_sem] theorem T197 : T.get 197 = ⟨true, (.struct [(0, 1, false), (1, 1, false), (2, 1, false), (3, 1, false), (4, 1, false), (5, 1, false), (6, 1, false), (7, 1, false), (8, 1, false), (9, 1, false), (10, 1, false)]), true, 11, [.int .u64 0, .int .u64 0, .int .u32 0, .int .u8 0, .int .u8 0, .int .u8 0, .int .u8 0, .nilFunc, .pointer none, .int .i32 0, .int .i32 0]⟩ := rfl
@[go_sem] theorem T198 : T.get 198 = ⟨true, .other, false, 1, [.pointer none]⟩ := rfl
@[go_sem] theorem T200 : T.get 200 = ⟨true, .other, false, 1, [.nilFunc]⟩ := rfl
@[go_sem] theorem T201 : T.get 201 = ⟨true, (.struct [(0, 4, true), (4, 4, true), (8, 1, false), (9, 1, false), (10, 1, false), (11, 7, true)]), true, 18, [.int .i64 0, .slice none 0 0, .slice none 0 0, .slice none 0 0, .slice none 0 0, .slice none 0 0, .slice none 0 0, .slice none 0 0, .int .i64 0, .int .i64 0, .int .i64 0, .int .i64 0, .int .i64 0, .int .i64 0, .slice none 0 0, .slice none 0 0, .bool false, .int .i64 0]⟩ := rfl
@[go_sem] theorem T202 : T.get 202 = ⟨true, (.struct [(0, 4, true), (4, 4, true), (8, 1, false), (9, 1, false), (10, 1, false), (11, 7, true)]), true, 18, [.int .i64 0, .slice none 0 0, .slice none 0 0, .slice none 0 0, .slice none 0 0, .slice none 0 0, .slice none 0 0, .slice none 0 0, .int .i64 0, .int .i64 0, .int .i64 0, .int .i64 0, .int .i64 0, .int .i64 0, .slice none 0 0, .slice none 0 0, .bool false, .int .i64 0]⟩ := rfl
@[go_sem] theorem T203 : T.get 203 = ⟨true, .other, false, 1, [.nilFunc]⟩ := rfl
@[go_sem] theorem T204 : T.get 204 = ⟨true, .other, false, 1, [.map none]⟩ := rfl
@[go_sem] theorem T205 : T.get 205 = ⟨true, .other, false, 1, [.nilFunc]⟩ := rfl
@[go_sem] theorem T207 : T.get 207 = ⟨true, .other, false, 1, [.nilFunc]⟩ := rfl
@[go_sem] theorem T208 : T.get 208 = ⟨true, .other, false, 1, [.nilFunc]⟩ := rfl
@[go_sem] theorem T209 : T.get 209 = ⟨true, .other, false, 1, [.nilFunc]⟩ := rfl
@[go_sem] theorem T210 : T.get 210 = ⟨true, .other, false, 1, [.nilFunc]⟩ := rfl
@[go_sem] theorem T211 : T.get 211 = ⟨true, .other, false, 1, [.pointer none]⟩ := rfl
end Go.Proofs.YtfneeacgkdhldaaGreat
