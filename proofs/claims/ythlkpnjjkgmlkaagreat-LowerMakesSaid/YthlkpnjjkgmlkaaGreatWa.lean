/- The types of the program, as a walk asks them. No condition. -/
import Derived.Test.YthlkpnjjkgmlkaaGreatChecked
import Derived.Test.YthlkpnjjkgmlkaaGreatK2
namespace Go.Proofs.YthlkpnjjkgmlkaaGreat
set_option linter.unusedSimpArgs false
set_option linter.unusedVariables false
set_option maxRecDepth 100000
open Go Go.Proofs Go.Vc
def tys:List (TypeId×TyI):=[
 (1,⟨true,.other,false,1,[.nilFunc]⟩),
 (2,⟨true,(.int .i64),false,1,[.int .i64 0]⟩),
 (3,⟨true,(.int .i64),false,1,[.int .i64 0]⟩),
 (4,⟨true,.bool,false,1,[.bool false]⟩),
 (5,⟨true,(.int .u8),false,1,[.int .u8 0]⟩),
 (6,⟨true,(.int .u8),false,1,[.int .u8 0]⟩),
 (7,⟨true,(.struct [(0,1,false),(1,1,false),(2,1,false),(3,1,false)]),true,4,[.int .i64 0,.int .i64 0,.bool false,.int .u8 0]⟩),
 (8,⟨true,(.struct [(0,1,false),(1,1,false),(2,1,false),(3,1,false)]),true,4,[.int .i64 0,.int .i64 0,.bool false,.int .u8 0]⟩),
 (9,⟨true,.str,false,1,[.string ⟨#[]⟩]⟩),
 (10,⟨true,.str,false,1,[.string ⟨#[]⟩]⟩),
 (11,⟨true,.str,false,1,[.string ⟨#[]⟩]⟩),
 (12,⟨true,(.int .u64),false,1,[.int .u64 0]⟩),
 (13,⟨true,(.struct [(0,1,false),(1,1,false)]),true,2,[.string ⟨#[]⟩,.int .u64 0]⟩),
 (14,⟨true,(.struct [(0,1,false),(1,1,false)]),true,2,[.string ⟨#[]⟩,.int .u64 0]⟩),
 (15,⟨true,.other,false,1,[.pointer none]⟩),
 (16,⟨true,.other,false,1,[.pointer none]⟩),
 (17,⟨true,.other,false,1,[.pointer none]⟩),
 (18,⟨true,(.struct [(0,1,false)]),true,1,[.pointer none]⟩),
 (19,⟨true,(.struct [(0,1,false)]),true,1,[.pointer none]⟩),
 (20,⟨true,.other,false,1,[.nilIface]⟩),
 (21,⟨true,(.int .i32),false,1,[.int .i32 0]⟩),
 (22,⟨true,(.slice 39 3 32 true [.string ⟨#[]⟩,.int .i64 0,.int .i64 0]),false,1,[.slice none 0 0]⟩),
 (23,⟨true,(.slice 45 4 72 true [.string ⟨#[]⟩,.slice none 0 0,.slice none 0 0,.int .i64 0]),false,1,[.slice none 0 0]⟩),
 (24,⟨true,(.slice 80 3 40 true [.int .i64 0,.slice none 0 0,.int .i64 0]),false,1,[.slice none 0 0]⟩),
 (25,⟨true,(.struct [(0,1,false),(1,1,false),(2,1,false),(3,1,false)]),true,4,[.int .i64 0,.slice none 0 0,.slice none 0 0,.slice none 0 0]⟩),
 (26,⟨true,(.struct [(0,1,false),(1,1,false),(2,1,false),(3,1,false)]),true,4,[.int .i64 0,.slice none 0 0,.slice none 0 0,.slice none 0 0]⟩),
 (27,⟨true,.other,false,1,[.nilFunc]⟩),
 (28,⟨true,.other,false,1,[.nilFunc]⟩),
 (29,⟨true,(.slice 3 1 8 false [.int .i64 0]),false,1,[.slice none 0 0]⟩),
 (30,⟨true,(.slice 41 1 24 false [.slice none 0 0]),false,1,[.slice none 0 0]⟩),
 (31,⟨true,(.struct [(0,1,false),(1,1,false),(2,1,false),(3,1,false)]),true,4,[.int .i64 0,.slice none 0 0,.slice none 0 0,.slice none 0 0]⟩),
 (32,⟨true,(.struct [(0,1,false),(1,1,false),(2,1,false),(3,1,false)]),true,4,[.int .i64 0,.slice none 0 0,.slice none 0 0,.slice none 0 0]⟩),
 (33,⟨true,(.int .i64),false,1,[.int .i64 0]⟩),
 (35,⟨true,.other,false,1,[.nilFunc]⟩),
 (36,⟨true,.other,false,1,[.nilFunc]⟩),
 (37,⟨true,(.slice 9 1 16 false [.string ⟨#[]⟩]),false,1,[.slice none 0 0]⟩),
 (38,⟨true,(.struct [(0,1,false),(1,1,false),(2,1,false)]),true,3,[.string ⟨#[]⟩,.int .i64 0,.int .i64 0]⟩),
 (39,⟨true,(.struct [(0,1,false),(1,1,false),(2,1,false)]),true,3,[.string ⟨#[]⟩,.int .i64 0,.int .i64 0]⟩),
 (40,⟨true,.other,false,1,[.nilFunc]⟩),
 (41,⟨true,(.slice 104 7 88 true [.int .i64 0,.int .i64 0,.int .i64 0,.slice none 0 0,.slice none 0 0,.bool false,.int .i64 0]),false,1,[.slice none 0 0]⟩),
 (42,⟨true,.other,false,1,[.nilFunc]⟩),
 (43,⟨true,(.slice 50 9 120 true [.int .i64 0,.string ⟨#[]⟩,.string ⟨#[]⟩,.slice none 0 0,.slice none 0 0,.bool false,.int .i64 0,.int .i64 0,.int .i64 0]),false,1,[.slice none 0 0]⟩),
 (44,⟨true,(.struct [(0,1,false),(1,1,false),(2,1,false),(3,1,false)]),true,4,[.string ⟨#[]⟩,.slice none 0 0,.slice none 0 0,.int .i64 0]⟩),
 (45,⟨true,(.struct [(0,1,false),(1,1,false),(2,1,false),(3,1,false)]),true,4,[.string ⟨#[]⟩,.slice none 0 0,.slice none 0 0,.int .i64 0]⟩),
 (46,⟨true,.other,false,1,[.nilFunc]⟩),
 (47,⟨true,.other,false,1,[.nilFunc]⟩),
 (48,⟨true,(.slice 127 5 56 true [.int .i64 0,.int .i64 0,.string ⟨#[]⟩,.string ⟨#[]⟩,.int .i64 0]),false,1,[.slice none 0 0]⟩),
 (49,⟨true,(.struct [(0,1,false),(1,1,false),(2,1,false),(3,1,false),(4,1,false),(5,1,false),(6,1,false),(7,1,false),(8,1,false)]),true,9,[.int .i64 0,.string ⟨#[]⟩,.string ⟨#[]⟩,.slice none 0 0,.slice none 0 0,.bool false,.int .i64 0,.int .i64 0,.int .i64 0]⟩),
 (50,⟨true,(.struct [(0,1,false),(1,1,false),(2,1,false),(3,1,false),(4,1,false),(5,1,false),(6,1,false),(7,1,false),(8,1,false)]),true,9,[.int .i64 0,.string ⟨#[]⟩,.string ⟨#[]⟩,.slice none 0 0,.slice none 0 0,.bool false,.int .i64 0,.int .i64 0,.int .i64 0]⟩),
 (51,⟨true,(.struct [(0,4,true),(4,1,false),(5,1,false),(6,1,false)]),true,7,[.int .i64 0,.slice none 0 0,.slice none 0 0,.slice none 0 0,.int .i64 0,.int .i64 0,.int .i64 0]⟩),
 (52,⟨true,(.struct [(0,4,true),(4,1,false),(5,1,false),(6,1,false)]),true,7,[.int .i64 0,.slice none 0 0,.slice none 0 0,.slice none 0 0,.int .i64 0,.int .i64 0,.int .i64 0]⟩),
 (53,⟨true,(.slice 69 4 96 true [.slice none 0 0,.slice none 0 0,.slice none 0 0,.slice none 0 0]),false,1,[.slice none 0 0]⟩),
 (54,⟨true,(.struct [(0,1,false),(1,1,false),(2,1,false)]),true,3,[.slice none 0 0,.slice none 0 0,.slice none 0 0]⟩),
 (55,⟨true,(.struct [(0,1,false),(1,1,false),(2,1,false)]),true,3,[.slice none 0 0,.slice none 0 0,.slice none 0 0]⟩),
 (56,⟨true,(.struct [(0,1,false),(1,3,true),(4,1,false),(5,1,false)]),true,6,[.slice none 0 0,.slice none 0 0,.slice none 0 0,.slice none 0 0,.slice none 0 0,.slice none 0 0]⟩),
 (57,⟨true,(.struct [(0,1,false),(1,3,true),(4,1,false),(5,1,false)]),true,6,[.slice none 0 0,.slice none 0 0,.slice none 0 0,.slice none 0 0,.slice none 0 0,.slice none 0 0]⟩),
 (59,⟨true,.other,false,1,[.nilFunc]⟩),
 (60,⟨true,(.slice 76 3 32 true [.bool false,.bool false,.slice none 0 0]),false,1,[.slice none 0 0]⟩),
 (62,⟨true,.other,false,1,[.nilFunc]⟩),
 (63,⟨true,.other,false,1,[.nilFunc]⟩),
 (64,⟨true,.other,false,1,[.nilFunc]⟩),
 (65,⟨true,(.slice 90 3 24 true [.int .i64 0,.int .i64 0,.int .i64 0]),false,1,[.slice none 0 0]⟩),
 (66,⟨true,(.slice 29 1 24 false [.slice none 0 0]),false,1,[.slice none 0 0]⟩),
 (67,⟨true,(.slice 119 1 24 false [.slice none 0 0]),false,1,[.slice none 0 0]⟩),
 (68,⟨true,(.struct [(0,1,false),(1,1,false),(2,1,false),(3,1,false)]),true,4,[.slice none 0 0,.slice none 0 0,.slice none 0 0,.slice none 0 0]⟩),
 (69,⟨true,(.struct [(0,1,false),(1,1,false),(2,1,false),(3,1,false)]),true,4,[.slice none 0 0,.slice none 0 0,.slice none 0 0,.slice none 0 0]⟩),
 (70,⟨true,(.struct [(0,1,false),(1,4,true),(5,1,false),(6,1,false)]),true,7,[.slice none 0 0,.slice none 0 0,.slice none 0 0,.slice none 0 0,.slice none 0 0,.bool false,.bool false]⟩),
 (71,⟨true,(.struct [(0,1,false),(1,4,true),(5,1,false),(6,1,false)]),true,7,[.slice none 0 0,.slice none 0 0,.slice none 0 0,.slice none 0 0,.slice none 0 0,.bool false,.bool false]⟩),
 (72,⟨true,.other,false,1,[.nilFunc]⟩),
 (73,⟨true,.other,false,1,[.nilFunc]⟩),
 (74,⟨true,.other,false,1,[.nilFunc]⟩),
 (75,⟨true,(.struct [(0,1,false),(1,1,false),(2,1,false)]),true,3,[.bool false,.bool false,.slice none 0 0]⟩),
 (76,⟨true,(.struct [(0,1,false),(1,1,false),(2,1,false)]),true,3,[.bool false,.bool false,.slice none 0 0]⟩),
 (77,⟨true,.other,false,1,[.nilFunc]⟩),
 (78,⟨true,.other,false,1,[.nilFunc]⟩),
 (79,⟨true,(.struct [(0,1,false),(1,1,false),(2,1,false)]),true,3,[.int .i64 0,.slice none 0 0,.int .i64 0]⟩),
 (80,⟨true,(.struct [(0,1,false),(1,1,false),(2,1,false)]),true,3,[.int .i64 0,.slice none 0 0,.int .i64 0]⟩),
 (82,⟨true,.other,false,1,[.nilFunc]⟩),
 (84,⟨true,.other,false,1,[.nilFunc]⟩),
 (86,⟨true,.other,false,1,[.nilFunc]⟩),
 (87,⟨true,.other,false,1,[.nilFunc]⟩),
 (88,⟨true,.other,false,1,[.nilFunc]⟩),
 (89,⟨true,(.struct [(0,1,false),(1,1,false),(2,1,false)]),true,3,[.int .i64 0,.int .i64 0,.int .i64 0]⟩),
 (90,⟨true,(.struct [(0,1,false),(1,1,false),(2,1,false)]),true,3,[.int .i64 0,.int .i64 0,.int .i64 0]⟩),
 (91,⟨true,.other,false,1,[.nilFunc]⟩),
 (92,⟨true,.other,false,1,[.nilFunc]⟩),
 (93,⟨true,.other,false,1,[.nilFunc]⟩),
 (94,⟨true,.other,false,1,[.nilFunc]⟩),
 (95,⟨true,.other,false,1,[.nilFunc]⟩),
 (96,⟨true,.other,false,1,[.nilFunc]⟩),
 (98,⟨true,.other,false,1,[.nilFunc]⟩),
 (99,⟨true,.other,false,1,[.nilFunc]⟩),
 (100,⟨true,.other,false,1,[.nilFunc]⟩),
 (101,⟨true,.other,false,1,[.nilFunc]⟩),
 (102,⟨true,.other,false,1,[.nilFunc]⟩),
 (103,⟨true,(.struct [(0,1,false),(1,1,false),(2,1,false),(3,1,false),(4,1,false),(5,1,false),(6,1,false)]),true,7,[.int .i64 0,.int .i64 0,.int .i64 0,.slice none 0 0,.slice none 0 0,.bool false,.int .i64 0]⟩),
 (104,⟨true,(.struct [(0,1,false),(1,1,false),(2,1,false),(3,1,false),(4,1,false),(5,1,false),(6,1,false)]),true,7,[.int .i64 0,.int .i64 0,.int .i64 0,.slice none 0 0,.slice none 0 0,.bool false,.int .i64 0]⟩),
 (105,⟨true,.other,false,1,[.nilFunc]⟩),
 (107,⟨true,.other,false,1,[.nilFunc]⟩),
 (108,⟨true,.other,false,1,[.nilFunc]⟩),
 (109,⟨true,.other,false,1,[.nilFunc]⟩),
 (110,⟨true,.other,false,1,[.pointer none]⟩),
 (111,⟨true,(.struct [(0,1,false),(1,1,false),(2,1,false),(3,1,false)]),true,4,[.slice none 0 0,.slice none 0 0,.slice none 0 0,.slice none 0 0]⟩),
 (112,⟨true,(.struct [(0,1,false),(1,1,false),(2,1,false),(3,1,false)]),true,4,[.slice none 0 0,.slice none 0 0,.slice none 0 0,.slice none 0 0]⟩),
 (113,⟨true,.other,false,1,[.nilFunc]⟩),
 (114,⟨true,.other,false,1,[.nilFunc]⟩),
 (115,⟨true,.other,false,1,[.nilFunc]⟩),
 (116,⟨true,.other,false,1,[.nilFunc]⟩),
 (118,⟨true,.other,false,1,[.nilFunc]⟩),
 (119,⟨true,(.slice 201 2 16 true [.int .i64 0,.int .i64 0]),false,1,[.slice none 0 0]⟩),
 (120,⟨true,.other,false,1,[.nilFunc]⟩),
 (121,⟨true,.other,false,1,[.nilFunc]⟩),
 (123,⟨true,.other,false,1,[.nilFunc]⟩),
 (125,⟨true,.other,false,1,[.nilFunc]⟩),
 (126,⟨true,(.struct [(0,1,false),(1,1,false),(2,1,false),(3,1,false),(4,1,false)]),true,5,[.int .i64 0,.int .i64 0,.string ⟨#[]⟩,.string ⟨#[]⟩,.int .i64 0]⟩),
 (127,⟨true,(.struct [(0,1,false),(1,1,false),(2,1,false),(3,1,false),(4,1,false)]),true,5,[.int .i64 0,.int .i64 0,.string ⟨#[]⟩,.string ⟨#[]⟩,.int .i64 0]⟩),
 (128,⟨true,.other,false,1,[.nilFunc]⟩),
 (129,⟨true,.other,false,1,[.nilFunc]⟩),
 (130,⟨true,.other,false,1,[.nilFunc]⟩),
 (131,⟨true,.other,false,1,[.nilFunc]⟩),
 (132,⟨true,.other,false,1,[.nilFunc]⟩),
 (133,⟨true,.other,false,1,[.nilFunc]⟩),
 (134,⟨true,.other,false,1,[.nilFunc]⟩),
 (136,⟨true,.other,false,1,[.nilFunc]⟩),
 (137,⟨true,(.struct [(0,1,false),(1,1,false),(2,1,false),(3,1,false)]),true,4,[.int .i64 0,.int .i64 0,.int .i64 0,.int .i64 0]⟩),
 (138,⟨true,(.struct [(0,1,false),(1,1,false),(2,1,false),(3,1,false)]),true,4,[.int .i64 0,.int .i64 0,.int .i64 0,.int .i64 0]⟩),
 (140,⟨true,.other,false,1,[.nilFunc]⟩),
 (142,⟨true,.other,false,1,[.nilFunc]⟩),
 (143,⟨true,.other,false,1,[.map none]⟩),
 (144,⟨true,.other,false,1,[.nilFunc]⟩),
 (145,⟨true,(.slice 149 3 24 true [.int .i64 0,.int .i64 0,.int .i64 0]),false,1,[.slice none 0 0]⟩),
 (146,⟨true,.other,false,1,[.nilFunc]⟩),
 (147,⟨true,.other,false,1,[.nilFunc]⟩),
 (148,⟨true,(.struct [(0,1,false),(1,1,false),(2,1,false)]),true,3,[.int .i64 0,.int .i64 0,.int .i64 0]⟩),
 (149,⟨true,(.struct [(0,1,false),(1,1,false),(2,1,false)]),true,3,[.int .i64 0,.int .i64 0,.int .i64 0]⟩),
 (151,⟨true,.other,false,1,[.nilFunc]⟩),
 (152,⟨true,.other,false,1,[.nilFunc]⟩),
 (153,⟨true,.other,false,1,[.nilFunc]⟩),
 (154,⟨true,.other,false,1,[.nilFunc]⟩),
 (155,⟨true,.other,false,1,[.nilFunc]⟩),
 (156,⟨true,.other,false,1,[.pointer none]⟩),
 (157,⟨true,.other,false,1,[.map none]⟩),
 (158,⟨true,(.struct [(0,4,true),(4,1,false),(5,1,false),(6,1,false),(7,1,false)]),true,8,[.int .i64 0,.slice none 0 0,.slice none 0 0,.slice none 0 0,.map none,.map none,.int .i64 0,.int .i64 0]⟩),
 (159,⟨true,(.struct [(0,4,true),(4,1,false),(5,1,false),(6,1,false),(7,1,false)]),true,8,[.int .i64 0,.slice none 0 0,.slice none 0 0,.slice none 0 0,.map none,.map none,.int .i64 0,.int .i64 0]⟩),
 (160,⟨true,.other,false,1,[.nilFunc]⟩),
 (161,⟨true,.other,false,1,[.nilFunc]⟩),
 (162,⟨true,.other,false,1,[.nilFunc]⟩),
 (163,⟨true,.other,false,1,[.nilFunc]⟩),
 (164,⟨true,.other,false,1,[.nilFunc]⟩),
 (165,⟨true,.other,false,1,[.nilFunc]⟩),
 (166,⟨true,.other,false,1,[.nilFunc]⟩),
 (167,⟨true,(.slice 177 4 40 true [.int .i64 0,.string ⟨#[]⟩,.int .i64 0,.int .i64 0]),false,1,[.slice none 0 0]⟩),
 (169,⟨true,.other,false,1,[.nilFunc]⟩),
 (170,⟨true,.other,false,1,[.pointer none]⟩),
 (171,⟨true,(.struct [(0,1,false),(1,1,false),(2,1,false),(3,1,false)]),true,4,[.slice none 0 0,.int .i64 0,.int .i64 0,.int .i64 0]⟩),
 (172,⟨true,(.struct [(0,1,false),(1,1,false),(2,1,false),(3,1,false)]),true,4,[.slice none 0 0,.int .i64 0,.int .i64 0,.int .i64 0]⟩),
 (173,⟨true,.other,false,1,[.nilFunc]⟩),
 (174,⟨true,.other,false,1,[.nilFunc]⟩),
 (175,⟨true,.other,false,1,[.nilFunc]⟩),
 (176,⟨true,(.struct [(0,1,false),(1,1,false),(2,1,false),(3,1,false)]),true,4,[.int .i64 0,.string ⟨#[]⟩,.int .i64 0,.int .i64 0]⟩),
 (177,⟨true,(.struct [(0,1,false),(1,1,false),(2,1,false),(3,1,false)]),true,4,[.int .i64 0,.string ⟨#[]⟩,.int .i64 0,.int .i64 0]⟩),
 (178,⟨true,.other,false,1,[.nilFunc]⟩),
 (179,⟨true,.other,false,1,[.nilFunc]⟩),
 (180,⟨true,.other,false,1,[.nilFunc]⟩),
 (181,⟨true,.other,false,1,[.nilFunc]⟩),
 (182,⟨true,.other,false,1,[.nilFunc]⟩),
 (183,⟨true,.other,false,1,[.nilFunc]⟩),
 (184,⟨true,.other,false,1,[.nilFunc]⟩),
 (185,⟨true,(.struct [(0,1,false),(1,1,false)]),true,2,[.int .i64 0,.nilFunc]⟩),
 (186,⟨true,(.struct [(0,1,false),(1,1,false)]),true,2,[.int .i64 0,.nilFunc]⟩),
 (188,⟨true,.other,false,1,[.nilFunc]⟩),
 (189,⟨true,(.slice 190 1 8 false [.nilFunc]),false,1,[.slice none 0 0]⟩),
 (190,⟨true,.other,false,1,[.nilFunc]⟩),
 (191,⟨true,.other,false,1,[.nilFunc]⟩),
 (192,⟨true,.other,false,1,[.nilFunc]⟩),
 (193,⟨true,.other,false,1,[.nilFunc]⟩),
 (194,⟨true,.other,false,1,[.nilFunc]⟩),
 (195,⟨true,.other,false,1,[.nilFunc]⟩),
 (196,⟨true,.other,false,1,[.nilFunc]⟩),
 (197,⟨true,.other,false,1,[.nilFunc]⟩),
 (198,⟨true,.other,false,1,[.nilFunc]⟩),
 (199,⟨true,.other,false,1,[.nilFunc]⟩),
 (200,⟨true,(.struct [(0,1,false),(1,1,false)]),true,2,[.int .i64 0,.int .i64 0]⟩),
 (201,⟨true,(.struct [(0,1,false),(1,1,false)]),true,2,[.int .i64 0,.int .i64 0]⟩),
 (202,⟨true,.other,false,1,[.nilFunc]⟩),
 (203,⟨true,.other,false,1,[.nilFunc]⟩),
 (204,⟨true,.other,false,1,[.nilFunc]⟩),
 (205,⟨true,.other,false,1,[.nilFunc]⟩),
 (206,⟨true,.other,false,1,[.nilFunc]⟩),
 (207,⟨true,.other,false,1,[.nilFunc]⟩),
 (209,⟨true,.other,false,1,[.nilFunc]⟩),
 (210,⟨true,.other,false,1,[.nilFunc]⟩),
 (211,⟨true,.other,false,1,[.nilFunc]⟩),
 (212,⟨true,.other,false,1,[.nilFunc]⟩),
 (213,⟨true,.other,false,1,[.nilFunc]⟩),
 (214,⟨true,.other,false,1,[.nilFunc]⟩),
 (215,⟨true,.other,false,1,[.nilFunc]⟩),
 (216,⟨true,.other,false,1,[.nilFunc]⟩),
 (217,⟨true,.other,false,1,[.nilFunc]⟩),
 (218,⟨true,(.struct [(0,1,false),(1,1,false),(2,1,false),(3,1,false),(4,1,false),(5,1,false)]),true,6,[.bool false,.bool false,.bool false,.bool false,.bool false,.bool false]⟩),
 (219,⟨true,(.struct [(0,1,false),(1,1,false),(2,1,false),(3,1,false),(4,1,false),(5,1,false)]),true,6,[.bool false,.bool false,.bool false,.bool false,.bool false,.bool false]⟩),
 (221,⟨true,.other,false,1,[.nilFunc]⟩),
 (222,⟨true,.other,false,1,[.nilFunc]⟩),
 (223,⟨true,.other,false,1,[.nilFunc]⟩),
 (224,⟨true,.other,false,1,[.nilFunc]⟩),
 (226,⟨true,.other,false,1,[.nilFunc]⟩),
 (227,⟨true,.other,false,1,[.nilFunc]⟩),
 (228,⟨true,.other,false,1,[.nilFunc]⟩),
 (229,⟨true,.other,false,1,[.nilFunc]⟩),
 (231,⟨true,.other,false,1,[.nilFunc]⟩),
 (232,⟨true,.other,false,1,[.nilFunc]⟩),
 (234,⟨true,.other,false,1,[.nilFunc]⟩),
 (235,⟨true,.other,false,1,[.pointer none]⟩),
 (236,⟨true,(.struct [(0,1,false),(1,1,false),(2,1,false),(3,1,false)]),true,4,[.slice none 0 0,.nilFunc,.slice none 0 0,.bool false]⟩),
 (237,⟨true,(.struct [(0,1,false),(1,1,false),(2,1,false),(3,1,false)]),true,4,[.slice none 0 0,.nilFunc,.slice none 0 0,.bool false]⟩),
 (238,⟨true,.other,false,1,[.nilFunc]⟩),
 (239,⟨true,(.array 15 2 true),true,30,[.int .i64 0,.nilFunc,.int .i64 0,.nilFunc,.int .i64 0,.nilFunc,.int .i64 0,.nilFunc,.int .i64 0,.nilFunc,.int .i64 0,.nilFunc,.int .i64 0,.nilFunc,.int .i64 0,.nilFunc,.int .i64 0,.nilFunc,.int .i64 0,.nilFunc,.int .i64 0,.nilFunc,.int .i64 0,.nilFunc,.int .i64 0,.nilFunc,.int .i64 0,.nilFunc,.int .i64 0,.nilFunc]⟩),
 (240,⟨true,.other,false,1,[.nilFunc]⟩),
 (241,⟨true,.other,false,1,[.nilFunc]⟩),
 (242,⟨true,.other,false,1,[.nilFunc]⟩),
 (243,⟨true,.other,false,1,[.nilFunc]⟩),
 (245,⟨true,.other,false,1,[.nilFunc]⟩),
 (247,⟨true,.other,false,1,[.nilFunc]⟩),
 (248,⟨true,.other,false,1,[.nilFunc]⟩),
 (249,⟨true,.other,false,1,[.pointer none]⟩),
 (250,⟨true,.other,false,1,[.pointer none]⟩),
 (251,⟨true,.other,false,1,[.nilFunc]⟩),
 (252,⟨true,(.struct [(0,6,true),(6,1,false),(7,1,false)]),true,8,[.slice none 0 0,.slice none 0 0,.slice none 0 0,.slice none 0 0,.slice none 0 0,.slice none 0 0,.pointer none,.slice none 0 0]⟩),
 (253,⟨true,(.struct [(0,6,true),(6,1,false),(7,1,false)]),true,8,[.slice none 0 0,.slice none 0 0,.slice none 0 0,.slice none 0 0,.slice none 0 0,.slice none 0 0,.pointer none,.slice none 0 0]⟩),
 (254,⟨true,.other,false,1,[.nilFunc]⟩),
 (255,⟨true,.other,false,1,[.nilFunc]⟩),
 (256,⟨true,.other,false,1,[.nilFunc]⟩),
 (257,⟨true,.other,false,1,[.nilFunc]⟩),
 (258,⟨true,(.slice 5 1 1 false [.int .u8 0]),false,1,[.slice none 0 0]⟩),
 (259,⟨true,.other,false,1,[.nilFunc]⟩),
 (260,⟨true,.other,false,1,[.nilFunc]⟩),
 (261,⟨true,.other,false,1,[.nilFunc]⟩),
 (262,⟨true,.other,false,1,[.nilFunc]⟩),
 (263,⟨true,.other,false,1,[.nilFunc]⟩),
 (264,⟨true,.other,false,1,[.nilFunc]⟩),
 (265,⟨true,(.slice 1 1 8 false [.nilFunc]),false,1,[.slice none 0 0]⟩),
 (266,⟨true,.other,false,1,[.map none]⟩),
 (267,⟨true,.other,false,1,[.nilFunc]⟩),
 (268,⟨true,.other,false,1,[.nilFunc]⟩),
 (269,⟨true,.other,false,1,[.nilFunc]⟩),
 (270,⟨true,(.struct [(0,1,false),(1,1,false),(2,1,false),(3,1,false)]),true,4,[.slice none 0 0,.int .i64 0,.int .i64 0,.int .i64 0]⟩),
 (271,⟨true,(.struct [(0,1,false),(1,1,false),(2,1,false),(3,1,false)]),true,4,[.slice none 0 0,.int .i64 0,.int .i64 0,.int .i64 0]⟩),
 (272,⟨true,.other,false,1,[.nilFunc]⟩),
 (273,⟨true,.other,false,1,[.nilFunc]⟩),
 (276,⟨true,.other,false,1,[.nilFunc]⟩),
 (277,⟨true,.other,false,1,[.nilFunc]⟩),
 (278,⟨true,.other,false,1,[.nilFunc]⟩),
 (279,⟨true,.other,false,1,[.nilFunc]⟩),
 (280,⟨true,.other,false,1,[.nilFunc]⟩),
 (281,⟨true,.other,false,1,[.pointer none]⟩),
 (282,⟨true,.other,false,1,[.nilFunc]⟩),
 (283,⟨true,(.struct [(0,1,false),(1,1,false)]),true,2,[.slice none 0 0,.int .i64 0]⟩),
 (284,⟨true,(.struct [(0,1,false),(1,1,false)]),true,2,[.slice none 0 0,.int .i64 0]⟩),
 (285,⟨true,.other,false,1,[.nilFunc]⟩),
 (286,⟨true,.other,false,1,[.nilFunc]⟩),
 (287,⟨true,(.struct [(0,1,false),(1,1,false)]),true,2,[.slice none 0 0,.slice none 0 0]⟩),
 (288,⟨true,(.struct [(0,1,false),(1,1,false)]),true,2,[.slice none 0 0,.slice none 0 0]⟩),
 (289,⟨true,.other,false,1,[.nilFunc]⟩),
 (290,⟨true,(.slice 293 1 16 false [.nilIface]),false,1,[.slice none 0 0]⟩),
 (291,⟨true,.other,false,1,[.nilFunc]⟩),
 (292,⟨true,.other,false,1,[.nilIface]⟩),
 (293,⟨true,.other,false,1,[.nilIface]⟩),
 (294,⟨true,.other,false,1,[.nilFunc]⟩),
 (295,⟨true,(.struct [(0,4,true),(4,4,true),(8,1,false),(9,1,false)]),true,10,[.int .i64 0,.slice none 0 0,.slice none 0 0,.slice none 0 0,.slice none 0 0,.slice none 0 0,.slice none 0 0,.slice none 0 0,.int .i64 0,.int .i64 0]⟩),
 (296,⟨true,(.struct [(0,4,true),(4,4,true),(8,1,false),(9,1,false)]),true,10,[.int .i64 0,.slice none 0 0,.slice none 0 0,.slice none 0 0,.slice none 0 0,.slice none 0 0,.slice none 0 0,.slice none 0 0,.int .i64 0,.int .i64 0]⟩),
 (298,⟨true,.other,false,1,[.nilFunc]⟩),
 (299,⟨true,.other,false,1,[.nilFunc]⟩),
 (300,⟨true,.other,false,1,[.nilFunc]⟩),
 (301,⟨true,.other,false,1,[.nilFunc]⟩),
 (303,⟨true,.other,false,1,[.nilFunc]⟩),
 (304,⟨true,.other,false,1,[.nilFunc]⟩),
 (305,⟨true,.other,false,1,[.nilFunc]⟩),
 (306,⟨true,.other,false,1,[.nilFunc]⟩),
 (307,⟨true,.other,false,1,[.nilFunc]⟩),
 (308,⟨true,.other,false,1,[.nilFunc]⟩),
 (309,⟨true,(.int .i64),false,1,[.int .i64 0]⟩),
 (310,⟨true,(.struct [(0,1,false),(1,1,false)]),true,2,[.int .i64 0,.int .i64 0]⟩),
 (311,⟨true,(.struct [(0,1,false),(1,1,false)]),true,2,[.int .i64 0,.int .i64 0]⟩),
 (312,⟨true,(.struct [(0,1,false),(1,1,false),(2,1,false),(3,1,false)]),true,4,[.string ⟨#[]⟩,.string ⟨#[]⟩,.bool false,.bool false]⟩),
 (313,⟨true,(.struct [(0,1,false),(1,1,false),(2,1,false),(3,1,false)]),true,4,[.string ⟨#[]⟩,.string ⟨#[]⟩,.bool false,.bool false]⟩),
 (315,⟨true,.other,false,1,[.nilFunc]⟩),
 (316,⟨true,.other,false,1,[.nilFunc]⟩),
 (317,⟨true,.other,false,1,[.nilFunc]⟩),
 (318,⟨true,.other,false,1,[.nilFunc]⟩),
 (319,⟨true,(.int .u64),false,1,[.int .u64 0]⟩),
 (320,⟨true,.other,false,1,[.nilFunc]⟩),
 (321,⟨true,.other,false,1,[.nilFunc]⟩),
 (322,⟨true,.other,false,1,[.nilFunc]⟩),
 (323,⟨true,(.slice 313 4 40 true [.string ⟨#[]⟩,.string ⟨#[]⟩,.bool false,.bool false]),false,1,[.slice none 0 0]⟩),
 (324,⟨true,.other,false,1,[.nilFunc]⟩),
 (325,⟨true,(.array 8 1 false),true,8,[.int .u8 0,.int .u8 0,.int .u8 0,.int .u8 0,.int .u8 0,.int .u8 0,.int .u8 0,.int .u8 0]⟩),
 (326,⟨true,(.int .u64),false,1,[.int .u64 0]⟩),
 (327,⟨true,(.struct [(0,1,false),(1,1,false),(2,1,false),(3,1,false)]),true,4,[.pointer none,.pointer none,.pointer none,.string ⟨#[]⟩]⟩),
 (328,⟨true,(.struct [(0,1,false),(1,1,false),(2,1,false),(3,1,false)]),true,4,[.pointer none,.pointer none,.pointer none,.string ⟨#[]⟩]⟩),
 (329,⟨true,(.array 0 1 false),true,0,[]⟩),
 (330,⟨true,(.struct [(0,0,true)]),true,0,[]⟩),
 (331,⟨true,(.struct [(0,0,true)]),true,0,[]⟩),
 (332,⟨true,(.int .u32),false,1,[.int .u32 0]⟩),
 (333,⟨true,(.int .u8),false,1,[.int .u8 0]⟩),
 (334,⟨true,(.int .u8),false,1,[.int .u8 0]⟩),
 (335,⟨true,.other,false,1,[.nilFunc]⟩),
 (336,⟨true,.other,false,1,[.pointer none]⟩),
 (337,⟨true,(.int .i32),false,1,[.int .i32 0]⟩),
 (338,⟨true,(.int .i32),false,1,[.int .i32 0]⟩),
 (339,⟨true,(.struct [(0,1,false),(1,1,false),(2,1,false),(3,1,false),(4,1,false),(5,1,false),(6,1,false),(7,1,false),(8,1,false),(9,1,false),(10,1,false)]),true,11,[.int .u64 0,.int .u64 0,.int .u32 0,.int .u8 0,.int .u8 0,.int .u8 0,.int .u8 0,.nilFunc,.pointer none,.int .i32 0,.int .i32 0]⟩),
 (340,⟨true,(.struct [(0,1,false),(1,1,false),(2,1,false),(3,1,false),(4,1,false),(5,1,false),(6,1,false),(7,1,false),(8,1,false),(9,1,false),(10,1,false)]),true,11,[.int .u64 0,.int .u64 0,.int .u32 0,.int .u8 0,.int .u8 0,.int .u8 0,.int .u8 0,.nilFunc,.pointer none,.int .i32 0,.int .i32 0]⟩),
 (341,⟨true,.other,false,1,[.pointer none]⟩),
 (343,⟨true,.other,false,1,[.nilFunc]⟩),
 (344,⟨true,(.struct [(0,4,true),(4,4,true),(8,1,false),(9,1,false),(10,1,false),(11,7,true)]),true,18,[.int .i64 0,.slice none 0 0,.slice none 0 0,.slice none 0 0,.slice none 0 0,.slice none 0 0,.slice none 0 0,.slice none 0 0,.int .i64 0,.int .i64 0,.int .i64 0,.int .i64 0,.int .i64 0,.int .i64 0,.slice none 0 0,.slice none 0 0,.bool false,.int .i64 0]⟩),
 (345,⟨true,(.struct [(0,4,true),(4,4,true),(8,1,false),(9,1,false),(10,1,false),(11,7,true)]),true,18,[.int .i64 0,.slice none 0 0,.slice none 0 0,.slice none 0 0,.slice none 0 0,.slice none 0 0,.slice none 0 0,.slice none 0 0,.int .i64 0,.int .i64 0,.int .i64 0,.int .i64 0,.int .i64 0,.int .i64 0,.slice none 0 0,.slice none 0 0,.bool false,.int .i64 0]⟩),
 (346,⟨true,.other,false,1,[.nilFunc]⟩),
 (347,⟨true,.other,false,1,[.map none]⟩),
 (348,⟨true,.other,false,1,[.nilFunc]⟩),
 (350,⟨true,.other,false,1,[.nilFunc]⟩),
 (351,⟨true,.other,false,1,[.nilFunc]⟩),
 (352,⟨true,.other,false,1,[.nilFunc]⟩),
 (353,⟨true,.other,false,1,[.pointer none]⟩)]
theorem tys_ok:tys.map (fun x=>Zqr Tryz.prog x.1)=tys.map (·.2):=by kernel_rfl
def T:Tab Tryz.prog:=⟨lookT tys,lookT_ok tys tys_ok⟩
@[go_sem] theorem T1 : T.get 1 = ⟨true, .other, false, 1, [.nilFunc]⟩ := rfl
@[go_sem] theorem T2 : T.get 2 = ⟨true, (.int .i64), false, 1, [.int .i64 0]⟩ := rfl
@[go_sem] theorem T3 : T.get 3 = ⟨true, (.int .i64), false, 1, [.int .i64 0]⟩ := rfl
@[go_sem] theorem T4 : T.get 4 = ⟨true, .bool, false, 1, [.bool false]⟩ := rfl
@[go_sem] theorem T5 : T.get 5 = ⟨true, (.int .u8), false, 1, [.int .u8 0]⟩ := rfl
@[go_sem] theorem T6 : T.get 6 = ⟨true, (.int .u8), false, 1, [.int .u8 0]⟩ := rfl
@[go_sem] theorem T7 : T.get 7 = ⟨true, (.struct [(0, 1, false), (1, 1, false), (2, 1, false), (3, 1, false)]), true, 4, [.int .i64 0, .int .i64 0, .bool false, .int .u8 0]⟩ := rfl
@[go_sem] theorem T8 : T.get 8 = ⟨true, (.struct [(0, 1, false), (1, 1, false), (2, 1, false), (3, 1, false)]), true, 4, [.int .i64 0, .int .i64 0, .bool false, .int .u8 0]⟩ := rfl
@[go_sem] theorem T9 : T.get 9 = ⟨true, .str, false, 1, [.string ⟨#[]⟩]⟩ := rfl
@[go_sem] theorem T10 : T.get 10 = ⟨true, .str, false, 1, [.string ⟨#[]⟩]⟩ := rfl
@[go_sem] theorem T11 : T.get 11 = ⟨true, .str, false, 1, [.string ⟨#[]⟩]⟩ := rfl
@[go_sem] theorem T12 : T.get 12 = ⟨true, (.int .u64), false, 1, [.int .u64 0]⟩ := rfl
@[go_sem] theorem T13 : T.get 13 = ⟨true, (.struct [(0, 1, false), (1, 1, false)]), true, 2, [.string ⟨#[]⟩, .int .u64 0]⟩ := rfl
@[go_sem] theorem T14 : T.get 14 = ⟨true, (.struct [(0, 1, false), (1, 1, false)]), true, 2, [.string ⟨#[]⟩, .int .u64 0]⟩ := rfl
@[go_sem] theorem T15 : T.get 15 = ⟨true, .other, false, 1, [.pointer none]⟩ := rfl
@[go_sem] theorem T16 : T.get 16 = ⟨true, .other, false, 1, [.pointer none]⟩ := rfl
@[go_sem] theorem T17 : T.get 17 = ⟨true, .other, false, 1, [.pointer none]⟩ := rfl
@[go_sem] theorem T18 : T.get 18 = ⟨true, (.struct [(0, 1, false)]), true, 1, [.pointer none]⟩ := rfl
@[go_sem] theorem T19 : T.get 19 = ⟨true, (.struct [(0, 1, false)]), true, 1, [.pointer none]⟩ := rfl
@[go_sem] theorem T20 : T.get 20 = ⟨true, .other, false, 1, [.nilIface]⟩ := rfl
@[go_sem] theorem T21 : T.get 21 = ⟨true, (.int .i32), false, 1, [.int .i32 0]⟩ := rfl
@[go_sem] theorem T22 : T.get 22 = ⟨true, (.slice 39 3 32 true [.string ⟨#[]⟩, .int .i64 0, .int .i64 0]), false, 1, [.slice none 0 0]⟩ := rfl
@[go_sem] theorem T23 : T.get 23 = ⟨true, (.slice 45 4 72 true [.string ⟨#[]⟩, .slice none 0 0, .slice none 0 0, .int .i64 0]), false, 1, [.slice none 0 0]⟩ := rfl
@[go_sem] theorem T24 : T.get 24 = ⟨true, (.slice 80 3 40 true [.int .i64 0, .slice none 0 0, .int .i64 0]), false, 1, [.slice none 0 0]⟩ := rfl
@[go_sem] theorem T25 : T.get 25 = ⟨true, (.struct [(0, 1, false), (1, 1, false), (2, 1, false), (3, 1, false)]), true, 4, [.int .i64 0, .slice none 0 0, .slice none 0 0, .slice none 0 0]⟩ := rfl
@[go_sem] theorem T26 : T.get 26 = ⟨true, (.struct [(0, 1, false), (1, 1, false), (2, 1, false), (3, 1, false)]), true, 4, [.int .i64 0, .slice none 0 0, .slice none 0 0, .slice none 0 0]⟩ := rfl
@[go_sem] theorem T27 : T.get 27 = ⟨true, .other, false, 1, [.nilFunc]⟩ := rfl
@[go_sem] theorem T28 : T.get 28 = ⟨true, .other, false, 1, [.nilFunc]⟩ := rfl
@[go_sem] theorem T29 : T.get 29 = ⟨true, (.slice 3 1 8 false [.int .i64 0]), false, 1, [.slice none 0 0]⟩ := rfl
@[go_sem] theorem T30 : T.get 30 = ⟨true, (.slice 41 1 24 false [.slice none 0 0]), false, 1, [.slice none 0 0]⟩ := rfl
@[go_sem] theorem T31 : T.get 31 = ⟨true, (.struct [(0, 1, false), (1, 1, false), (2, 1, false), (3, 1, false)]), true, 4, [.int .i64 0, .slice none 0 0, .slice none 0 0, .slice none 0 0]⟩ := rfl
@[go_sem] theorem T32 : T.get 32 = ⟨true, (.struct [(0, 1, false), (1, 1, false), (2, 1, false), (3, 1, false)]), true, 4, [.int .i64 0, .slice none 0 0, .slice none 0 0, .slice none 0 0]⟩ := rfl
@[go_sem] theorem T33 : T.get 33 = ⟨true, (.int .i64), false, 1, [.int .i64 0]⟩ := rfl
@[go_sem] theorem T35 : T.get 35 = ⟨true, .other, false, 1, [.nilFunc]⟩ := rfl
@[go_sem] theorem T36 : T.get 36 = ⟨true, .other, false, 1, [.nilFunc]⟩ := rfl
@[go_sem] theorem T37 : T.get 37 = ⟨true, (.slice 9 1 16 false [.string ⟨#[]⟩]), false, 1, [.slice none 0 0]⟩ := rfl
@[go_sem] theorem T38 : T.get 38 = ⟨true, (.struct [(0, 1, false), (1, 1, false), (2, 1, false)]), true, 3, [.string ⟨#[]⟩, .int .i64 0, .int .i64 0]⟩ := rfl
@[go_sem] theorem T39 : T.get 39 = ⟨true, (.struct [(0, 1, false), (1, 1, false), (2, 1, false)]), true, 3, [.string ⟨#[]⟩, .int .i64 0, .int .i64 0]⟩ := rfl
@[go_sem] theorem T41 : T.get 41 = ⟨true, (.slice 104 7 88 true [.int .i64 0, .int .i64 0, .int .i64 0, .slice none 0 0, .slice none 0 0, .bool false, .int .i64 0]), false, 1, [.slice none 0 0]⟩ := rfl
@[go_sem] theorem T43 : T.get 43 = ⟨true, (.slice 50 9 120 true [.int .i64 0, .string ⟨#[]⟩, .string ⟨#[]⟩, .slice none 0 0, .slice none 0 0, .bool false, .int .i64 0, .int .i64 0, .int .i64 0]), false, 1, [.slice none 0 0]⟩ := rfl
@[go_sem] theorem T45 : T.get 45 = ⟨true, (.struct [(0, 1, false), (1, 1, false), (2, 1, false), (3, 1, false)]), true, 4, [.string ⟨#[]⟩, .slice none 0 0, .slice none 0 0, .int .i64 0]⟩ := rfl
@[go_sem] theorem T48 : T.get 48 = ⟨true, (.slice 127 5 56 true [.int .i64 0, .int .i64 0, .string ⟨#[]⟩, .string ⟨#[]⟩, .int .i64 0]), false, 1, [.slice none 0 0]⟩ := rfl
@[go_sem] theorem T50 : T.get 50 = ⟨true, (.struct [(0, 1, false), (1, 1, false), (2, 1, false), (3, 1, false), (4, 1, false), (5, 1, false), (6, 1, false), (7, 1, false), (8, 1, false)]), true, 9, [.int .i64 0, .string ⟨#[]⟩, .string ⟨#[]⟩, .slice none 0 0, .slice none 0 0, .bool false, .int .i64 0, .int .i64 0, .int .i64 0]⟩ := rfl
@[go_sem] theorem T53 : T.get 53 = ⟨true, (.slice 69 4 96 true [.slice none 0 0, .slice none 0 0, .slice none 0 0, .slice none 0 0]), false, 1, [.slice none 0 0]⟩ := rfl
@[go_sem] theorem T57 : T.get 57 = ⟨true, (.struct [(0, 1, false), (1, 3, true), (4, 1, false), (5, 1, false)]), true, 6, [.slice none 0 0, .slice none 0 0, .slice none 0 0, .slice none 0 0, .slice none 0 0, .slice none 0 0]⟩ := rfl
@[go_sem] theorem T60 : T.get 60 = ⟨true, (.slice 76 3 32 true [.bool false, .bool false, .slice none 0 0]), false, 1, [.slice none 0 0]⟩ := rfl
@[go_sem] theorem T65 : T.get 65 = ⟨true, (.slice 90 3 24 true [.int .i64 0, .int .i64 0, .int .i64 0]), false, 1, [.slice none 0 0]⟩ := rfl
@[go_sem] theorem T66 : T.get 66 = ⟨true, (.slice 29 1 24 false [.slice none 0 0]), false, 1, [.slice none 0 0]⟩ := rfl
@[go_sem] theorem T67 : T.get 67 = ⟨true, (.slice 119 1 24 false [.slice none 0 0]), false, 1, [.slice none 0 0]⟩ := rfl
@[go_sem] theorem T69 : T.get 69 = ⟨true, (.struct [(0, 1, false), (1, 1, false), (2, 1, false), (3, 1, false)]), true, 4, [.slice none 0 0, .slice none 0 0, .slice none 0 0, .slice none 0 0]⟩ := rfl
@[go_sem] theorem T76 : T.get 76 = ⟨true, (.struct [(0, 1, false), (1, 1, false), (2, 1, false)]), true, 3, [.bool false, .bool false, .slice none 0 0]⟩ := rfl
@[go_sem] theorem T80 : T.get 80 = ⟨true, (.struct [(0, 1, false), (1, 1, false), (2, 1, false)]), true, 3, [.int .i64 0, .slice none 0 0, .int .i64 0]⟩ := rfl
@[go_sem] theorem T90 : T.get 90 = ⟨true, (.struct [(0, 1, false), (1, 1, false), (2, 1, false)]), true, 3, [.int .i64 0, .int .i64 0, .int .i64 0]⟩ := rfl
@[go_sem] theorem T95 : T.get 95 = ⟨true, .other, false, 1, [.nilFunc]⟩ := rfl
@[go_sem] theorem T98 : T.get 98 = ⟨true, .other, false, 1, [.nilFunc]⟩ := rfl
@[go_sem] theorem T100 : T.get 100 = ⟨true, .other, false, 1, [.nilFunc]⟩ := rfl
@[go_sem] theorem T101 : T.get 101 = ⟨true, .other, false, 1, [.nilFunc]⟩ := rfl
@[go_sem] theorem T102 : T.get 102 = ⟨true, .other, false, 1, [.nilFunc]⟩ := rfl
@[go_sem] theorem T104 : T.get 104 = ⟨true, (.struct [(0, 1, false), (1, 1, false), (2, 1, false), (3, 1, false), (4, 1, false), (5, 1, false), (6, 1, false)]), true, 7, [.int .i64 0, .int .i64 0, .int .i64 0, .slice none 0 0, .slice none 0 0, .bool false, .int .i64 0]⟩ := rfl
@[go_sem] theorem T108 : T.get 108 = ⟨true, .other, false, 1, [.nilFunc]⟩ := rfl
@[go_sem] theorem T110 : T.get 110 = ⟨true, .other, false, 1, [.pointer none]⟩ := rfl
@[go_sem] theorem T112 : T.get 112 = ⟨true, (.struct [(0, 1, false), (1, 1, false), (2, 1, false), (3, 1, false)]), true, 4, [.slice none 0 0, .slice none 0 0, .slice none 0 0, .slice none 0 0]⟩ := rfl
@[go_sem] theorem T113 : T.get 113 = ⟨true, .other, false, 1, [.nilFunc]⟩ := rfl
@[go_sem] theorem T114 : T.get 114 = ⟨true, .other, false, 1, [.nilFunc]⟩ := rfl
@[go_sem] theorem T119 : T.get 119 = ⟨true, (.slice 201 2 16 true [.int .i64 0, .int .i64 0]), false, 1, [.slice none 0 0]⟩ := rfl
@[go_sem] theorem T120 : T.get 120 = ⟨true, .other, false, 1, [.nilFunc]⟩ := rfl
@[go_sem] theorem T127 : T.get 127 = ⟨true, (.struct [(0, 1, false), (1, 1, false), (2, 1, false), (3, 1, false), (4, 1, false)]), true, 5, [.int .i64 0, .int .i64 0, .string ⟨#[]⟩, .string ⟨#[]⟩, .int .i64 0]⟩ := rfl
@[go_sem] theorem T143 : T.get 143 = ⟨true, .other, false, 1, [.map none]⟩ := rfl
@[go_sem] theorem T145 : T.get 145 = ⟨true, (.slice 149 3 24 true [.int .i64 0, .int .i64 0, .int .i64 0]), false, 1, [.slice none 0 0]⟩ := rfl
@[go_sem] theorem T149 : T.get 149 = ⟨true, (.struct [(0, 1, false), (1, 1, false), (2, 1, false)]), true, 3, [.int .i64 0, .int .i64 0, .int .i64 0]⟩ := rfl
@[go_sem] theorem T154 : T.get 154 = ⟨true, .other, false, 1, [.nilFunc]⟩ := rfl
@[go_sem] theorem T156 : T.get 156 = ⟨true, .other, false, 1, [.pointer none]⟩ := rfl
@[go_sem] theorem T157 : T.get 157 = ⟨true, .other, false, 1, [.map none]⟩ := rfl
@[go_sem] theorem T159 : T.get 159 = ⟨true, (.struct [(0, 4, true), (4, 1, false), (5, 1, false), (6, 1, false), (7, 1, false)]), true, 8, [.int .i64 0, .slice none 0 0, .slice none 0 0, .slice none 0 0, .map none, .map none, .int .i64 0, .int .i64 0]⟩ := rfl
@[go_sem] theorem T163 : T.get 163 = ⟨true, .other, false, 1, [.nilFunc]⟩ := rfl
@[go_sem] theorem T167 : T.get 167 = ⟨true, (.slice 177 4 40 true [.int .i64 0, .string ⟨#[]⟩, .int .i64 0, .int .i64 0]), false, 1, [.slice none 0 0]⟩ := rfl
@[go_sem] theorem T177 : T.get 177 = ⟨true, (.struct [(0, 1, false), (1, 1, false), (2, 1, false), (3, 1, false)]), true, 4, [.int .i64 0, .string ⟨#[]⟩, .int .i64 0, .int .i64 0]⟩ := rfl
@[go_sem] theorem T182 : T.get 182 = ⟨true, .other, false, 1, [.nilFunc]⟩ := rfl
@[go_sem] theorem T186 : T.get 186 = ⟨true, (.struct [(0, 1, false), (1, 1, false)]), true, 2, [.int .i64 0, .nilFunc]⟩ := rfl
@[go_sem] theorem T189 : T.get 189 = ⟨true, (.slice 190 1 8 false [.nilFunc]), false, 1, [.slice none 0 0]⟩ := rfl
@[go_sem] theorem T190 : T.get 190 = ⟨true, .other, false, 1, [.nilFunc]⟩ := rfl
@[go_sem] theorem T195 : T.get 195 = ⟨true, .other, false, 1, [.nilFunc]⟩ := rfl
@[go_sem] theorem T200 : T.get 200 = ⟨true, (.struct [(0, 1, false), (1, 1, false)]), true, 2, [.int .i64 0, .int .i64 0]⟩ := rfl
@[go_sem] theorem T201 : T.get 201 = ⟨true, (.struct [(0, 1, false), (1, 1, false)]), true, 2, [.int .i64 0, .int .i64 0]⟩ := rfl
@[go_sem] theorem T205 : T.get 205 = ⟨true, .other, false, 1, [.nilFunc]⟩ := rfl
@[go_sem] theorem T219 : T.get 219 = ⟨true, (.struct [(0, 1, false), (1, 1, false), (2, 1, false), (3, 1, false), (4, 1, false), (5, 1, false)]), true, 6, [.bool false, .bool false, .bool false, .bool false, .bool false, .bool false]⟩ := rfl
@[go_sem] theorem T228 : T.get 228 = ⟨true, .other, false, 1, [.nilFunc]⟩ := rfl
@[go_sem] theorem T231 : T.get 231 = ⟨true, .other, false, 1, [.nilFunc]⟩ := rfl
@[go_sem] theorem T235 : T.get 235 = ⟨true, .other, false, 1, [.pointer none]⟩ := rfl
@[go_sem] theorem T237 : T.get 237 = ⟨true, (.struct [(0, 1, false), (1, 1, false), (2, 1, false), (3, 1, false)]), true, 4, [.slice none 0 0, .nilFunc, .slice none 0 0, .bool false]⟩ := rfl
@[go_sem] theorem T239 : T.get 239 = ⟨true, (.array 15 2 true), true, 30, [.int .i64 0, .nilFunc, .int .i64 0, .nilFunc, .int .i64 0, .nilFunc, .int .i64 0, .nilFunc, .int .i64 0, .nilFunc, .int .i64 0, .nilFunc, .int .i64 0, .nilFunc, .int .i64 0, .nilFunc, .int .i64 0, .nilFunc, .int .i64 0, .nilFunc, .int .i64 0, .nilFunc, .int .i64 0, .nilFunc, .int .i64 0, .nilFunc, .int .i64 0, .nilFunc, .int .i64 0, .nilFunc]⟩ := rfl
@[go_sem] theorem T241 : T.get 241 = ⟨true, .other, false, 1, [.nilFunc]⟩ := rfl
@[go_sem] theorem T243 : T.get 243 = ⟨true, .other, false, 1, [.nilFunc]⟩ := rfl
@[go_sem] theorem T250 : T.get 250 = ⟨true, .other, false, 1, [.pointer none]⟩ := rfl
@[go_sem] theorem T258 : T.get 258 = ⟨true, (.slice 5 1 1 false [.int .u8 0]), false, 1, [.slice none 0 0]⟩ := rfl
@[go_sem] theorem T265 : T.get 265 = ⟨true, (.slice 1 1 8 false [.nilFunc]), false, 1, [.slice none 0 0]⟩ := rfl
@[go_sem] theorem T266 : T.get 266 = ⟨true, .other, false, 1, [.map none]⟩ := rfl
@[go_sem] theorem T271 : T.get 271 = ⟨true, (.struct [(0, 1, false), (1, 1, false), (2, 1, false), (3, 1, false)]), true, 4, [.slice none 0 0, .int .i64 0, .int .i64 0, .int .i64 0]⟩ := rfl
@[go_sem] theorem T286 : T.get 286 = ⟨true, .other, false, 1, [.nilFunc]⟩ := rfl
@[go_sem] theorem T288 : T.get 288 = ⟨true, (.struct [(0, 1, false), (1, 1, false)]), true, 2, [.slice none 0 0, .slice none 0 0]⟩ := rfl
@[go_sem] theorem T290 : T.get 290 = ⟨true, (.slice 293 1 16 false [.nilIface]), false, 1, [.slice none 0 0]⟩ := rfl
@[go_sem] theorem T293 : T.get 293 = ⟨true, .other, false, 1, [.nilIface]⟩ := rfl
@[go_sem] theorem T313 : T.get 313 = ⟨true, (.struct [(0, 1, false), (1, 1, false), (2, 1, false), (3, 1, false)]), true, 4, [.string ⟨#[]⟩, .string ⟨#[]⟩, .bool false, .bool false]⟩ := rfl
@[go_sem] theorem T322 : T.get 322 = ⟨true, .other, false, 1, [.nilFunc]⟩ := rfl
@[go_sem] theorem T323 : T.get 323 = ⟨true, (.slice 313 4 40 true [.string ⟨#[]⟩, .string ⟨#[]⟩, .bool false, .bool false]), false, 1, [.slice none 0 0]⟩ := rfl
structure Nw (p : Prop) : Prop where
  k : p
theorem mqn {α : Type} {β : α → Prop} {p : ∀ a, β a → Prop} (h : ∀ a b, p a b) : Nw (∀ a b, p a b) := ⟨h⟩
structure Nc (p q : Prop) : Prop where
  wk ::
  a : p
  b : q
theorem mq0 {p q : Prop} (h : q) (k : q → p := by intro h; (first | (refine st rfl ?_; exact h) | (refine sc rfl ?_; exact h) | (refine nl ?_; exact h) | (refine gs rfl rfl ?_; exact h) | (refine gn ?_; exact h) | (refine vs T rfl fun K hK => ?_; (try simp (disch := omega) only [go_sem, Nat.reduceBEq, Nat.reduceAdd, Nat.reduceLeDiff, Nat.reduceMul, Nat.reduceSub, Int.reduceBEq, Int.reduceToNat, z'H, z'P, ne_eq, not_false_eq_true, beq_self_eq_true]); first | (refine hK _ _ ?_; clear hK K; exact h) | (intro bq hbq; (try simp only [HB] at hbq); refine hK _ _ ?_; clear hK K; revert bq hbq; exact Nw.k h) | (exact ⟨Nc.a h, hK _ _ (Nc.b h)⟩)))) : p := k h
theorem mq1 {e p q : Prop} (x : e) (h : q) (k : e → q → p := by intro x h; (first | (refine st rfl ?_; exact h) | (refine sc rfl ?_; exact h) | (refine nl ?_; exact h) | (refine gs rfl rfl ?_; exact h) | (refine gn ?_; exact h) | (refine vs T rfl fun K hK => ?_; (try simp (disch := omega) only [go_sem, Nat.reduceBEq, Nat.reduceAdd, Nat.reduceLeDiff, Nat.reduceMul, Nat.reduceSub, Int.reduceBEq, Int.reduceToNat, z'H, z'P, ne_eq, not_false_eq_true, beq_self_eq_true, x]); first | (refine hK _ _ ?_; clear hK K; exact h) | (intro bq hbq; (try simp only [HB] at hbq); refine hK _ _ ?_; clear hK K; revert bq hbq; exact Nw.k h) | (exact ⟨Nc.a h, hK _ _ (Nc.b h)⟩)))) : p := k x h
theorem mq2 {e c p q : Prop} (x : e) (y : c) (h : q) (k : e → c → q → p := by intro x y h; (first | (refine st rfl ?_; exact h) | (refine sc rfl ?_; exact h) | (refine nl ?_; exact h) | (refine gs rfl rfl ?_; exact h) | (refine gn ?_; exact h) | (refine vs T rfl fun K hK => ?_; (try simp (disch := omega) only [go_sem, Nat.reduceBEq, Nat.reduceAdd, Nat.reduceLeDiff, Nat.reduceMul, Nat.reduceSub, Int.reduceBEq, Int.reduceToNat, z'H, z'P, ne_eq, not_false_eq_true, beq_self_eq_true, x]); first | (refine hK _ _ ?_; clear hK K; exact h) | (refine Op1.callp rfl rfl (y ..) rfl ?_; refine hK _ _ ?_; clear hK K; exact h) | (refine Op1.callp rfl rfl (y.1 ..) rfl ?_; refine hK _ _ ?_; clear hK K; exact h) | (refine Op1.callp rfl rfl (y.2 ..) rfl ?_; refine hK _ _ ?_; clear hK K; exact h) | (refine Op1.callp rfl rfl (y.2.1 ..) rfl ?_; refine hK _ _ ?_; clear hK K; exact h) | (refine Op1.callp rfl rfl (y.2.2 ..) rfl ?_; refine hK _ _ ?_; clear hK K; exact h) | (refine Op1.callp rfl rfl (y.2.2.1 ..) rfl ?_; refine hK _ _ ?_; clear hK K; exact h) | (refine Op1.callp rfl rfl (y.2.2.2 ..) rfl ?_; refine hK _ _ ?_; clear hK K; exact h) | (refine Op1.callp rfl rfl (y.2.2.2.1 ..) rfl ?_; refine hK _ _ ?_; clear hK K; exact h) | (refine Op1.callp rfl rfl (y.2.2.2.2 ..) rfl ?_; refine hK _ _ ?_; clear hK K; exact h) | (refine Op1.callp rfl rfl (y.2.2.2.2.1 ..) rfl ?_; refine hK _ _ ?_; clear hK K; exact h) | (refine Op1.callp rfl rfl (y.2.2.2.2.2 ..) rfl ?_; refine hK _ _ ?_; clear hK K; exact h) | (refine Op1.callp rfl rfl (y.2.2.2.2.2.1 ..) rfl ?_; refine hK _ _ ?_; clear hK K; exact h) | (refine Op1.callp rfl rfl (y.2.2.2.2.2.2 ..) rfl ?_; refine hK _ _ ?_; clear hK K; exact h) | (refine Op1.callp rfl rfl (y.2.2.2.2.2.2.1 ..) rfl ?_; refine hK _ _ ?_; clear hK K; exact h) | (refine Op1.callp rfl rfl (y.2.2.2.2.2.2.2 ..) rfl ?_; refine hK _ _ ?_; clear hK K; exact h) | (refine Op1.callp rfl rfl (y.2.2.2.2.2.2.2.1 ..) rfl ?_; refine hK _ _ ?_; clear hK K; exact h) | (refine Op1.callp rfl rfl (y.2.2.2.2.2.2.2.2 ..) rfl ?_; refine hK _ _ ?_; clear hK K; exact h) | (refine Op1.callp rfl rfl (y.2.2.2.2.2.2.2.2.1 ..) rfl ?_; refine hK _ _ ?_; clear hK K; exact h) | (refine Op1.callp rfl rfl (y.2.2.2.2.2.2.2.2.2 ..) rfl ?_; refine hK _ _ ?_; clear hK K; exact h) | (refine Op1.callp rfl rfl (y.2.2.2.2.2.2.2.2.2.1 ..) rfl ?_; refine hK _ _ ?_; clear hK K; exact h) | (refine Op1.callp rfl rfl (y.2.2.2.2.2.2.2.2.2.2 ..) rfl ?_; refine hK _ _ ?_; clear hK K; exact h) | (intro bq hbq; (try simp only [HB] at hbq); refine hK _ _ ?_; clear hK K; revert bq hbq; exact Nw.k h) | (exact ⟨Nc.a h, hK _ _ (Nc.b h)⟩)))) : p := k x y h
theorem mq3 {c p q : Prop} (y : c) (h : q) (k : c → q → p := by intro y h; (first | (refine st rfl ?_; exact h) | (refine sc rfl ?_; exact h) | (refine nl ?_; exact h) | (refine gs rfl rfl ?_; exact h) | (refine gn ?_; exact h) | (refine vs T rfl fun K hK => ?_; (try simp (disch := omega) only [go_sem, Nat.reduceBEq, Nat.reduceAdd, Nat.reduceLeDiff, Nat.reduceMul, Nat.reduceSub, Int.reduceBEq, Int.reduceToNat, z'H, z'P, ne_eq, not_false_eq_true, beq_self_eq_true]); first | (refine hK _ _ ?_; clear hK K; exact h) | (refine Op1.callp rfl rfl (y ..) rfl ?_; refine hK _ _ ?_; clear hK K; exact h) | (refine Op1.callp rfl rfl (y.1 ..) rfl ?_; refine hK _ _ ?_; clear hK K; exact h) | (refine Op1.callp rfl rfl (y.2 ..) rfl ?_; refine hK _ _ ?_; clear hK K; exact h) | (refine Op1.callp rfl rfl (y.2.1 ..) rfl ?_; refine hK _ _ ?_; clear hK K; exact h) | (refine Op1.callp rfl rfl (y.2.2 ..) rfl ?_; refine hK _ _ ?_; clear hK K; exact h) | (refine Op1.callp rfl rfl (y.2.2.1 ..) rfl ?_; refine hK _ _ ?_; clear hK K; exact h) | (refine Op1.callp rfl rfl (y.2.2.2 ..) rfl ?_; refine hK _ _ ?_; clear hK K; exact h) | (refine Op1.callp rfl rfl (y.2.2.2.1 ..) rfl ?_; refine hK _ _ ?_; clear hK K; exact h) | (refine Op1.callp rfl rfl (y.2.2.2.2 ..) rfl ?_; refine hK _ _ ?_; clear hK K; exact h) | (refine Op1.callp rfl rfl (y.2.2.2.2.1 ..) rfl ?_; refine hK _ _ ?_; clear hK K; exact h) | (refine Op1.callp rfl rfl (y.2.2.2.2.2 ..) rfl ?_; refine hK _ _ ?_; clear hK K; exact h) | (refine Op1.callp rfl rfl (y.2.2.2.2.2.1 ..) rfl ?_; refine hK _ _ ?_; clear hK K; exact h) | (refine Op1.callp rfl rfl (y.2.2.2.2.2.2 ..) rfl ?_; refine hK _ _ ?_; clear hK K; exact h) | (refine Op1.callp rfl rfl (y.2.2.2.2.2.2.1 ..) rfl ?_; refine hK _ _ ?_; clear hK K; exact h) | (refine Op1.callp rfl rfl (y.2.2.2.2.2.2.2 ..) rfl ?_; refine hK _ _ ?_; clear hK K; exact h) | (refine Op1.callp rfl rfl (y.2.2.2.2.2.2.2.1 ..) rfl ?_; refine hK _ _ ?_; clear hK K; exact h) | (refine Op1.callp rfl rfl (y.2.2.2.2.2.2.2.2 ..) rfl ?_; refine hK _ _ ?_; clear hK K; exact h) | (refine Op1.callp rfl rfl (y.2.2.2.2.2.2.2.2.1 ..) rfl ?_; refine hK _ _ ?_; clear hK K; exact h) | (refine Op1.callp rfl rfl (y.2.2.2.2.2.2.2.2.2 ..) rfl ?_; refine hK _ _ ?_; clear hK K; exact h) | (refine Op1.callp rfl rfl (y.2.2.2.2.2.2.2.2.2.1 ..) rfl ?_; refine hK _ _ ?_; clear hK K; exact h) | (refine Op1.callp rfl rfl (y.2.2.2.2.2.2.2.2.2.2 ..) rfl ?_; refine hK _ _ ?_; clear hK K; exact h) | (intro bq hbq; (try simp only [HB] at hbq); refine hK _ _ ?_; clear hK K; revert bq hbq; exact Nw.k h) | (exact ⟨Nc.a h, hK _ _ (Nc.b h)⟩)))) : p := k y h
theorem mqt2 {p0 p1 : Prop} (x0 : p0) (x1 : p1) : p0 ∧ p1 := ⟨x0, x1⟩
theorem mqt3 {p0 p1 p2 : Prop} (x0 : p0) (x1 : p1) (x2 : p2) : p0 ∧ p1 ∧ p2 := ⟨x0, x1, x2⟩
theorem mqt4 {p0 p1 p2 p3 : Prop} (x0 : p0) (x1 : p1) (x2 : p2) (x3 : p3) : p0 ∧ p1 ∧ p2 ∧ p3 := ⟨x0, x1, x2, x3⟩
theorem mqt5 {p0 p1 p2 p3 p4 : Prop} (x0 : p0) (x1 : p1) (x2 : p2) (x3 : p3) (x4 : p4) : p0 ∧ p1 ∧ p2 ∧ p3 ∧ p4 := ⟨x0, x1, x2, x3, x4⟩
theorem mqt6 {p0 p1 p2 p3 p4 p5 : Prop} (x0 : p0) (x1 : p1) (x2 : p2) (x3 : p3) (x4 : p4) (x5 : p5) : p0 ∧ p1 ∧ p2 ∧ p3 ∧ p4 ∧ p5 := ⟨x0, x1, x2, x3, x4, x5⟩
theorem mqt7 {p0 p1 p2 p3 p4 p5 p6 : Prop} (x0 : p0) (x1 : p1) (x2 : p2) (x3 : p3) (x4 : p4) (x5 : p5) (x6 : p6) : p0 ∧ p1 ∧ p2 ∧ p3 ∧ p4 ∧ p5 ∧ p6 := ⟨x0, x1, x2, x3, x4, x5, x6⟩
theorem mqt8 {p0 p1 p2 p3 p4 p5 p6 p7 : Prop} (x0 : p0) (x1 : p1) (x2 : p2) (x3 : p3) (x4 : p4) (x5 : p5) (x6 : p6) (x7 : p7) : p0 ∧ p1 ∧ p2 ∧ p3 ∧ p4 ∧ p5 ∧ p6 ∧ p7 := ⟨x0, x1, x2, x3, x4, x5, x6, x7⟩
theorem mqt9 {p0 p1 p2 p3 p4 p5 p6 p7 p8 : Prop} (x0 : p0) (x1 : p1) (x2 : p2) (x3 : p3) (x4 : p4) (x5 : p5) (x6 : p6) (x7 : p7) (x8 : p8) : p0 ∧ p1 ∧ p2 ∧ p3 ∧ p4 ∧ p5 ∧ p6 ∧ p7 ∧ p8 := ⟨x0, x1, x2, x3, x4, x5, x6, x7, x8⟩
theorem mqt10 {p0 p1 p2 p3 p4 p5 p6 p7 p8 p9 : Prop} (x0 : p0) (x1 : p1) (x2 : p2) (x3 : p3) (x4 : p4) (x5 : p5) (x6 : p6) (x7 : p7) (x8 : p8) (x9 : p9) : p0 ∧ p1 ∧ p2 ∧ p3 ∧ p4 ∧ p5 ∧ p6 ∧ p7 ∧ p8 ∧ p9 := ⟨x0, x1, x2, x3, x4, x5, x6, x7, x8, x9⟩
theorem mqt11 {p0 p1 p2 p3 p4 p5 p6 p7 p8 p9 p10 : Prop} (x0 : p0) (x1 : p1) (x2 : p2) (x3 : p3) (x4 : p4) (x5 : p5) (x6 : p6) (x7 : p7) (x8 : p8) (x9 : p9) (x10 : p10) : p0 ∧ p1 ∧ p2 ∧ p3 ∧ p4 ∧ p5 ∧ p6 ∧ p7 ∧ p8 ∧ p9 ∧ p10 := ⟨x0, x1, x2, x3, x4, x5, x6, x7, x8, x9, x10⟩
theorem mqt12 {p0 p1 p2 p3 p4 p5 p6 p7 p8 p9 p10 p11 : Prop} (x0 : p0) (x1 : p1) (x2 : p2) (x3 : p3) (x4 : p4) (x5 : p5) (x6 : p6) (x7 : p7) (x8 : p8) (x9 : p9) (x10 : p10) (x11 : p11) : p0 ∧ p1 ∧ p2 ∧ p3 ∧ p4 ∧ p5 ∧ p6 ∧ p7 ∧ p8 ∧ p9 ∧ p10 ∧ p11 := ⟨x0, x1, x2, x3, x4, x5, x6, x7, x8, x9, x10, x11⟩
theorem mqt13 {p0 p1 p2 p3 p4 p5 p6 p7 p8 p9 p10 p11 p12 : Prop} (x0 : p0) (x1 : p1) (x2 : p2) (x3 : p3) (x4 : p4) (x5 : p5) (x6 : p6) (x7 : p7) (x8 : p8) (x9 : p9) (x10 : p10) (x11 : p11) (x12 : p12) : p0 ∧ p1 ∧ p2 ∧ p3 ∧ p4 ∧ p5 ∧ p6 ∧ p7 ∧ p8 ∧ p9 ∧ p10 ∧ p11 ∧ p12 := ⟨x0, x1, x2, x3, x4, x5, x6, x7, x8, x9, x10, x11, x12⟩
theorem mqt14 {p0 p1 p2 p3 p4 p5 p6 p7 p8 p9 p10 p11 p12 p13 : Prop} (x0 : p0) (x1 : p1) (x2 : p2) (x3 : p3) (x4 : p4) (x5 : p5) (x6 : p6) (x7 : p7) (x8 : p8) (x9 : p9) (x10 : p10) (x11 : p11) (x12 : p12) (x13 : p13) : p0 ∧ p1 ∧ p2 ∧ p3 ∧ p4 ∧ p5 ∧ p6 ∧ p7 ∧ p8 ∧ p9 ∧ p10 ∧ p11 ∧ p12 ∧ p13 := ⟨x0, x1, x2, x3, x4, x5, x6, x7, x8, x9, x10, x11, x12, x13⟩
theorem mqt15 {p0 p1 p2 p3 p4 p5 p6 p7 p8 p9 p10 p11 p12 p13 p14 : Prop} (x0 : p0) (x1 : p1) (x2 : p2) (x3 : p3) (x4 : p4) (x5 : p5) (x6 : p6) (x7 : p7) (x8 : p8) (x9 : p9) (x10 : p10) (x11 : p11) (x12 : p12) (x13 : p13) (x14 : p14) : p0 ∧ p1 ∧ p2 ∧ p3 ∧ p4 ∧ p5 ∧ p6 ∧ p7 ∧ p8 ∧ p9 ∧ p10 ∧ p11 ∧ p12 ∧ p13 ∧ p14 := ⟨x0, x1, x2, x3, x4, x5, x6, x7, x8, x9, x10, x11, x12, x13, x14⟩
theorem mqt16 {p0 p1 p2 p3 p4 p5 p6 p7 p8 p9 p10 p11 p12 p13 p14 p15 : Prop} (x0 : p0) (x1 : p1) (x2 : p2) (x3 : p3) (x4 : p4) (x5 : p5) (x6 : p6) (x7 : p7) (x8 : p8) (x9 : p9) (x10 : p10) (x11 : p11) (x12 : p12) (x13 : p13) (x14 : p14) (x15 : p15) : p0 ∧ p1 ∧ p2 ∧ p3 ∧ p4 ∧ p5 ∧ p6 ∧ p7 ∧ p8 ∧ p9 ∧ p10 ∧ p11 ∧ p12 ∧ p13 ∧ p14 ∧ p15 := ⟨x0, x1, x2, x3, x4, x5, x6, x7, x8, x9, x10, x11, x12, x13, x14, x15⟩
theorem mqt17 {p0 p1 p2 p3 p4 p5 p6 p7 p8 p9 p10 p11 p12 p13 p14 p15 p16 : Prop} (x0 : p0) (x1 : p1) (x2 : p2) (x3 : p3) (x4 : p4) (x5 : p5) (x6 : p6) (x7 : p7) (x8 : p8) (x9 : p9) (x10 : p10) (x11 : p11) (x12 : p12) (x13 : p13) (x14 : p14) (x15 : p15) (x16 : p16) : p0 ∧ p1 ∧ p2 ∧ p3 ∧ p4 ∧ p5 ∧ p6 ∧ p7 ∧ p8 ∧ p9 ∧ p10 ∧ p11 ∧ p12 ∧ p13 ∧ p14 ∧ p15 ∧ p16 := ⟨x0, x1, x2, x3, x4, x5, x6, x7, x8, x9, x10, x11, x12, x13, x14, x15, x16⟩
theorem mqt18 {p0 p1 p2 p3 p4 p5 p6 p7 p8 p9 p10 p11 p12 p13 p14 p15 p16 p17 : Prop} (x0 : p0) (x1 : p1) (x2 : p2) (x3 : p3) (x4 : p4) (x5 : p5) (x6 : p6) (x7 : p7) (x8 : p8) (x9 : p9) (x10 : p10) (x11 : p11) (x12 : p12) (x13 : p13) (x14 : p14) (x15 : p15) (x16 : p16) (x17 : p17) : p0 ∧ p1 ∧ p2 ∧ p3 ∧ p4 ∧ p5 ∧ p6 ∧ p7 ∧ p8 ∧ p9 ∧ p10 ∧ p11 ∧ p12 ∧ p13 ∧ p14 ∧ p15 ∧ p16 ∧ p17 := ⟨x0, x1, x2, x3, x4, x5, x6, x7, x8, x9, x10, x11, x12, x13, x14, x15, x16, x17⟩
theorem mqt19 {p0 p1 p2 p3 p4 p5 p6 p7 p8 p9 p10 p11 p12 p13 p14 p15 p16 p17 p18 : Prop} (x0 : p0) (x1 : p1) (x2 : p2) (x3 : p3) (x4 : p4) (x5 : p5) (x6 : p6) (x7 : p7) (x8 : p8) (x9 : p9) (x10 : p10) (x11 : p11) (x12 : p12) (x13 : p13) (x14 : p14) (x15 : p15) (x16 : p16) (x17 : p17) (x18 : p18) : p0 ∧ p1 ∧ p2 ∧ p3 ∧ p4 ∧ p5 ∧ p6 ∧ p7 ∧ p8 ∧ p9 ∧ p10 ∧ p11 ∧ p12 ∧ p13 ∧ p14 ∧ p15 ∧ p16 ∧ p17 ∧ p18 := ⟨x0, x1, x2, x3, x4, x5, x6, x7, x8, x9, x10, x11, x12, x13, x14, x15, x16, x17, x18⟩
end Go.Proofs.YthlkpnjjkgmlkaaGreat
