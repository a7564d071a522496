/- The types of the program, as a walk asks them. No condition. -/
import Derived.Test.YtjlnkedmbfdofaaGreatChecked
import Derived.Test.YtjlnkedmbfdofaaGreatK2
namespace Go.Proofs.YtjlnkedmbfdofaaGreat
set_option linter.unusedSimpArgs false
set_option linter.unusedVariables false
set_option maxRecDepth 100000
open Go Go.Proofs Go.Vc
def tys:List (TypeId×TyI):=[
 (1,⟨true,.other,false,1,[.nilFunc]⟩),
 (2,⟨true,(.int .i64),false,1,[.int .i64 0]⟩),
 (3,⟨true,(.int .i64),false,1,[.int .i64 0]⟩),
 (4,⟨true,.bool,false,1,[.bool false]⟩),
 (5,⟨true,(.int .u8),false,1,[.int .u8 0]⟩),
 (6,⟨true,(.int .u8),false,1,[.int .u8 0]⟩),
 (7,⟨true,(.struct [(0,1,false),(1,1,false),(2,1,false),(3,1,false)]),true,4,[.int .i64 0,.int .i64 0,.bool false,.int .u8 0]⟩),
 (8,⟨true,(.struct [(0,1,false),(1,1,false),(2,1,false),(3,1,false)]),true,4,[.int .i64 0,.int .i64 0,.bool false,.int .u8 0]⟩),
 (9,⟨true,.str,false,1,[.string ⟨#[]⟩]⟩),
 (10,⟨true,.str,false,1,[.string ⟨#[]⟩]⟩),
 (11,⟨true,.str,false,1,[.string ⟨#[]⟩]⟩),
 (12,⟨true,(.int .u64),false,1,[.int .u64 0]⟩),
 (13,⟨true,(.struct [(0,1,false),(1,1,false)]),true,2,[.string ⟨#[]⟩,.int .u64 0]⟩),
 (14,⟨true,(.struct [(0,1,false),(1,1,false)]),true,2,[.string ⟨#[]⟩,.int .u64 0]⟩),
 (15,⟨true,.other,false,1,[.pointer none]⟩),
 (16,⟨true,.other,false,1,[.pointer none]⟩),
 (17,⟨true,.other,false,1,[.pointer none]⟩),
 (18,⟨true,(.struct [(0,1,false)]),true,1,[.pointer none]⟩),
 (19,⟨true,(.struct [(0,1,false)]),true,1,[.pointer none]⟩),
 (20,⟨true,.other,false,1,[.nilIface]⟩),
 (21,⟨true,(.int .i32),false,1,[.int .i32 0]⟩),
 (22,⟨true,.other,false,1,[.nilFunc]⟩),
 (23,⟨true,.other,false,1,[.nilFunc]⟩),
 (24,⟨true,.other,false,1,[.nilFunc]⟩),
 (25,⟨true,(.slice 9 1 16 false [.string ⟨#[]⟩]),false,1,[.slice none 0 0]⟩),
 (26,⟨true,.other,false,1,[.nilFunc]⟩),
 (27,⟨true,.other,false,1,[.nilFunc]⟩),
 (28,⟨true,(.slice 3 1 8 false [.int .i64 0]),false,1,[.slice none 0 0]⟩),
 (29,⟨true,(.slice 75 3 32 true [.bool false,.bool false,.slice none 0 0]),false,1,[.slice none 0 0]⟩),
 (30,⟨true,(.struct [(0,1,false),(1,1,false),(2,1,false),(3,1,false),(4,1,false),(5,1,false)]),true,6,[.int .i64 0,.slice none 0 0,.slice none 0 0,.slice none 0 0,.int .i64 0,.int .i64 0]⟩),
 (31,⟨true,(.struct [(0,1,false),(1,1,false),(2,1,false),(3,1,false),(4,1,false),(5,1,false)]),true,6,[.int .i64 0,.slice none 0 0,.slice none 0 0,.slice none 0 0,.int .i64 0,.int .i64 0]⟩),
 (33,⟨true,.other,false,1,[.nilFunc]⟩),
 (34,⟨true,(.struct [(0,1,false),(1,1,false),(2,1,false),(3,1,false)]),true,4,[.int .i64 0,.int .i64 0,.int .i64 0,.int .i64 0]⟩),
 (35,⟨true,(.struct [(0,1,false),(1,1,false),(2,1,false),(3,1,false)]),true,4,[.int .i64 0,.int .i64 0,.int .i64 0,.int .i64 0]⟩),
 (36,⟨true,(.slice 118 1 24 false [.slice none 0 0]),false,1,[.slice none 0 0]⟩),
 (37,⟨true,(.struct [(0,1,false),(1,1,false),(2,1,false),(3,1,false)]),true,4,[.int .i64 0,.slice none 0 0,.slice none 0 0,.slice none 0 0]⟩),
 (38,⟨true,(.struct [(0,1,false),(1,1,false),(2,1,false),(3,1,false)]),true,4,[.int .i64 0,.slice none 0 0,.slice none 0 0,.slice none 0 0]⟩),
 (39,⟨true,(.struct [(0,4,true),(4,4,true),(8,6,true)]),true,14,[.int .i64 0,.int .i64 0,.int .i64 0,.int .i64 0,.int .i64 0,.slice none 0 0,.slice none 0 0,.slice none 0 0,.int .i64 0,.slice none 0 0,.slice none 0 0,.slice none 0 0,.int .i64 0,.int .i64 0]⟩),
 (40,⟨true,(.struct [(0,4,true),(4,4,true),(8,6,true)]),true,14,[.int .i64 0,.int .i64 0,.int .i64 0,.int .i64 0,.int .i64 0,.slice none 0 0,.slice none 0 0,.slice none 0 0,.int .i64 0,.slice none 0 0,.slice none 0 0,.slice none 0 0,.int .i64 0,.int .i64 0]⟩),
 (41,⟨true,.other,false,1,[.nilIface]⟩),
 (42,⟨true,.other,false,1,[.nilIface]⟩),
 (44,⟨true,.other,false,1,[.nilFunc]⟩),
 (45,⟨true,.other,false,1,[.nilFunc]⟩),
 (46,⟨true,.other,false,1,[.nilFunc]⟩),
 (47,⟨true,(.int .i64),false,1,[.int .i64 0]⟩),
 (48,⟨true,.other,false,1,[.nilFunc]⟩),
 (49,⟨true,.other,false,1,[.nilFunc]⟩),
 (50,⟨true,(.int .i64),false,1,[.int .i64 0]⟩),
 (52,⟨true,.other,false,1,[.nilFunc]⟩),
 (54,⟨true,.other,false,1,[.nilFunc]⟩),
 (55,⟨true,.other,false,1,[.nilFunc]⟩),
 (56,⟨true,(.slice 105 3 32 true [.string ⟨#[]⟩,.int .i64 0,.int .i64 0]),false,1,[.slice none 0 0]⟩),
 (57,⟨true,(.slice 109 4 72 true [.string ⟨#[]⟩,.slice none 0 0,.slice none 0 0,.int .i64 0]),false,1,[.slice none 0 0]⟩),
 (58,⟨true,(.slice 113 3 40 true [.int .i64 0,.slice none 0 0,.int .i64 0]),false,1,[.slice none 0 0]⟩),
 (59,⟨true,(.struct [(0,1,false),(1,1,false),(2,1,false),(3,1,false)]),true,4,[.int .i64 0,.slice none 0 0,.slice none 0 0,.slice none 0 0]⟩),
 (60,⟨true,(.struct [(0,1,false),(1,1,false),(2,1,false),(3,1,false)]),true,4,[.int .i64 0,.slice none 0 0,.slice none 0 0,.slice none 0 0]⟩),
 (62,⟨true,.other,false,1,[.nilFunc]⟩),
 (64,⟨true,.other,false,1,[.nilFunc]⟩),
 (65,⟨true,.other,false,1,[.nilFunc]⟩),
 (66,⟨true,.other,false,1,[.nilFunc]⟩),
 (67,⟨true,.other,false,1,[.pointer none]⟩),
 (68,⟨true,(.struct [(0,4,true),(4,1,false),(5,1,false)]),true,6,[.int .i64 0,.slice none 0 0,.slice none 0 0,.slice none 0 0,.int .i64 0,.string ⟨#[]⟩]⟩),
 (69,⟨true,(.struct [(0,4,true),(4,1,false),(5,1,false)]),true,6,[.int .i64 0,.slice none 0 0,.slice none 0 0,.slice none 0 0,.int .i64 0,.string ⟨#[]⟩]⟩),
 (70,⟨true,.other,false,1,[.nilFunc]⟩),
 (71,⟨true,.other,false,1,[.nilFunc]⟩),
 (72,⟨true,(.slice 20 1 16 false [.nilIface]),false,1,[.slice none 0 0]⟩),
 (73,⟨true,.other,false,1,[.nilFunc]⟩),
 (74,⟨true,(.struct [(0,1,false),(1,1,false),(2,1,false)]),true,3,[.bool false,.bool false,.slice none 0 0]⟩),
 (75,⟨true,(.struct [(0,1,false),(1,1,false),(2,1,false)]),true,3,[.bool false,.bool false,.slice none 0 0]⟩),
 (76,⟨true,.other,false,1,[.nilIface]⟩),
 (77,⟨true,.other,false,1,[.nilIface]⟩),
 (78,⟨true,.other,false,1,[.nilFunc]⟩),
 (79,⟨true,.other,false,1,[.nilFunc]⟩),
 (80,⟨true,(.slice 5 1 1 false [.int .u8 0]),false,1,[.slice none 0 0]⟩),
 (81,⟨true,.other,false,1,[.pointer none]⟩),
 (82,⟨true,(.struct [(0,4,true),(4,1,false),(5,6,true)]),true,11,[.int .i64 0,.slice none 0 0,.slice none 0 0,.slice none 0 0,.int .i64 0,.int .i64 0,.slice none 0 0,.slice none 0 0,.slice none 0 0,.int .i64 0,.int .i64 0]⟩),
 (83,⟨true,(.struct [(0,4,true),(4,1,false),(5,6,true)]),true,11,[.int .i64 0,.slice none 0 0,.slice none 0 0,.slice none 0 0,.int .i64 0,.int .i64 0,.slice none 0 0,.slice none 0 0,.slice none 0 0,.int .i64 0,.int .i64 0]⟩),
 (84,⟨true,.other,false,1,[.nilFunc]⟩),
 (85,⟨true,.other,false,1,[.nilFunc]⟩),
 (86,⟨true,.other,false,1,[.nilFunc]⟩),
 (87,⟨true,.other,false,1,[.pointer none]⟩),
 (88,⟨true,(.struct [(0,1,false),(1,1,false),(2,1,false)]),true,3,[.string ⟨#[]⟩,.int .i64 0,.int .i64 0]⟩),
 (89,⟨true,(.struct [(0,1,false),(1,1,false),(2,1,false)]),true,3,[.string ⟨#[]⟩,.int .i64 0,.int .i64 0]⟩),
 (90,⟨true,(.slice 97 4 40 true [.int .i64 0,.string ⟨#[]⟩,.int .i64 0,.int .i64 0]),false,1,[.slice none 0 0]⟩),
 (92,⟨true,.other,false,1,[.nilFunc]⟩),
 (93,⟨true,.other,false,1,[.pointer none]⟩),
 (94,⟨true,(.struct [(0,1,false),(1,1,false),(2,1,false),(3,1,false)]),true,4,[.slice none 0 0,.int .i64 0,.int .i64 0,.int .i64 0]⟩),
 (95,⟨true,(.struct [(0,1,false),(1,1,false),(2,1,false),(3,1,false)]),true,4,[.slice none 0 0,.int .i64 0,.int .i64 0,.int .i64 0]⟩),
 (96,⟨true,(.struct [(0,1,false),(1,1,false),(2,1,false),(3,1,false)]),true,4,[.int .i64 0,.string ⟨#[]⟩,.int .i64 0,.int .i64 0]⟩),
 (97,⟨true,(.struct [(0,1,false),(1,1,false),(2,1,false),(3,1,false)]),true,4,[.int .i64 0,.string ⟨#[]⟩,.int .i64 0,.int .i64 0]⟩),
 (98,⟨true,.other,false,1,[.nilFunc]⟩),
 (99,⟨true,.other,false,1,[.nilFunc]⟩),
 (100,⟨true,.other,false,1,[.nilFunc]⟩),
 (101,⟨true,.other,false,1,[.nilFunc]⟩),
 (103,⟨true,.other,false,1,[.nilFunc]⟩),
 (104,⟨true,(.struct [(0,1,false),(1,1,false),(2,1,false)]),true,3,[.string ⟨#[]⟩,.int .i64 0,.int .i64 0]⟩),
 (105,⟨true,(.struct [(0,1,false),(1,1,false),(2,1,false)]),true,3,[.string ⟨#[]⟩,.int .i64 0,.int .i64 0]⟩),
 (106,⟨true,.other,false,1,[.nilFunc]⟩),
 (107,⟨true,(.slice 289 9 120 true [.int .i64 0,.string ⟨#[]⟩,.string ⟨#[]⟩,.slice none 0 0,.slice none 0 0,.bool false,.int .i64 0,.int .i64 0,.int .i64 0]),false,1,[.slice none 0 0]⟩),
 (108,⟨true,(.struct [(0,1,false),(1,1,false),(2,1,false),(3,1,false)]),true,4,[.string ⟨#[]⟩,.slice none 0 0,.slice none 0 0,.int .i64 0]⟩),
 (109,⟨true,(.struct [(0,1,false),(1,1,false),(2,1,false),(3,1,false)]),true,4,[.string ⟨#[]⟩,.slice none 0 0,.slice none 0 0,.int .i64 0]⟩),
 (110,⟨true,.other,false,1,[.nilFunc]⟩),
 (111,⟨true,(.slice 164 5 56 true [.int .i64 0,.int .i64 0,.string ⟨#[]⟩,.string ⟨#[]⟩,.int .i64 0]),false,1,[.slice none 0 0]⟩),
 (112,⟨true,(.struct [(0,1,false),(1,1,false),(2,1,false)]),true,3,[.int .i64 0,.slice none 0 0,.int .i64 0]⟩),
 (113,⟨true,(.struct [(0,1,false),(1,1,false),(2,1,false)]),true,3,[.int .i64 0,.slice none 0 0,.int .i64 0]⟩),
 (114,⟨true,.other,false,1,[.nilFunc]⟩),
 (116,⟨true,.other,false,1,[.nilFunc]⟩),
 (117,⟨true,.other,false,1,[.nilFunc]⟩),
 (118,⟨true,(.slice 181 7 88 true [.int .i64 0,.int .i64 0,.int .i64 0,.slice none 0 0,.slice none 0 0,.bool false,.int .i64 0]),false,1,[.slice none 0 0]⟩),
 (119,⟨true,.other,false,1,[.nilFunc]⟩),
 (120,⟨true,(.slice 185 4 96 true [.slice none 0 0,.slice none 0 0,.slice none 0 0,.slice none 0 0]),false,1,[.slice none 0 0]⟩),
 (121,⟨true,(.struct [(0,1,false),(1,1,false),(2,1,false)]),true,3,[.slice none 0 0,.slice none 0 0,.slice none 0 0]⟩),
 (122,⟨true,(.struct [(0,1,false),(1,1,false),(2,1,false)]),true,3,[.slice none 0 0,.slice none 0 0,.slice none 0 0]⟩),
 (123,⟨true,(.struct [(0,1,false),(1,3,true),(4,1,false),(5,1,false)]),true,6,[.slice none 0 0,.slice none 0 0,.slice none 0 0,.slice none 0 0,.slice none 0 0,.slice none 0 0]⟩),
 (124,⟨true,(.struct [(0,1,false),(1,3,true),(4,1,false),(5,1,false)]),true,6,[.slice none 0 0,.slice none 0 0,.slice none 0 0,.slice none 0 0,.slice none 0 0,.slice none 0 0]⟩),
 (126,⟨true,.other,false,1,[.nilFunc]⟩),
 (128,⟨true,.other,false,1,[.nilFunc]⟩),
 (130,⟨true,.other,false,1,[.nilFunc]⟩),
 (131,⟨true,.other,false,1,[.nilFunc]⟩),
 (132,⟨true,.other,false,1,[.nilFunc]⟩),
 (133,⟨true,(.slice 3 1 8 false [.int .i64 0]),false,1,[.slice none 0 0]⟩),
 (135,⟨true,.other,false,1,[.nilFunc]⟩),
 (136,⟨true,(.struct [(0,1,false)]),true,1,[.pointer none]⟩),
 (137,⟨true,(.struct [(0,1,false)]),true,1,[.pointer none]⟩),
 (138,⟨true,.other,false,1,[.pointer none]⟩),
 (139,⟨true,.other,false,1,[.nilIface]⟩),
 (141,⟨true,.other,false,1,[.nilFunc]⟩),
 (142,⟨true,.other,false,1,[.nilIface]⟩),
 (143,⟨true,.other,false,1,[.nilFunc]⟩),
 (144,⟨true,.other,false,1,[.nilIface]⟩),
 (145,⟨true,(.slice 42 1 16 false [.nilIface]),false,1,[.slice none 0 0]⟩),
 (146,⟨true,.other,false,1,[.nilFunc]⟩),
 (148,⟨true,.other,false,1,[.nilFunc]⟩),
 (150,⟨true,.other,false,1,[.nilFunc]⟩),
 (151,⟨true,.other,false,1,[.nilFunc]⟩),
 (153,⟨true,.other,false,1,[.nilFunc]⟩),
 (154,⟨true,.other,false,1,[.nilFunc]⟩),
 (155,⟨true,.other,false,1,[.nilFunc]⟩),
 (156,⟨true,.other,false,1,[.nilFunc]⟩),
 (157,⟨true,.other,false,1,[.nilFunc]⟩),
 (159,⟨true,.other,false,1,[.nilFunc]⟩),
 (160,⟨true,.other,false,1,[.nilFunc]⟩),
 (162,⟨true,.other,false,1,[.nilFunc]⟩),
 (163,⟨true,(.struct [(0,1,false),(1,1,false),(2,1,false),(3,1,false),(4,1,false)]),true,5,[.int .i64 0,.int .i64 0,.string ⟨#[]⟩,.string ⟨#[]⟩,.int .i64 0]⟩),
 (164,⟨true,(.struct [(0,1,false),(1,1,false),(2,1,false),(3,1,false),(4,1,false)]),true,5,[.int .i64 0,.int .i64 0,.string ⟨#[]⟩,.string ⟨#[]⟩,.int .i64 0]⟩),
 (165,⟨true,.other,false,1,[.nilFunc]⟩),
 (166,⟨true,.other,false,1,[.pointer none]⟩),
 (167,⟨true,.other,false,1,[.map none]⟩),
 (168,⟨true,.other,false,1,[.map none]⟩),
 (169,⟨true,(.struct [(0,4,true),(4,1,false),(5,1,false),(6,1,false),(7,1,false)]),true,8,[.int .i64 0,.slice none 0 0,.slice none 0 0,.slice none 0 0,.map none,.map none,.int .i64 0,.int .i64 0]⟩),
 (170,⟨true,(.struct [(0,4,true),(4,1,false),(5,1,false),(6,1,false),(7,1,false)]),true,8,[.int .i64 0,.slice none 0 0,.slice none 0 0,.slice none 0 0,.map none,.map none,.int .i64 0,.int .i64 0]⟩),
 (171,⟨true,.other,false,1,[.nilFunc]⟩),
 (172,⟨true,.other,false,1,[.nilFunc]⟩),
 (173,⟨true,.other,false,1,[.nilFunc]⟩),
 (174,⟨true,.other,false,1,[.pointer none]⟩),
 (175,⟨true,(.struct [(0,1,false),(1,1,false),(2,1,false),(3,1,false)]),true,4,[.slice none 0 0,.slice none 0 0,.slice none 0 0,.slice none 0 0]⟩),
 (176,⟨true,(.struct [(0,1,false),(1,1,false),(2,1,false),(3,1,false)]),true,4,[.slice none 0 0,.slice none 0 0,.slice none 0 0,.slice none 0 0]⟩),
 (177,⟨true,.other,false,1,[.nilFunc]⟩),
 (178,⟨true,.other,false,1,[.nilFunc]⟩),
 (179,⟨true,(.slice 279 3 24 true [.int .i64 0,.int .i64 0,.int .i64 0]),false,1,[.slice none 0 0]⟩),
 (180,⟨true,(.struct [(0,1,false),(1,1,false),(2,1,false),(3,1,false),(4,1,false),(5,1,false),(6,1,false)]),true,7,[.int .i64 0,.int .i64 0,.int .i64 0,.slice none 0 0,.slice none 0 0,.bool false,.int .i64 0]⟩),
 (181,⟨true,(.struct [(0,1,false),(1,1,false),(2,1,false),(3,1,false),(4,1,false),(5,1,false),(6,1,false)]),true,7,[.int .i64 0,.int .i64 0,.int .i64 0,.slice none 0 0,.slice none 0 0,.bool false,.int .i64 0]⟩),
 (182,⟨true,(.slice 28 1 24 false [.slice none 0 0]),false,1,[.slice none 0 0]⟩),
 (183,⟨true,(.slice 251 1 24 false [.slice none 0 0]),false,1,[.slice none 0 0]⟩),
 (184,⟨true,(.struct [(0,1,false),(1,1,false),(2,1,false),(3,1,false)]),true,4,[.slice none 0 0,.slice none 0 0,.slice none 0 0,.slice none 0 0]⟩),
 (185,⟨true,(.struct [(0,1,false),(1,1,false),(2,1,false),(3,1,false)]),true,4,[.slice none 0 0,.slice none 0 0,.slice none 0 0,.slice none 0 0]⟩),
 (187,⟨true,.other,false,1,[.nilFunc]⟩),
 (189,⟨true,.other,false,1,[.nilFunc]⟩),
 (190,⟨true,.other,false,1,[.nilFunc]⟩),
 (191,⟨true,.other,false,1,[.pointer none]⟩),
 (192,⟨true,.other,false,1,[.pointer none]⟩),
 (193,⟨true,.other,false,1,[.nilFunc]⟩),
 (194,⟨true,(.slice 202 3 24 true [.int .i64 0,.int .i64 0,.int .i64 0]),false,1,[.slice none 0 0]⟩),
 (195,⟨true,(.struct [(0,6,true),(6,1,false),(7,1,false)]),true,8,[.slice none 0 0,.slice none 0 0,.slice none 0 0,.slice none 0 0,.slice none 0 0,.slice none 0 0,.pointer none,.slice none 0 0]⟩),
 (196,⟨true,(.struct [(0,6,true),(6,1,false),(7,1,false)]),true,8,[.slice none 0 0,.slice none 0 0,.slice none 0 0,.slice none 0 0,.slice none 0 0,.slice none 0 0,.pointer none,.slice none 0 0]⟩),
 (197,⟨true,.other,false,1,[.nilFunc]⟩),
 (198,⟨true,.other,false,1,[.nilFunc]⟩),
 (200,⟨true,.other,false,1,[.nilFunc]⟩),
 (201,⟨true,(.struct [(0,1,false),(1,1,false),(2,1,false)]),true,3,[.int .i64 0,.int .i64 0,.int .i64 0]⟩),
 (202,⟨true,(.struct [(0,1,false),(1,1,false),(2,1,false)]),true,3,[.int .i64 0,.int .i64 0,.int .i64 0]⟩),
 (204,⟨true,.other,false,1,[.nilFunc]⟩),
 (205,⟨true,.other,false,1,[.nilFunc]⟩),
 (206,⟨true,.other,false,1,[.nilFunc]⟩),
 (207,⟨true,(.slice 271 1 24 false [.slice none 0 0]),false,1,[.slice none 0 0]⟩),
 (208,⟨true,.other,false,1,[.nilFunc]⟩),
 (209,⟨true,.other,false,1,[.nilFunc]⟩),
 (210,⟨true,.other,false,1,[.nilFunc]⟩),
 (212,⟨true,.other,false,1,[.nilFunc]⟩),
 (213,⟨true,.other,false,1,[.nilFunc]⟩),
 (215,⟨true,.other,false,1,[.nilFunc]⟩),
 (216,⟨true,.other,false,1,[.nilFunc]⟩),
 (217,⟨true,.other,false,1,[.nilFunc]⟩),
 (218,⟨true,.other,false,1,[.nilFunc]⟩),
 (219,⟨true,(.slice 21 1 4 false [.int .i32 0]),false,1,[.slice none 0 0]⟩),
 (220,⟨true,.other,false,1,[.pointer none]⟩),
 (221,⟨true,(.struct [(0,1,false),(1,1,false),(2,1,false),(3,1,false),(4,1,false)]),true,5,[.slice none 0 0,.int .i64 0,.map none,.int .i64 0,.int .i64 0]⟩),
 (222,⟨true,(.struct [(0,1,false),(1,1,false),(2,1,false),(3,1,false),(4,1,false)]),true,5,[.slice none 0 0,.int .i64 0,.map none,.int .i64 0,.int .i64 0]⟩),
 (223,⟨true,(.slice 226 4 40 true [.string ⟨#[]⟩,.string ⟨#[]⟩,.bool false,.bool false]),false,1,[.slice none 0 0]⟩),
 (224,⟨true,.other,false,1,[.nilFunc]⟩),
 (225,⟨true,(.struct [(0,1,false),(1,1,false),(2,1,false),(3,1,false)]),true,4,[.string ⟨#[]⟩,.string ⟨#[]⟩,.bool false,.bool false]⟩),
 (226,⟨true,(.struct [(0,1,false),(1,1,false),(2,1,false),(3,1,false)]),true,4,[.string ⟨#[]⟩,.string ⟨#[]⟩,.bool false,.bool false]⟩),
 (227,⟨true,.other,false,1,[.nilFunc]⟩),
 (228,⟨true,.other,false,1,[.nilFunc]⟩),
 (229,⟨true,.other,false,1,[.pointer none]⟩),
 (230,⟨true,(.struct [(0,1,false),(1,1,false),(2,1,false),(3,1,false),(4,1,false)]),true,5,[.slice none 0 0,.int .i64 0,.int .i64 0,.int .i64 0,.int .i64 0]⟩),
 (231,⟨true,(.struct [(0,1,false),(1,1,false),(2,1,false),(3,1,false),(4,1,false)]),true,5,[.slice none 0 0,.int .i64 0,.int .i64 0,.int .i64 0,.int .i64 0]⟩),
 (232,⟨true,.other,false,1,[.nilFunc]⟩),
 (233,⟨true,.other,false,1,[.nilFunc]⟩),
 (234,⟨true,.other,false,1,[.nilFunc]⟩),
 (235,⟨true,.other,false,1,[.nilFunc]⟩),
 (236,⟨true,.other,false,1,[.nilFunc]⟩),
 (237,⟨true,.other,false,1,[.nilFunc]⟩),
 (239,⟨true,.other,false,1,[.nilFunc]⟩),
 (240,⟨true,.other,false,1,[.nilFunc]⟩),
 (241,⟨true,.other,false,1,[.nilFunc]⟩),
 (242,⟨true,.other,false,1,[.nilFunc]⟩),
 (243,⟨true,.other,false,1,[.nilFunc]⟩),
 (244,⟨true,.other,false,1,[.nilFunc]⟩),
 (245,⟨true,.other,false,1,[.nilFunc]⟩),
 (246,⟨true,.other,false,1,[.pointer none]⟩),
 (247,⟨true,.other,false,1,[.nilFunc]⟩),
 (248,⟨true,(.struct [(0,1,false),(1,1,false)]),true,2,[.slice none 0 0,.int .i64 0]⟩),
 (249,⟨true,(.struct [(0,1,false),(1,1,false)]),true,2,[.slice none 0 0,.int .i64 0]⟩),
 (250,⟨true,.other,false,1,[.nilFunc]⟩),
 (251,⟨true,(.slice 253 2 16 true [.int .i64 0,.int .i64 0]),false,1,[.slice none 0 0]⟩),
 (252,⟨true,(.struct [(0,1,false),(1,1,false)]),true,2,[.int .i64 0,.int .i64 0]⟩),
 (253,⟨true,(.struct [(0,1,false),(1,1,false)]),true,2,[.int .i64 0,.int .i64 0]⟩),
 (254,⟨true,.other,false,1,[.nilFunc]⟩),
 (255,⟨true,(.struct [(0,1,false),(1,1,false)]),true,2,[.slice none 0 0,.slice none 0 0]⟩),
 (256,⟨true,(.struct [(0,1,false),(1,1,false)]),true,2,[.slice none 0 0,.slice none 0 0]⟩),
 (257,⟨true,.other,false,1,[.nilFunc]⟩),
 (258,⟨true,(.slice 261 1 16 false [.nilIface]),false,1,[.slice none 0 0]⟩),
 (259,⟨true,.other,false,1,[.nilFunc]⟩),
 (260,⟨true,.other,false,1,[.nilIface]⟩),
 (261,⟨true,.other,false,1,[.nilIface]⟩),
 (262,⟨true,.other,false,1,[.nilFunc]⟩),
 (263,⟨true,(.struct [(0,4,true),(4,4,true),(8,1,false),(9,1,false)]),true,10,[.int .i64 0,.slice none 0 0,.slice none 0 0,.slice none 0 0,.slice none 0 0,.slice none 0 0,.slice none 0 0,.slice none 0 0,.int .i64 0,.int .i64 0]⟩),
 (264,⟨true,(.struct [(0,4,true),(4,4,true),(8,1,false),(9,1,false)]),true,10,[.int .i64 0,.slice none 0 0,.slice none 0 0,.slice none 0 0,.slice none 0 0,.slice none 0 0,.slice none 0 0,.slice none 0 0,.int .i64 0,.int .i64 0]⟩),
 (266,⟨true,.other,false,1,[.nilFunc]⟩),
 (267,⟨true,.other,false,1,[.nilFunc]⟩),
 (268,⟨true,.other,false,1,[.nilFunc]⟩),
 (269,⟨true,.other,false,1,[.nilFunc]⟩),
 (270,⟨true,.other,false,1,[.nilFunc]⟩),
 (271,⟨true,(.slice 4 1 1 false [.bool false]),false,1,[.slice none 0 0]⟩),
 (272,⟨true,.other,false,1,[.nilFunc]⟩),
 (273,⟨true,.other,false,1,[.nilFunc]⟩),
 (274,⟨true,.other,false,1,[.nilFunc]⟩),
 (275,⟨true,.other,false,1,[.nilFunc]⟩),
 (276,⟨true,.other,false,1,[.nilFunc]⟩),
 (277,⟨true,.other,false,1,[.nilFunc]⟩),
 (278,⟨true,(.struct [(0,1,false),(1,1,false),(2,1,false)]),true,3,[.int .i64 0,.int .i64 0,.int .i64 0]⟩),
 (279,⟨true,(.struct [(0,1,false),(1,1,false),(2,1,false)]),true,3,[.int .i64 0,.int .i64 0,.int .i64 0]⟩),
 (280,⟨true,.other,false,1,[.nilFunc]⟩),
 (281,⟨true,.other,false,1,[.nilFunc]⟩),
 (282,⟨true,.other,false,1,[.nilFunc]⟩),
 (283,⟨true,.other,false,1,[.nilFunc]⟩),
 (284,⟨true,.other,false,1,[.nilFunc]⟩),
 (285,⟨true,.other,false,1,[.nilFunc]⟩),
 (286,⟨true,.other,false,1,[.nilFunc]⟩),
 (287,⟨true,.other,false,1,[.nilFunc]⟩),
 (288,⟨true,(.struct [(0,1,false),(1,1,false),(2,1,false),(3,1,false),(4,1,false),(5,1,false),(6,1,false),(7,1,false),(8,1,false)]),true,9,[.int .i64 0,.string ⟨#[]⟩,.string ⟨#[]⟩,.slice none 0 0,.slice none 0 0,.bool false,.int .i64 0,.int .i64 0,.int .i64 0]⟩),
 (289,⟨true,(.struct [(0,1,false),(1,1,false),(2,1,false),(3,1,false),(4,1,false),(5,1,false),(6,1,false),(7,1,false),(8,1,false)]),true,9,[.int .i64 0,.string ⟨#[]⟩,.string ⟨#[]⟩,.slice none 0 0,.slice none 0 0,.bool false,.int .i64 0,.int .i64 0,.int .i64 0]⟩),
 (290,⟨true,.other,false,1,[.nilFunc]⟩),
 (291,⟨true,.other,false,1,[.nilFunc]⟩),
 (292,⟨true,.other,false,1,[.nilFunc]⟩),
 (293,⟨true,.other,false,1,[.nilFunc]⟩),
 (294,⟨true,.other,false,1,[.nilFunc]⟩),
 (295,⟨true,.other,false,1,[.nilFunc]⟩),
 (296,⟨true,.other,false,1,[.nilFunc]⟩),
 (297,⟨true,(.int .i64),false,1,[.int .i64 0]⟩),
 (298,⟨true,(.struct [(0,1,false),(1,1,false)]),true,2,[.int .i64 0,.int .i64 0]⟩),
 (299,⟨true,(.struct [(0,1,false),(1,1,false)]),true,2,[.int .i64 0,.int .i64 0]⟩),
 (300,⟨true,.other,false,1,[.nilFunc]⟩),
 (301,⟨true,.other,false,1,[.nilFunc]⟩),
 (302,⟨true,.other,false,1,[.nilFunc]⟩),
 (303,⟨true,.other,false,1,[.nilFunc]⟩),
 (304,⟨true,(.struct [(0,1,false)]),true,1,[.nilFunc]⟩),
 (305,⟨true,(.struct [(0,1,false)]),true,1,[.nilFunc]⟩),
 (307,⟨true,.other,false,1,[.nilFunc]⟩),
 (308,⟨true,.other,false,1,[.nilFunc]⟩),
 (309,⟨true,(.struct [(0,3,true),(3,1,false),(4,1,false)]),true,5,[.slice none 0 0,.slice none 0 0,.slice none 0 0,.slice none 0 0,.int .i64 0]⟩),
 (310,⟨true,(.struct [(0,3,true),(3,1,false),(4,1,false)]),true,5,[.slice none 0 0,.slice none 0 0,.slice none 0 0,.slice none 0 0,.int .i64 0]⟩),
 (311,⟨true,.other,false,1,[.nilFunc]⟩),
 (312,⟨true,.other,false,1,[.nilFunc]⟩),
 (313,⟨true,.other,false,1,[.nilFunc]⟩),
 (314,⟨true,.other,false,1,[.nilFunc]⟩),
 (315,⟨true,.other,false,1,[.nilFunc]⟩),
 (316,⟨true,.other,false,1,[.nilFunc]⟩),
 (317,⟨true,.other,false,1,[.pointer none]⟩),
 (319,⟨true,.other,false,1,[.nilFunc]⟩),
 (320,⟨true,(.struct [(0,3,true),(3,1,false),(4,1,false),(5,1,false),(6,1,false)]),true,7,[.slice none 0 0,.slice none 0 0,.slice none 0 0,.slice none 0 0,.int .i64 0,.slice none 0 0,.slice none 0 0]⟩),
 (321,⟨true,(.struct [(0,3,true),(3,1,false),(4,1,false),(5,1,false),(6,1,false)]),true,7,[.slice none 0 0,.slice none 0 0,.slice none 0 0,.slice none 0 0,.int .i64 0,.slice none 0 0,.slice none 0 0]⟩),
 (322,⟨true,.other,false,1,[.nilFunc]⟩),
 (323,⟨true,.other,false,1,[.pointer none]⟩),
 (324,⟨true,(.struct [(0,1,false),(1,1,false),(2,1,false),(3,1,false)]),true,4,[.slice none 0 0,.nilFunc,.slice none 0 0,.bool false]⟩),
 (325,⟨true,(.struct [(0,1,false),(1,1,false),(2,1,false),(3,1,false)]),true,4,[.slice none 0 0,.nilFunc,.slice none 0 0,.bool false]⟩),
 (326,⟨true,.other,false,1,[.nilFunc]⟩),
 (327,⟨true,.other,false,1,[.nilFunc]⟩),
 (329,⟨true,.other,false,1,[.nilFunc]⟩),
 (330,⟨true,.other,false,1,[.map none]⟩),
 (331,⟨true,.other,false,1,[.nilFunc]⟩),
 (332,⟨true,.other,false,1,[.pointer none]⟩),
 (334,⟨true,.other,false,1,[.nilFunc]⟩),
 (335,⟨true,.other,false,1,[.nilFunc]⟩),
 (336,⟨true,.other,false,1,[.nilFunc]⟩),
 (337,⟨true,.other,false,1,[.nilFunc]⟩),
 (338,⟨true,.other,false,1,[.nilFunc]⟩),
 (339,⟨true,(.slice 1 1 8 false [.nilFunc]),false,1,[.slice none 0 0]⟩),
 (340,⟨true,.other,false,1,[.nilFunc]⟩),
 (341,⟨true,.other,false,1,[.nilFunc]⟩),
 (342,⟨true,(.int .u64),false,1,[.int .u64 0]⟩),
 (343,⟨true,.other,false,1,[.nilFunc]⟩),
 (344,⟨true,.other,false,1,[.nilFunc]⟩),
 (345,⟨true,.other,false,1,[.nilFunc]⟩),
 (346,⟨true,.other,false,1,[.nilFunc]⟩),
 (347,⟨true,.other,false,1,[.nilFunc]⟩),
 (348,⟨true,.other,false,1,[.nilFunc]⟩),
 (349,⟨true,.other,false,1,[.nilFunc]⟩),
 (350,⟨true,.other,false,1,[.nilFunc]⟩),
 (351,⟨true,.other,false,1,[.map none]⟩),
 (352,⟨true,.other,false,1,[.map none]⟩),
 (353,⟨true,.other,false,1,[.nilFunc]⟩),
 (354,⟨true,.other,false,1,[.nilFunc]⟩),
 (355,⟨true,.other,false,1,[.nilFunc]⟩),
 (356,⟨true,.other,false,1,[.nilFunc]⟩),
 (357,⟨true,.other,false,1,[.nilFunc]⟩),
 (358,⟨true,.other,false,1,[.nilFunc]⟩),
 (359,⟨true,(.struct [(0,1,false),(1,1,false)]),true,2,[.int .i64 0,.nilFunc]⟩),
 (360,⟨true,(.struct [(0,1,false),(1,1,false)]),true,2,[.int .i64 0,.nilFunc]⟩),
 (362,⟨true,.other,false,1,[.nilFunc]⟩),
 (364,⟨true,.other,false,1,[.nilFunc]⟩),
 (365,⟨true,(.slice 366 1 8 false [.nilFunc]),false,1,[.slice none 0 0]⟩),
 (366,⟨true,.other,false,1,[.nilFunc]⟩),
 (367,⟨true,(.array 15 1 false),true,15,[.string ⟨#[]⟩,.string ⟨#[]⟩,.string ⟨#[]⟩,.string ⟨#[]⟩,.string ⟨#[]⟩,.string ⟨#[]⟩,.string ⟨#[]⟩,.string ⟨#[]⟩,.string ⟨#[]⟩,.string ⟨#[]⟩,.string ⟨#[]⟩,.string ⟨#[]⟩,.string ⟨#[]⟩,.string ⟨#[]⟩,.string ⟨#[]⟩]⟩),
 (368,⟨true,(.slice 111 1 24 false [.slice none 0 0]),false,1,[.slice none 0 0]⟩),
 (369,⟨true,.other,false,1,[.nilFunc]⟩),
 (370,⟨true,.other,false,1,[.nilFunc]⟩),
 (371,⟨true,.other,false,1,[.nilFunc]⟩),
 (372,⟨true,.other,false,1,[.nilFunc]⟩),
 (373,⟨true,(.struct [(0,1,false),(1,1,false),(2,1,false),(3,1,false),(4,1,false),(5,1,false)]),true,6,[.bool false,.bool false,.bool false,.bool false,.bool false,.bool false]⟩),
 (374,⟨true,(.struct [(0,1,false),(1,1,false),(2,1,false),(3,1,false),(4,1,false),(5,1,false)]),true,6,[.bool false,.bool false,.bool false,.bool false,.bool false,.bool false]⟩),
 (376,⟨true,.other,false,1,[.nilFunc]⟩),
 (377,⟨true,.other,false,1,[.nilFunc]⟩),
 (378,⟨true,.other,false,1,[.nilFunc]⟩),
 (379,⟨true,.other,false,1,[.nilFunc]⟩),
 (380,⟨true,(.array 8 1 false),true,8,[.int .u8 0,.int .u8 0,.int .u8 0,.int .u8 0,.int .u8 0,.int .u8 0,.int .u8 0,.int .u8 0]⟩),
 (381,⟨true,(.int .u64),false,1,[.int .u64 0]⟩),
 (382,⟨true,.other,false,1,[.nilFunc]⟩),
 (383,⟨true,.other,false,1,[.nilFunc]⟩),
 (384,⟨true,.other,false,1,[.pointer none]⟩),
 (385,⟨true,(.slice 404 2 16 true [.int .i64 0,.int .i64 0]),false,1,[.slice none 0 0]⟩),
 (386,⟨true,(.struct [(0,3,true),(3,1,false),(4,1,false),(5,1,false),(6,1,false),(7,1,false),(8,1,false),(9,1,false)]),true,10,[.slice none 0 0,.slice none 0 0,.slice none 0 0,.slice none 0 0,.slice none 0 0,.slice none 0 0,.slice none 0 0,.slice none 0 0,.int .i64 0,.slice none 0 0]⟩),
 (387,⟨true,(.struct [(0,3,true),(3,1,false),(4,1,false),(5,1,false),(6,1,false),(7,1,false),(8,1,false),(9,1,false)]),true,10,[.slice none 0 0,.slice none 0 0,.slice none 0 0,.slice none 0 0,.slice none 0 0,.slice none 0 0,.slice none 0 0,.slice none 0 0,.int .i64 0,.slice none 0 0]⟩),
 (388,⟨true,.other,false,1,[.nilFunc]⟩),
 (389,⟨true,.other,false,1,[.nilFunc]⟩),
 (390,⟨true,.other,false,1,[.nilFunc]⟩),
 (391,⟨true,.other,false,1,[.nilFunc]⟩),
 (392,⟨true,.other,false,1,[.nilFunc]⟩),
 (393,⟨true,.other,false,1,[.nilFunc]⟩),
 (394,⟨true,.other,false,1,[.nilFunc]⟩),
 (395,⟨true,(.array 15 2 true),true,30,[.int .i64 0,.nilFunc,.int .i64 0,.nilFunc,.int .i64 0,.nilFunc,.int .i64 0,.nilFunc,.int .i64 0,.nilFunc,.int .i64 0,.nilFunc,.int .i64 0,.nilFunc,.int .i64 0,.nilFunc,.int .i64 0,.nilFunc,.int .i64 0,.nilFunc,.int .i64 0,.nilFunc,.int .i64 0,.nilFunc,.int .i64 0,.nilFunc,.int .i64 0,.nilFunc,.int .i64 0,.nilFunc]⟩),
 (396,⟨true,.other,false,1,[.nilFunc]⟩),
 (397,⟨true,.other,false,1,[.nilFunc]⟩),
 (398,⟨true,.other,false,1,[.map none]⟩),
 (400,⟨true,.other,false,1,[.nilFunc]⟩),
 (401,⟨true,.other,false,1,[.nilFunc]⟩),
 (402,⟨true,.other,false,1,[.pointer none]⟩),
 (403,⟨true,(.struct [(0,1,false),(1,1,false)]),true,2,[.int .i64 0,.int .i64 0]⟩),
 (404,⟨true,(.struct [(0,1,false),(1,1,false)]),true,2,[.int .i64 0,.int .i64 0]⟩),
 (406,⟨true,(.struct [(0,1,false),(1,1,false)]),true,2,[.int .i64 0,.int .i64 0]⟩),
 (407,⟨true,(.struct [(0,1,false),(1,1,false)]),true,2,[.int .i64 0,.int .i64 0]⟩),
 (408,⟨true,.other,false,1,[.map none]⟩),
 (409,⟨true,.other,false,1,[.nilFunc]⟩),
 (411,⟨true,.other,false,1,[.nilFunc]⟩),
 (412,⟨true,.other,false,1,[.nilFunc]⟩),
 (414,⟨true,.other,false,1,[.nilFunc]⟩),
 (415,⟨true,(.struct [(0,1,false),(1,1,false),(2,1,false),(3,1,false)]),true,4,[.pointer none,.pointer none,.pointer none,.string ⟨#[]⟩]⟩),
 (416,⟨true,(.struct [(0,1,false),(1,1,false),(2,1,false),(3,1,false)]),true,4,[.pointer none,.pointer none,.pointer none,.string ⟨#[]⟩]⟩),
 (417,⟨true,(.array 0 1 false),true,0,[]⟩),
 (418,⟨true,(.struct [(0,0,true)]),true,0,[]⟩),
 (419,⟨true,(.struct [(0,0,true)]),true,0,[]⟩),
 (420,⟨true,(.int .u32),false,1,[.int .u32 0]⟩),
 (421,⟨true,(.int .u8),false,1,[.int .u8 0]⟩),
 (422,⟨true,(.int .u8),false,1,[.int .u8 0]⟩),
 (423,⟨true,.other,false,1,[.nilFunc]⟩),
 (424,⟨true,.other,false,1,[.pointer none]⟩),
 (425,⟨true,(.int .i32),false,1,[.int .i32 0]⟩),
 (426,⟨true,(.int .i32),false,1,[.int .i32 0]⟩),
 (427,⟨true,(.struct [(0,1,false),(1,1,false),(2,1,false),(3,1,false),(4,1,false),(5,1,false),(6,1,false),(7,1,false),(8,1,false),(9,1,false),(10,1,false)]),true,11,[.int .u64 0,.int .u64 0,.int .u32 0,.int .u8 0,.int .u8 0,.int .u8 0,.int .u8 0,.nilFunc,.pointer none,.int .i32 0,.int .i32 0]⟩),
 (428,⟨true,(.struct [(0,1,false),(1,1,false),(2,1,false),(3,1,false),(4,1,false),(5,1,false),(6,1,false),(7,1,false),(8,1,false),(9,1,false),(10,1,false)]),true,11,[.int .u64 0,.int .u64 0,.int .u32 0,.int .u8 0,.int .u8 0,.int .u8 0,.int .u8 0,.nilFunc,.pointer none,.int .i32 0,.int .i32 0]⟩),
 (429,⟨true,.other,false,1,[.nilFunc]⟩),
 (430,⟨true,.other,false,1,[.nilFunc]⟩),
 (431,⟨true,.other,false,1,[.nilFunc]⟩),
 (432,⟨true,.other,false,1,[.nilFunc]⟩),
 (433,⟨true,.other,false,1,[.nilFunc]⟩),
 (434,⟨true,.other,false,1,[.nilFunc]⟩),
 (435,⟨true,(.struct [(0,1,false),(1,1,false)]),true,2,[.string ⟨#[]⟩,.int .u8 0]⟩),
 (436,⟨true,(.struct [(0,1,false),(1,1,false)]),true,2,[.string ⟨#[]⟩,.int .u8 0]⟩),
 (437,⟨true,.other,false,1,[.nilFunc]⟩),
 (438,⟨true,.other,false,1,[.pointer none]⟩),
 (440,⟨true,.other,false,1,[.nilFunc]⟩),
 (441,⟨true,(.struct [(0,4,true),(4,4,true),(8,1,false),(9,1,false),(10,1,false),(11,7,true)]),true,18,[.int .i64 0,.slice none 0 0,.slice none 0 0,.slice none 0 0,.slice none 0 0,.slice none 0 0,.slice none 0 0,.slice none 0 0,.int .i64 0,.int .i64 0,.int .i64 0,.int .i64 0,.int .i64 0,.int .i64 0,.slice none 0 0,.slice none 0 0,.bool false,.int .i64 0]⟩),
 (442,⟨true,(.struct [(0,4,true),(4,4,true),(8,1,false),(9,1,false),(10,1,false),(11,7,true)]),true,18,[.int .i64 0,.slice none 0 0,.slice none 0 0,.slice none 0 0,.slice none 0 0,.slice none 0 0,.slice none 0 0,.slice none 0 0,.int .i64 0,.int .i64 0,.int .i64 0,.int .i64 0,.int .i64 0,.int .i64 0,.slice none 0 0,.slice none 0 0,.bool false,.int .i64 0]⟩),
 (443,⟨true,.other,false,1,[.nilFunc]⟩),
 (444,⟨true,.other,false,1,[.map none]⟩),
 (446,⟨true,.other,false,1,[.nilFunc]⟩),
 (447,⟨true,.other,false,1,[.nilFunc]⟩),
 (448,⟨true,.other,false,1,[.nilFunc]⟩),
 (449,⟨true,.other,false,1,[.nilFunc]⟩),
 (450,⟨true,.other,false,1,[.nilFunc]⟩),
 (451,⟨true,.other,false,1,[.nilFunc]⟩),
 (452,⟨true,.other,false,1,[.nilFunc]⟩),
 (454,⟨true,.other,false,1,[.nilFunc]⟩),
 (455,⟨true,.other,false,1,[.nilFunc]⟩),
 (456,⟨true,.other,false,1,[.nilFunc]⟩),
 (457,⟨true,.other,false,1,[.pointer none]⟩),
 (458,⟨true,.other,false,1,[.pointer none]⟩),
 (459,⟨true,.other,false,1,[.nilFunc]⟩),
 (460,⟨true,(.int .u16),false,1,[.int .u16 0]⟩),
 (461,⟨true,(.struct [(0,1,false),(1,1,false),(2,1,false),(3,1,false),(4,1,false)]),true,5,[.int .i32 0,.int .u16 0,.int .u16 0,.int .u32 0,.int .u32 0]⟩),
 (462,⟨true,(.struct [(0,1,false),(1,1,false),(2,1,false),(3,1,false),(4,1,false)]),true,5,[.int .i32 0,.int .u16 0,.int .u16 0,.int .u32 0,.int .u32 0]⟩),
 (463,⟨true,(.slice 466 4 16 true [.int .i32 0,.int .i32 0,.int .i32 0,.int .i32 0]),false,1,[.slice none 0 0]⟩),
 (464,⟨true,(.int .i32),false,1,[.int .i32 0]⟩),
 (465,⟨true,(.struct [(0,1,false),(1,1,false),(2,1,false),(3,1,false)]),true,4,[.int .i32 0,.int .i32 0,.int .i32 0,.int .i32 0]⟩),
 (466,⟨true,(.struct [(0,1,false),(1,1,false),(2,1,false),(3,1,false)]),true,4,[.int .i32 0,.int .i32 0,.int .i32 0,.int .i32 0]⟩)]
theorem Zns:tys.map (fun x=>ZeY Tryz.prog x.1)=tys.map (·.2):=by kernel_rfl
def T:Tab Tryz.prog:=⟨Zc4 tys,ZgD tys Zns⟩
@[go_sem] theorem T1 : T.get 1 = ⟨true, .other, false, 1, [.nilFunc]⟩ := rfl
@[go_sem] theorem T2 : T.get 2 = ⟨true, (.int .i64), false, 1, [.int .i64 0]⟩ := rfl
@[go_sem] theorem T3 : T.get 3 = ⟨true, (.int .i64), false, 1, [.int .i64 0]⟩ := rfl
@[go_sem] theorem T4 : T.get 4 = ⟨true, .bool, false, 1, [.bool false]⟩ := rfl
@[go_sem] theorem T5 : T.get 5 = ⟨true, (.int .u8), false, 1, [.int .u8 0]⟩ := rfl
@[go_sem] theorem T6 : T.get 6 = ⟨true, (.int .u8), false, 1, [.int .u8 0]⟩ := rfl
@[go_sem] theorem T7 : T.get 7 = ⟨true, (.struct [(0, 1, false), (1, 1, false), (2, 1, false), (3, 1, false)]), true, 4, [.int .i64 0, .int .i64 0, .bool false, .int .u8 0]⟩ := rfl
@[go_sem] theorem T8 : T.get 8 = ⟨true, (.struct [(0, 1, false), (1, 1, false), (2, 1, false), (3, 1, false)]), true, 4, [.int .i64 0, .int .i64 0, .bool false, .int .u8 0]⟩ := rfl
@[go_sem] theorem T9 : T.get 9 = ⟨true, .str, false, 1, [.string ⟨#[]⟩]⟩ := rfl
@[go_sem] theorem T10 : T.get 10 = ⟨true, .str, false, 1, [.string ⟨#[]⟩]⟩ := rfl
@[go_sem] theorem T11 : T.get 11 = ⟨true, .str, false, 1, [.string ⟨#[]⟩]⟩ := rfl
@[go_sem] theorem T12 : T.get 12 = ⟨true, (.int .u64), false, 1, [.int .u64 0]⟩ := rfl
@[go_sem] theorem T13 : T.get 13 = ⟨true, (.struct [(0, 1, false), (1, 1, false)]), true, 2, [.string ⟨#[]⟩, .int .u64 0]⟩ := rfl
@[go_sem] theorem T14 : T.get 14 = ⟨true, (.struct [(0, 1, false), (1, 1, false)]), true, 2, [.string ⟨#[]⟩, .int .u64 0]⟩ := rfl
@[go_sem] theorem T15 : T.get 15 = ⟨true, .other, false, 1, [.pointer none]⟩ := rfl
@[go_sem] theorem T16 : T.get 16 = ⟨true, .other, false, 1, [.pointer none]⟩ := rfl
@[go_sem] theorem T17 : T.get 17 = ⟨true, .other, false, 1, [.pointer none]⟩ := rfl
@[go_sem] theorem T18 : T.get 18 = ⟨true, (.struct [(0, 1, false)]), true, 1, [.pointer none]⟩ := rfl
@[go_sem] theorem T19 : T.get 19 = ⟨true, (.struct [(0, 1, false)]), true, 1, [.pointer none]⟩ := rfl
@[go_sem] theorem T20 : T.get 20 = ⟨true, .other, false, 1, [.nilIface]⟩ := rfl
@[go_sem] theorem T21 : T.get 21 = ⟨true, (.int .i32), false, 1, [.int .i32 0]⟩ := rfl
@[go_sem] theorem T22 : T.get 22 = ⟨true, .other, false, 1, [.nilFunc]⟩ := rfl
@[go_sem] theorem T23 : T.get 23 = ⟨true, .other, false, 1, [.nilFunc]⟩ := rfl
@[go_sem] theorem T24 : T.get 24 = ⟨true, .other, false, 1, [.nilFunc]⟩ := rfl
@[go_sem] theorem T25 : T.get 25 = ⟨true, (.slice 9 1 16 false [.string ⟨#[]⟩]), false, 1, [.slice none 0 0]⟩ := rfl
@[go_sem] theorem T26 : T.get 26 = ⟨true, .other, false, 1, [.nilFunc]⟩ := rfl
@[go_sem] theorem T27 : T.get 27 = ⟨true, .other, false, 1, [.nilFunc]⟩ := rfl
@[go_sem] theorem T28 : T.get 28 = ⟨true, (.slice 3 1 8 false [.int .i64 0]), false, 1, [.slice none 0 0]⟩ := rfl
@[go_sem] theorem T29 : T.get 29 = ⟨true, (.slice 75 3 32 true [.bool false, .bool false, .slice none 0 0]), false, 1, [.slice none 0 0]⟩ := rfl
@[go_sem] theorem T30 : T.get 30 = ⟨true, (.struct [(0, 1, false), (1, 1, false), (2, 1, false), (3, 1, false), (4, 1, false), (5, 1, false)]), true, 6, [.int .i64 0, .slice none 0 0, .slice none 0 0, .slice none 0 0, .int .i64 0, .int .i64 0]⟩ := rfl
@[go_sem] theorem T31 : T.get 31 = ⟨true, (.struct [(0, 1, false), (1, 1, false), (2, 1, false), (3, 1, false), (4, 1, false), (5, 1, false)]), true, 6, [.int .i64 0, .slice none 0 0, .slice none 0 0, .slice none 0 0, .int .i64 0, .int .i64 0]⟩ := rfl
@[go_sem] theorem T33 : T.get 33 = ⟨true, .other, false, 1, [.nilFunc]⟩ := rfl
@[go_sem] theorem T34 : T.get 34 = ⟨true, (.struct [(0, 1, false), (1, 1, false), (2, 1, false), (3, 1, false)]), true, 4, [.int .i64 0, .int .i64 0, .int .i64 0, .int .i64 0]⟩ := rfl
@[go_sem] theorem T35 : T.get 35 = ⟨true, (.struct [(0, 1, false), (1, 1, false), (2, 1, false), (3, 1, false)]), true, 4, [.int .i64 0, .int .i64 0, .int .i64 0, .int .i64 0]⟩ := rfl
@[go_sem] theorem T36 : T.get 36 = ⟨true, (.slice 118 1 24 false [.slice none 0 0]), false, 1, [.slice none 0 0]⟩ := rfl
@[go_sem] theorem T37 : T.get 37 = ⟨true, (.struct [(0, 1, false), (1, 1, false), (2, 1, false), (3, 1, false)]), true, 4, [.int .i64 0, .slice none 0 0, .slice none 0 0, .slice none 0 0]⟩ := rfl
@[go_sem] theorem T38 : T.get 38 = ⟨true, (.struct [(0, 1, false), (1, 1, false), (2, 1, false), (3, 1, false)]), true, 4, [.int .i64 0, .slice none 0 0, .slice none 0 0, .slice none 0 0]⟩ := rfl
@[go_sem] theorem T39 : T.get 39 = ⟨true, (.struct [(0, 4, true), (4, 4, true), (8, 6, true)]), true, 14, [.int .i64 0, .int .i64 0, .int .i64 0, .int .i64 0, .int .i64 0, .slice none 0 0, .slice none 0 0, .slice none 0 0, .int .i64 0, .slice none 0 0, .slice none 0 0, .slice none 0 0, .int .i64 0, .int .i64 0]⟩ := rfl
@[go_sem] theorem T40 : T.get 40 = ⟨true, (.struct [(0, 4, true), (4, 4, true), (8, 6, true)]), true, 14, [.int .i64 0, .int .i64 0, .int .i64 0, .int .i64 0, .int .i64 0, .slice none 0 0, .slice none 0 0, .slice none 0 0, .int .i64 0, .slice none 0 0, .slice none 0 0, .slice none 0 0, .int .i64 0, .int .i64 0]⟩ := rfl
@[go_sem] theorem T41 : T.get 41 = ⟨true, .other, false, 1, [.nilIface]⟩ := rfl
@[go_sem] theorem T42 : T.get 42 = ⟨true, .other, false, 1, [.nilIface]⟩ := rfl
@[go_sem] theorem T44 : T.get 44 = ⟨true, .other, false, 1, [.nilFunc]⟩ := rfl
@[go_sem] theorem T45 : T.get 45 = ⟨true, .other, false, 1, [.nilFunc]⟩ := rfl
@[go_sem] theorem T46 : T.get 46 = ⟨true, .other, false, 1, [.nilFunc]⟩ := rfl
@[go_sem] theorem T47 : T.get 47 = ⟨true, (.int .i64), false, 1, [.int .i64 0]⟩ := rfl
@[go_sem] theorem T48 : T.get 48 = ⟨true, .other, false, 1, [.nilFunc]⟩ := rfl
@[go_sem] theorem T49 : T.get 49 = ⟨true, .other, false, 1, [.nilFunc]⟩ := rfl
@[go_sem] theorem T50 : T.get 50 = ⟨true, (.int .i64), false, 1, [.int .i64 0]⟩ := rfl
@[go_sem] theorem T52 : T.get 52 = ⟨true, .other, false, 1, [.nilFunc]⟩ := rfl
@[go_sem] theorem T54 : T.get 54 = ⟨true, .other, false, 1, [.nilFunc]⟩ := rfl
@[go_sem] theorem T55 : T.get 55 = ⟨true, .other, false, 1, [.nilFunc]⟩ := rfl
@[go_sem] theorem T56 : T.get 56 = ⟨true, (.slice 105 3 32 true [.string ⟨#[]⟩, .int .i64 0, .int .i64 0]), false, 1, [.slice none 0 0]⟩ := rfl
@[go_sem] theorem T57 : T.get 57 = ⟨true, (.slice 109 4 72 true [.string ⟨#[]⟩, .slice none 0 0, .slice none 0 0, .int .i64 0]), false, 1, [.slice none 0 0]⟩ := rfl
@[go_sem] theorem T58 : T.get 58 = ⟨true, (.slice 113 3 40 true [.int .i64 0, .slice none 0 0, .int .i64 0]), false, 1, [.slice none 0 0]⟩ := rfl
@[go_sem] theorem T59 : T.get 59 = ⟨true, (.struct [(0, 1, false), (1, 1, false), (2, 1, false), (3, 1, false)]), true, 4, [.int .i64 0, .slice none 0 0, .slice none 0 0, .slice none 0 0]⟩ := rfl
@[go_sem] theorem T60 : T.get 60 = ⟨true, (.struct [(0, 1, false), (1, 1, false), (2, 1, false), (3, 1, false)]), true, 4, [.int .i64 0, .slice none 0 0, .slice none 0 0, .slice none 0 0]⟩ := rfl
@[go_sem] theorem T62 : T.get 62 = ⟨true, .other, false, 1, [.nilFunc]⟩ := rfl
@[go_sem] theorem T64 : T.get 64 = ⟨true, .other, false, 1, [.nilFunc]⟩ := rfl
@[go_sem] theorem T65 : T.get 65 = ⟨true, .other, false, 1, [.nilFunc]⟩ := rfl
@[go_sem] theorem T66 : T.get 66 = ⟨true, .other, false, 1, [.nilFunc]⟩ := rfl
@[go_sem] theorem T67 : T.get 67 = ⟨true, .other, false, 1, [.pointer none]⟩ := rfl
@[go_sem] theorem T68 : T.get 68 = ⟨true, (.struct [(0, 4, true), (4, 1, false), (5, 1, false)]), true, 6, [.int .i64 0, .slice none 0 0, .slice none 0 0, .slice none 0 0, .int .i64 0, .string ⟨#[]⟩]⟩ := rfl
@[go_sem] theorem T69 : T.get 69 = ⟨true, (.struct [(0, 4, true), (4, 1, false), (5, 1, false)]), true, 6, [.int .i64 0, .slice none 0 0, .slice none 0 0, .slice none 0 0, .int .i64 0, .string ⟨#[]⟩]⟩ := rfl
@[go_sem] theorem T70 : T.get 70 = ⟨true, .other, false, 1, [.nilFunc]⟩ := rfl
@[go_sem] theorem T71 : T.get 71 = ⟨true, .other, false, 1, [.nilFunc]⟩ := rfl
@[go_sem] theorem T72 : T.get 72 = ⟨true, (.slice 20 1 16 false [.nilIface]), false, 1, [.slice none 0 0]⟩ := rfl
@[go_sem] theorem T73 : T.get 73 = ⟨true, .other, false, 1, [.nilFunc]⟩ := rfl
@[go_sem] theorem T74 : T.get 74 = ⟨true, (.struct [(0, 1, false), (1, 1, false), (2, 1, false)]), true, 3, [.bool false, .bool false, .slice none 0 0]⟩ := rfl
@[go_sem] theorem T75 : T.get 75 = ⟨true, (.struct [(0, 1, false), (1, 1, false), (2, 1, false)]), true, 3, [.bool false, .bool false, .slice none 0 0]⟩ := rfl
@[go_sem] theorem T76 : T.get 76 = ⟨true, .other, false, 1, [.nilIface]⟩ := rfl
@[go_sem] theorem T77 : T.get 77 = ⟨true, .other, false, 1, [.nilIface]⟩ := rfl
@[go_sem] theorem T78 : T.get 78 = ⟨true, .other, false, 1, [.nilFunc]⟩ := rfl
@[go_sem] theorem T79 : T.get 79 = ⟨true, .other, false, 1, [.nilFunc]⟩ := rfl
@[go_sem] theorem T80 : T.get 80 = ⟨true, (.slice 5 1 1 false [.int .u8 0]), false, 1, [.slice none 0 0]⟩ := rfl
@[go_sem] theorem T81 : T.get 81 = ⟨true, .other, false, 1, [.pointer none]⟩ := rfl
@[go_sem] theorem T82 : T.get 82 = ⟨true, (.struct [(0, 4, true), (4, 1, false), (5, 6, true)]), true, 11, [.int .i64 0, .slice none 0 0, .slice none 0 0, .slice none 0 0, .int .i64 0, .int .i64 0, .slice none 0 0, .slice none 0 0, .slice none 0 0, .int .i64 0, .int .i64 0]⟩ := rfl
@[go_sem] theorem T83 : T.get 83 = ⟨true, (.struct [(0, 4, true), (4, 1, false), (5, 6, true)]), true, 11, [.int .i64 0, .slice none 0 0, .slice none 0 0, .slice none 0 0, .int .i64 0, .int .i64 0, .slice none 0 0, .slice none 0 0, .slice none 0 0, .int .i64 0, .int .i64 0]⟩ := rfl
@[go_sem] theorem T84 : T.get 84 = ⟨true, .other, false, 1, [.nilFunc]⟩ := rfl
@[go_sem] theorem T85 : T.get 85 = ⟨true, .other, false, 1, [.nilFunc]⟩ := rfl
@[go_sem] theorem T86 : T.get 86 = ⟨true, .other, false, 1, [.nilFunc]⟩ := rfl
@[go_sem] theorem T87 : T.get 87 = ⟨true, .other, false, 1, [.pointer none]⟩ := rfl
@[go_sem] theorem T88 : T.get 88 = ⟨true, (.struct [(0, 1, false), (1, 1, false), (2, 1, false)]), true, 3, [.string ⟨#[]⟩, .int .i64 0, .int .i64 0]⟩ := rfl
@[go_sem] theorem T89 : T.get 89 = ⟨true, (.struct [(0, 1, false), (1, 1, false), (2, 1, false)]), true, 3, [.string ⟨#[]⟩, .int .i64 0, .int .i64 0]⟩ := rfl
@[go_sem] theorem T90 : T.get 90 = ⟨true, (.slice 97 4 40 true [.int .i64 0, .string ⟨#[]⟩, .int .i64 0, .int .i64 0]), false, 1, [.slice none 0 0]⟩ := rfl
@[go_sem] theorem T92 : T.get 92 = ⟨true, .other, false, 1, [.nilFunc]⟩ := rfl
@[go_sem] theorem T93 : T.get 93 = ⟨true, .other, false, 1, [.pointer none]⟩ := rfl
@[go_sem] theorem T94 : T.get 94 = ⟨true, (.struct [(0, 1, false), (1, 1, false), (2, 1, false), (3, 1, false)]), true, 4, [.slice none 0 0, .int .i64 0, .int .i64 0, .int .i64 0]⟩ := rfl
@[go_sem] theorem T95 : T.get 95 = ⟨true, (.struct [(0, 1, false), (1, 1, false), (2, 1, false), (3, 1, false)]), true, 4, [.slice none 0 0, .int .i64 0, .int .i64 0, .int .i64 0]⟩ := rfl
@[go_sem] theorem T96 : T.get 96 = ⟨true, (.struct [(0, 1, false), (1, 1, false), (2, 1, false), (3, 1, false)]), true, 4, [.int .i64 0, .string ⟨#[]⟩, .int .i64 0, .int .i64 0]⟩ := rfl
@[go_sem] theorem T97 : T.get 97 = ⟨true, (.struct [(0, 1, false), (1, 1, false), (2, 1, false), (3, 1, false)]), true, 4, [.int .i64 0, .string ⟨#[]⟩, .int .i64 0, .int .i64 0]⟩ := rfl
@[go_sem] theorem T98 : T.get 98 = ⟨true, .other, false, 1, [.nilFunc]⟩ := rfl
@[go_sem] theorem T99 : T.get 99 = ⟨true, .other, false, 1, [.nilFunc]⟩ := rfl
@[go_sem] theorem T100 : T.get 100 = ⟨true, .other, false, 1, [.nilFunc]⟩ := rfl
@[go_sem] theorem T101 : T.get 101 = ⟨true, .other, false, 1, [.nilFunc]⟩ := rfl
@[go_sem] theorem T103 : T.get 103 = ⟨true, .other, false, 1, [.nilFunc]⟩ := rfl
@[go_sem] theorem T104 : T.get 104 = ⟨true, (.struct [(0, 1, false), (1, 1, false), (2, 1, false)]), true, 3, [.string ⟨#[]⟩, .int .i64 0, .int .i64 0]⟩ := rfl
@[go_sem] theorem T105 : T.get 105 = ⟨true, (.struct [(0, 1, false), (1, 1, false), (2, 1, false)]), true, 3, [.string ⟨#[]⟩, .int .i64 0, .int .i64 0]⟩ := rfl
@[go_sem] theorem T106 : T.get 106 = ⟨true, .other, false, 1, [.nilFunc]⟩ := rfl
@[go_sem] theorem T107 : T.get 107 = ⟨true, (.slice 289 9 120 true [.int .i64 0, .string ⟨#[]⟩, .string ⟨#[]⟩, .slice none 0 0, .slice none 0 0, .bool false, .int .i64 0, .int .i64 0, .int .i64 0]), false, 1, [.slice none 0 0]⟩ := rfl
@[go_sem] theorem T108 : T.get 108 = ⟨true, (.struct [(0, 1, false), (1, 1, false), (2, 1, false), (3, 1, false)]), true, 4, [.string ⟨#[]⟩, .slice none 0 0, .slice none 0 0, .int .i64 0]⟩ := rfl
@[go_sem] theorem T109 : T.get 109 = ⟨true, (.struct [(0, 1, false), (1, 1, false), (2, 1, false), (3, 1, false)]), true, 4, [.string ⟨#[]⟩, .slice none 0 0, .slice none 0 0, .int .i64 0]⟩ := rfl
@[go_sem] theorem T110 : T.get 110 = ⟨true, .other, false, 1, [.nilFunc]⟩ := rfl
@[go_sem] theorem T111 : T.get 111 = ⟨true, (.slice 164 5 56 true [.int .i64 0, .int .i64 0, .string ⟨#[]⟩, .string ⟨#[]⟩, .int .i64 0]), false, 1, [.slice none 0 0]⟩ := rfl
@[go_sem] theorem T112 : T.get 112 = ⟨true, (.struct [(0, 1, false), (1, 1, false), (2, 1, false)]), true, 3, [.int .i64 0, .slice none 0 0, .int .i64 0]⟩ := rfl
@[go_sem] theorem T113 : T.get 113 = ⟨true, (.struct [(0, 1, false), (1, 1, false), (2, 1, false)]), true, 3, [.int .i64 0, .slice none 0 0, .int .i64 0]⟩ := rfl
@[go_sem] theorem T114 : T.get 114 = ⟨true, .other, false, 1, [.nilFunc]⟩ := rfl
@[go_sem] theorem T116 : T.get 116 = ⟨true, .other, false, 1, [.nilFunc]⟩ := rfl
@[go_sem] theorem T117 : T.get 117 = ⟨true, .other, false, 1, [.nilFunc]⟩ := rfl
@[go_sem] theorem T118 : T.get 118 = ⟨true, (.slice 181 7 88 true [.int .i64 0, .int .i64 0, .int .i64 0, .slice none 0 0, .slice none 0 0, .bool false, .int .i64 0]), false, 1, [.slice none 0 0]⟩ := rfl
@[go_sem] theorem T119 : T.get 119 = ⟨true, .other, false, 1, [.nilFunc]⟩ := rfl
@[go_sem] theorem T120 : T.get 120 = ⟨true, (.slice 185 4 96 true [.slice none 0 0, .slice none 0 0, .slice none 0 0, .slice none 0 0]), false, 1, [.slice none 0 0]⟩ := rfl
@[go_sem] theorem T121 : T.get 121 = ⟨true, (.struct [(0, 1, false), (1, 1, false), (2, 1, false)]), true, 3, [.slice none 0 0, .slice none 0 0, .slice none 0 0]⟩ := rfl
@[go_sem] theorem T122 : T.get 122 = ⟨true, (.struct [(0, 1, false), (1, 1, false), (2, 1, false)]), true, 3, [.slice none 0 0, .slice none 0 0, .slice none 0 0]⟩ := rfl
@[go_sem] theorem T123 : T.get 123 = ⟨true, (.struct [(0, 1, false), (1, 3, true), (4, 1, false), (5, 1, false)]), true, 6, [.slice none 0 0, .slice none 0 0, .slice none 0 0, .slice none 0 0, .slice none 0 0, .slice none 0 0]⟩ := rfl
@[go_sem] theorem T124 : T.get 124 = ⟨true, (.struct [(0, 1, false), (1, 3, true), (4, 1, false), (5, 1, false)]), true, 6, [.slice none 0 0, .slice none 0 0, .slice none 0 0, .slice none 0 0, .slice none 0 0, .slice none 0 0]⟩ := rfl
@[go_sem] theorem T126 : T.get 126 = ⟨true, .other, false, 1, [.nilFunc]⟩ := rfl
@[go_sem] theorem T128 : T.get 128 = ⟨true, .other, false, 1, [.nilFunc]⟩ := rfl
@[go_sem] theorem T130 : T.get 130 = ⟨true, .other, false, 1, [.nilFunc]⟩ := rfl
@[go_sem] theorem T131 : T.get 131 = ⟨true, .other, false, 1, [.nilFunc]⟩ := rfl
@[go_sem] theorem T132 : T.get 132 = ⟨true, .other, false, 1, [.nilFunc]⟩ := rfl
@[go_sem] theorem T133 : T.get 133 = ⟨true, (.slice 3 1 8 false [.int .i64 0]), false, 1, [.slice none 0 0]⟩ := rfl
@[go_sem] theorem T135 : T.get 135 = ⟨true, .other, false, 1, [.nilFunc]⟩ := rfl
@[go_sem] theorem T136 : T.get 136 = ⟨true, (.struct [(0, 1, false)]), true, 1, [.pointer none]⟩ := rfl
@[go_sem] theorem T137 : T.get 137 = ⟨true, (.struct [(0, 1, false)]), true, 1, [.pointer none]⟩ := rfl
@[go_sem] theorem T138 : T.get 138 = ⟨true, .other, false, 1, [.pointer none]⟩ := rfl
@[go_sem] theorem T139 : T.get 139 = ⟨true, .other, false, 1, [.nilIface]⟩ := rfl
@[go_sem] theorem T141 : T.get 141 = ⟨true, .other, false, 1, [.nilFunc]⟩ := rfl
@[go_sem] theorem T142 : T.get 142 = ⟨true, .other, false, 1, [.nilIface]⟩ := rfl
@[go_sem] theorem T143 : T.get 143 = ⟨true, .other, false, 1, [.nilFunc]⟩ := rfl
@[go_sem] theorem T144 : T.get 144 = ⟨true, .other, false, 1, [.nilIface]⟩ := rfl
@[go_sem] theorem T145 : T.get 145 = ⟨true, (.slice 42 1 16 false [.nilIface]), false, 1, [.slice none 0 0]⟩ := rfl
@[go_sem] theorem T146 : T.get 146 = ⟨true, .other, false, 1, [.nilFunc]⟩ := rfl
@[go_sem] theorem T148 : T.get 148 = ⟨true, .other, false, 1, [.nilFunc]⟩ := rfl
@[go_sem] theorem T150 : T.get 150 = ⟨true, .other, false, 1, [.nilFunc]⟩ := rfl
@[go_sem] theorem T151 : T.get 151 = ⟨true, .other, false, 1, [.nilFunc]⟩ := rfl
@[go_sem] theorem T153 : T.get 153 = ⟨true, .other, false, 1, [.nilFunc]⟩ := rfl
@[go_sem] theorem T154 : T.get 154 = ⟨true, .other, false, 1, [.nilFunc]⟩ := rfl
@[go_sem] theorem T155 : T.get 155 = ⟨true, .other, false, 1, [.nilFunc]⟩ := rfl
@[go_sem] theorem T156 : T.get 156 = ⟨true, .other, false, 1, [.nilFunc]⟩ := rfl
@[go_sem] theorem T157 : T.get 157 = ⟨true, .other, false, 1, [.nilFunc]⟩ := rfl
@[go_sem] theorem T159 : T.get 159 = ⟨true, .other, false, 1, [.nilFunc]⟩ := rfl
@[go_sem] theorem T160 : T.get 160 = ⟨true, .other, false, 1, [.nilFunc]⟩ := rfl
@[go_sem] theorem T162 : T.get 162 = ⟨true, .other, false, 1, [.nilFunc]⟩ := rfl
@[go_sem] theorem T163 : T.get 163 = ⟨true, (.struct [(0, 1, false), (1, 1, false), (2, 1, false), (3, 1, false), (4, 1, false)]), true, 5, [.int .i64 0, .int .i64 0, .string ⟨#[]⟩, .string ⟨#[]⟩, .int .i64 0]⟩ := rfl
@[go_sem] theorem T164 : T.get 164 = ⟨true, (.struct [(0, 1, false), (1, 1, false), (2, 1, false), (3, 1, false), (4, 1, false)]), true, 5, [.int .i64 0, .int .i64 0, .string ⟨#[]⟩, .string ⟨#[]⟩, .int .i64 0]⟩ := rfl
@[go_sem] theorem T165 : T.get 165 = ⟨true, .other, false, 1, [.nilFunc]⟩ := rfl
@[go_sem] theorem T166 : T.get 166 = ⟨true, .other, false, 1, [.pointer none]⟩ := rfl
@[go_sem] theorem T167 : T.get 167 = ⟨true, .other, false, 1, [.map none]⟩ := rfl
@[go_sem] theorem T168 : T.get 168 = ⟨true, .other, false, 1, [.map none]⟩ := rfl
@[go_sem] theorem T169 : T.get 169 = ⟨true, (.struct [(0, 4, true), (4, 1, false), (5, 1, false), (6, 1, false), (7, 1, false)]), true, 8, [.int .i64 0, .slice none 0 0, .slice none 0 0, .slice none 0 0, .map none, .map none, .int .i64 0, .int .i64 0]⟩ := rfl
@[go_sem] theorem T170 : T.get 170 = ⟨true, (.struct [(0, 4, true), (4, 1, false), (5, 1, false), (6, 1, false), (7, 1, false)]), true, 8, [.int .i64 0, .slice none 0 0, .slice none 0 0, .slice none 0 0, .map none, .map none, .int .i64 0, .int .i64 0]⟩ := rfl
@[go_sem] theorem T171 : T.get 171 = ⟨true, .other, false, 1, [.nilFunc]⟩ := rfl
@[go_sem] theorem T172 : T.get 172 = ⟨true, .other, false, 1, [.nilFunc]⟩ := rfl
@[go_sem] theorem T173 : T.get 173 = ⟨true, .other, false, 1, [.nilFunc]⟩ := rfl
@[go_sem] theorem T174 : T.get 174 = ⟨true, .other, false, 1, [.pointer none]⟩ := rfl
@[go_sem] theorem T175 : T.get 175 = ⟨true, (.struct [(0, 1, false), (1, 1, false), (2, 1, false), (3, 1, false)]), true, 4, [.slice none 0 0, .slice none 0 0, .slice none 0 0, .slice none 0 0]⟩ := rfl
@[go_sem] theorem T176 : T.get 176 = ⟨true, (.struct [(0, 1, false), (1, 1, false), (2, 1, false), (3, 1, false)]), true, 4, [.slice none 0 0, .slice none 0 0, .slice none 0 0, .slice none 0 0]⟩ := rfl
@[go_sem] theorem T177 : T.get 177 = ⟨true, .other, false, 1, [.nilFunc]⟩ := rfl
@[go_sem] theorem T178 : T.get 178 = ⟨true, .other, false, 1, [.nilFunc]⟩ := rfl
@[go_sem] theorem T179 : T.get 179 = ⟨true, (.slice 279 3 24 true [.int .i64 0, .int .i64 0, .int .i64 0]), false, 1, [.slice none 0 0]⟩ := rfl
@[go_sem] theorem T180 : T.get 180 = ⟨true, (.struct [(0, 1, false), (1, 1, false), (2, 1, false), (3, 1, false), (4, 1, false), (5, 1, false), (6, 1, false)]), true, 7, [.int .i64 0, .int .i64 0, .int .i64 0, .slice none 0 0, .slice none 0 0, .bool false, .int .i64 0]⟩ := rfl
@[go_sem] theorem T181 : T.get 181 = ⟨true, (.struct [(0, 1, false), (1, 1, false), (2, 1, false), (3, 1, false), (4, 1, false), (5, 1, false), (6, 1, false)]), true, 7, [.int .i64 0, .int .i64 0, .int .i64 0, .slice none 0 0, .slice none 0 0, .bool false, .int .i64 0]⟩ := rfl
@[go_sem] theorem T182 : T.get 182 = ⟨true, (.slice 28 1 24 false [.slice none 0 0]), false, 1, [.slice none 0 0]⟩ := rfl
@[go_sem] theorem T183 : T.get 183 = ⟨true, (.slice 251 1 24 false [.slice none 0 0]), false, 1, [.slice none 0 0]⟩ := rfl
@[go_sem] theorem T184 : T.get 184 = ⟨true, (.struct [(0, 1, false), (1, 1, false), (2, 1, false), (3, 1, false)]), true, 4, [.slice none 0 0, .slice none 0 0, .slice none 0 0, .slice none 0 0]⟩ := rfl
@[go_sem] theorem T185 : T.get 185 = ⟨true, (.struct [(0, 1, false), (1, 1, false), (2, 1, false), (3, 1, false)]), true, 4, [.slice none 0 0, .slice none 0 0, .slice none 0 0, .slice none 0 0]⟩ := rfl
@[go_sem] theorem T187 : T.get 187 = ⟨true, .other, false, 1, [.nilFunc]⟩ := rfl
@[go_sem] theorem T189 : T.get 189 = ⟨true, .other, false, 1, [.nilFunc]⟩ := rfl
@[go_sem] theorem T190 : T.get 190 = ⟨true, .other, false, 1, [.nilFunc]⟩ := rfl
@[go_sem] theorem T191 : T.get 191 = ⟨true, .other, false, 1, [.pointer none]⟩ := rfl
@[go_sem] theorem T192 : T.get 192 = ⟨true, .other, false, 1, [.pointer none]⟩ := rfl
@[go_sem] theorem T193 : T.get 193 = ⟨true, .other, false, 1, [.nilFunc]⟩ := rfl
@[go_sem] theorem T194 : T.get 194 = ⟨true, (.slice 202 3 24 true [.int .i64 0, .int .i64 0, .int .i64 0]), false, 1, [.slice none 0 0]⟩ := rfl
@[go_sem] theorem T195 : T.get 195 = ⟨true, (.struct [(0, 6, true), (6, 1, false), (7, 1, false)]), true, 8, [.slice none 0 0, .slice none 0 0, .slice none 0 0, .slice none 0 0, .slice none 0 0, .slice none 0 0, .pointer none, .slice none 0 0]⟩ := rfl
@[go_sem] theorem T196 : T.get 196 = ⟨true, (.struct [(0, 6, true), (6, 1, false), (7, 1, false)]), true, 8, [.slice none 0 0, .slice none 0 0, .slice none 0 0, .slice none 0 0, .slice none 0 0, .slice none 0 0, .pointer none, .slice none 0 0]⟩ := rfl
@[go_sem] theorem T197 : T.get 197 = ⟨true, .other, false, 1, [.nilFunc]⟩ := rfl
@[go_sem] theorem T198 : T.get 198 = ⟨true, .other, false, 1, [.nilFunc]⟩ := rfl
@[go_sem] theorem T200 : T.get 200 = ⟨true, .other, false, 1, [.nilFunc]⟩ := rfl
@[go_sem] theorem T201 : T.get 201 = ⟨true, (.struct [(0, 1, false), (1, 1, false), (2, 1, false)]), true, 3, [.int .i64 0, .int .i64 0, .int .i64 0]⟩ := rfl
@[go_sem] theorem T202 : T.get 202 = ⟨true, (.struct [(0, 1, false), (1, 1, false), (2, 1, false)]), true, 3, [.int .i64 0, .int .i64 0, .int .i64 0]⟩ := rfl
@[go_sem] theorem T204 : T.get 204 = ⟨true, .other, false, 1, [.nilFunc]⟩ := rfl
@[go_sem] theorem T205 : T.get 205 = ⟨true, .other, false, 1, [.nilFunc]⟩ := rfl
@[go_sem] theorem T206 : T.get 206 = ⟨true, .other, false, 1, [.nilFunc]⟩ := rfl
@[go_sem] theorem T207 : T.get 207 = ⟨true, (.slice 271 1 24 false [.slice none 0 0]), false, 1, [.slice none 0 0]⟩ := rfl
@[go_sem] theorem T208 : T.get 208 = ⟨true, .other, false, 1, [.nilFunc]⟩ := rfl
@[go_sem] theorem T209 : T.get 209 = ⟨true, .other, false, 1, [.nilFunc]⟩ := rfl
@[go_sem] theorem T210 : T.get 210 = ⟨true, .other, false, 1, [.nilFunc]⟩ := rfl
@[go_sem] theorem T212 : T.get 212 = ⟨true, .other, false, 1, [.nilFunc]⟩ := rfl
@[go_sem] theorem T213 : T.get 213 = ⟨true, .other, false, 1, [.nilFunc]⟩ := rfl
@[go_sem] theorem T215 : T.get 215 = ⟨true, .other, false, 1, [.nilFunc]⟩ := rfl
@[go_sem] theorem T216 : T.get 216 = ⟨true, .other, false, 1, [.nilFunc]⟩ := rfl
@[go_sem] theorem T217 : T.get 217 = ⟨true, .other, false, 1, [.nilFunc]⟩ := rfl
@[go_sem] theorem T218 : T.get 218 = ⟨true, .other, false, 1, [.nilFunc]⟩ := rfl
@[go_sem] theorem T219 : T.get 219 = ⟨true, (.slice 21 1 4 false [.int .i32 0]), false, 1, [.slice none 0 0]⟩ := rfl
@[go_sem] theorem T220 : T.get 220 = ⟨true, .other, false, 1, [.pointer none]⟩ := rfl
@[go_sem] theorem T221 : T.get 221 = ⟨true, (.struct [(0, 1, false), (1, 1, false), (2, 1, false), (3, 1, false), (4, 1, false)]), true, 5, [.slice none 0 0, .int .i64 0, .map none, .int .i64 0, .int .i64 0]⟩ := rfl
@[go_sem] theorem T222 : T.get 222 = ⟨true, (.struct [(0, 1, false), (1, 1, false), (2, 1, false), (3, 1, false), (4, 1, false)]), true, 5, [.slice none 0 0, .int .i64 0, .map none, .int .i64 0, .int .i64 0]⟩ := rfl
@[go_sem] theorem T223 : T.get 223 = ⟨true, (.slice 226 4 40 true [.string ⟨#[]⟩, .string ⟨#[]⟩, .bool false, .bool false]), false, 1, [.slice none 0 0]⟩ := rfl
@[go_sem] theorem T224 : T.get 224 = ⟨true, .other, false, 1, [.nilFunc]⟩ := rfl
@[go_sem] theorem T225 : T.get 225 = ⟨true, (.struct [(0, 1, false), (1, 1, false), (2, 1, false), (3, 1, false)]), true, 4, [.string ⟨#[]⟩, .string ⟨#[]⟩, .bool false, .bool false]⟩ := rfl
@[go_sem] theorem T226 : T.get 226 = ⟨true, (.struct [(0, 1, false), (1, 1, false), (2, 1, false), (3, 1, false)]), true, 4, [.string ⟨#[]⟩, .string ⟨#[]⟩, .bool false, .bool false]⟩ := rfl
@[go_sem] theorem T227 : T.get 227 = ⟨true, .other, false, 1, [.nilFunc]⟩ := rfl
@[go_sem] theorem T228 : T.get 228 = ⟨true, .other, false, 1, [.nilFunc]⟩ := rfl
@[go_sem] theorem T229 : T.get 229 = ⟨true, .other, false, 1, [.pointer none]⟩ := rfl
@[go_sem] theorem T230 : T.get 230 = ⟨true, (.struct [(0, 1, false), (1, 1, false), (2, 1, false), (3, 1, false), (4, 1, false)]), true, 5, [.slice none 0 0, .int .i64 0, .int .i64 0, .int .i64 0, .int .i64 0]⟩ := rfl
@[go_sem] theorem T231 : T.get 231 = ⟨true, (.struct [(0, 1, false), (1, 1, false), (2, 1, false), (3, 1, false), (4, 1, false)]), true, 5, [.slice none 0 0, .int .i64 0, .int .i64 0, .int .i64 0, .int .i64 0]⟩ := rfl
@[go_sem] theorem T232 : T.get 232 = ⟨true, .other, false, 1, [.nilFunc]⟩ := rfl
@[go_sem] theorem T233 : T.get 233 = ⟨true, .other, false, 1, [.nilFunc]⟩ := rfl
@[go_sem] theorem T234 : T.get 234 = ⟨true, .other, false, 1, [.nilFunc]⟩ := rfl
@[go_sem] theorem T235 : T.get 235 = ⟨true, .other, false, 1, [.nilFunc]⟩ := rfl
@[go_sem] theorem T236 : T.get 236 = ⟨true, .other, false, 1, [.nilFunc]⟩ := rfl
@[go_sem] theorem T237 : T.get 237 = ⟨true, .other, false, 1, [.nilFunc]⟩ := rfl
@[go_sem] theorem T239 : T.get 239 = ⟨true, .other, false, 1, [.nilFunc]⟩ := rfl
@[go_sem] theorem T240 : T.get 240 = ⟨true, .other, false, 1, [.nilFunc]⟩ := rfl
@[go_sem] theorem T241 : T.get 241 = ⟨true, .other, false, 1, [.nilFunc]⟩ := rfl
@[go_sem] theorem T242 : T.get 242 = ⟨true, .other, false, 1, [.nilFunc]⟩ := rfl
@[go_sem] theorem T243 : T.get 243 = ⟨true, .other, false, 1, [.nilFunc]⟩ := rfl
@[go_sem] theorem T244 : T.get 244 = ⟨true, .other, false, 1, [.nilFunc]⟩ := rfl
@[go_sem] theorem T245 : T.get 245 = ⟨true, .other, false, 1, [.nilFunc]⟩ := rfl
@[go_sem] theorem T246 : T.get 246 = ⟨true, .other, false, 1, [.pointer none]⟩ := rfl
@[go_sem] theorem T247 : T.get 247 = ⟨true, .other, false, 1, [.nilFunc]⟩ := rfl
@[go_sem] theorem T248 : T.get 248 = ⟨true, (.struct [(0, 1, false), (1, 1, false)]), true, 2, [.slice none 0 0, .int .i64 0]⟩ := rfl
@[go_sem] theorem T249 : T.get 249 = ⟨true, (.struct [(0, 1, false), (1, 1, false)]), true, 2, [.slice none 0 0, .int .i64 0]⟩ := rfl
@[go_sem] theorem T250 : T.get 250 = ⟨true, .other, false, 1, [.nilFunc]⟩ := rfl
@[go_sem] theorem T251 : T.get 251 = ⟨true, (.slice 253 2 16 true [.int .i64 0, .int .i64 0]), false, 1, [.slice none 0 0]⟩ := rfl
@[go_sem] theorem T252 : T.get 252 = ⟨true, (.struct [(0, 1, false), (1, 1, false)]), true, 2, [.int .i64 0, .int .i64 0]⟩ := rfl
@[go_sem] theorem T253 : T.get 253 = ⟨true, (.struct [(0, 1, false), (1, 1, false)]), true, 2, [.int .i64 0, .int .i64 0]⟩ := rfl
@[go_sem] theorem T254 : T.get 254 = ⟨true, .other, false, 1, [.nilFunc]⟩ := rfl
@[go_sem] theorem T255 : T.get 255 = ⟨true, (.struct [(0, 1, false), (1, 1, false)]), true, 2, [.slice none 0 0, .slice none 0 0]⟩ := rfl
@[go_sem] theorem T256 : T.get 256 = ⟨true, (.struct [(0, 1, false), (1, 1, false)]), true, 2, [.slice none 0 0, .slice none 0 0]⟩ := rfl
@[go_sem] theorem T257 : T.get 257 = ⟨true, .other, false, 1, [.nilFunc]⟩ := rfl
@[go_sem] theorem T258 : T.get 258 = ⟨true, (.slice 261 1 16 false [.nilIface]), false, 1, [.slice none 0 0]⟩ := rfl
@[go_sem] theorem T259 : T.get 259 = ⟨true, .other, false, 1, [.nilFunc]⟩ := rfl
@[go_sem] theorem T260 : T.get 260 = ⟨true, .other, false, 1, [.nilIface]⟩ := rfl
@[go_sem] theorem T261 : T.get 261 = ⟨true, .other, false, 1, [.nilIface]⟩ := rfl
@[go_sem] theorem T262 : T.get 262 = ⟨true, .other, false, 1, [.nilFunc]⟩ := rfl
@[go_sem] theorem T263 : T.get 263 = ⟨true, (.struct [(0, 4, true), (4, 4, true), (8, 1, false), (9, 1, false)]), true, 10, [.int .i64 0, .slice none 0 0, .slice none 0 0, .slice none 0 0, .slice none 0 0, .slice none 0 0, .slice none 0 0, .slice none 0 0, .int .i64 0, .int .i64 0]⟩ := rfl
@[go_sem] theorem T264 : T.get 264 = ⟨true, (.struct [(0, 4, true), (4, 4, true), (8, 1, false), (9, 1, false)]), true, 10, [.int .i64 0, .slice none 0 0, .slice none 0 0, .slice none 0 0, .slice none 0 0, .slice none 0 0, .slice none 0 0, .slice none 0 0, .int .i64 0, .int .i64 0]⟩ := rfl
@[go_sem] theorem T266 : T.get 266 = ⟨true, .other, false, 1, [.nilFunc]⟩ := rfl
@[go_sem] theorem T267 : T.get 267 = ⟨true, .other, false, 1, [.nilFunc]⟩ := rfl
@[go_sem] theorem T268 : T.get 268 = ⟨true, .other, false, 1, [.nilFunc]⟩ := rfl
@[go_sem] theorem T269 : T.get 269 = ⟨true, .other, false, 1, [.nilFunc]⟩ := rfl
@[go_sem] theorem T270 : T.get 270 = ⟨true, .other, false, 1, [.nilFunc]⟩ := rfl
@[go_sem] theorem T271 : T.get 271 = ⟨true, (.slice 4 1 1 false [.bool false]), false, 1, [.slice none 0 0]⟩ := rfl
@[go_sem] theorem T272 : T.get 272 = ⟨true, .other, false, 1, [.nilFunc]⟩ := rfl
@[go_sem] theorem T273 : T.get 273 = ⟨true, .other, false, 1, [.nilFunc]⟩ := rfl
@[go_sem] theorem T274 : T.get 274 = ⟨true, .other, false, 1, [.nilFunc]⟩ := rfl
@[go_sem] theorem T275 : T.get 275 = ⟨true, .other, false, 1, [.nilFunc]⟩ := rfl
@[go_sem] theorem T276 : T.get 276 = ⟨true, .other, false, 1, [.nilFunc]⟩ := rfl
@[go_sem] theorem T277 : T.get 277 = ⟨true, .other, false, 1, [.nilFunc]⟩ := rfl
@[go_sem] theorem T278 : T.get 278 = ⟨true, (.struct [(0, 1, false), (1, 1, false), (2, 1, false)]), true, 3, [.int .i64 0, .int .i64 0, .int .i64 0]⟩ := rfl
@[go_sem] theorem T279 : T.get 279 = ⟨true, (.struct [(0, 1, false), (1, 1, false), (2, 1, false)]), true, 3, [.int .i64 0, .int .i64 0, .int .i64 0]⟩ := rfl
@[go_sem] theorem T280 : T.get 280 = ⟨true, .other, false, 1, [.nilFunc]⟩ := rfl
@[go_sem] theorem T281 : T.get 281 = ⟨true, .other, false, 1, [.nilFunc]⟩ := rfl
@[go_sem] theorem T282 : T.get 282 = ⟨true, .other, false, 1, [.nilFunc]⟩ := rfl
@[go_sem] theorem T283 : T.get 283 = ⟨true, .other, false, 1, [.nilFunc]⟩ := rfl
@[go_sem] theorem T284 : T.get 284 = ⟨true, .other, false, 1, [.nilFunc]⟩ := rfl
@[go_sem] theorem T285 : T.get 285 = ⟨true, .other, false, 1, [.nilFunc]⟩ := rfl
@[go_sem] theorem T286 : T.get 286 = ⟨true, .other, false, 1, [.nilFunc]⟩ := rfl
@[go_sem] theorem T287 : T.get 287 = ⟨true, .other, false, 1, [.nilFunc]⟩ := rfl
@[go_sem] theorem T288 : T.get 288 = ⟨true, (.struct [(0, 1, false), (1, 1, false), (2, 1, false), (3, 1, false), (4, 1, false), (5, 1, false), (6, 1, false), (7, 1, false), (8, 1, false)]), true, 9, [.int .i64 0, .string ⟨#[]⟩, .string ⟨#[]⟩, .slice none 0 0, .slice none 0 0, .bool false, .int .i64 0, .int .i64 0, .int .i64 0]⟩ := rfl
@[go_sem] theorem T289 : T.get 289 = ⟨true, (.struct [(0, 1, false), (1, 1, false), (2, 1, false), (3, 1, false), (4, 1, false), (5, 1, false), (6, 1, false), (7, 1, false), (8, 1, false)]), true, 9, [.int .i64 0, .string ⟨#[]⟩, .string ⟨#[]⟩, .slice none 0 0, .slice none 0 0, .bool false, .int .i64 0, .int .i64 0, .int .i64 0]⟩ := rfl
@[go_sem] theorem T290 : T.get 290 = ⟨true, .other, false, 1, [.nilFunc]⟩ := rfl
@[go_sem] theorem T291 : T.get 291 = ⟨true, .other, false, 1, [.nilFunc]⟩ := rfl
@[go_sem] theorem T292 : T.get 292 = ⟨true, .other, false, 1, [.nilFunc]⟩ := rfl
@[go_sem] theorem T293 : T.get 293 = ⟨true, .other, false, 1, [.nilFunc]⟩ := rfl
@[go_sem] theorem T294 : T.get 294 = ⟨true, .other, false, 1, [.nilFunc]⟩ := rfl
@[go_sem] theorem T295 : T.get 295 = ⟨true, .other, false, 1, [.nilFunc]⟩ := rfl
@[go_sem] theorem T296 : T.get 296 = ⟨true, .other, false, 1, [.nilFunc]⟩ := rfl
@[go_sem] theorem T297 : T.get 297 = ⟨true, (.int .i64), false, 1, [.int .i64 0]⟩ := rfl
@[go_sem] theorem T298 : T.get 298 = ⟨true, (.struct [(0, 1, false), (1, 1, false)]), true, 2, [.int .i64 0, .int .i64 0]⟩ := rfl
@[go_sem] theorem T299 : T.get 299 = ⟨true, (.struct [(0, 1, false), (1, 1, false)]), true, 2, [.int .i64 0, .int .i64 0]⟩ := rfl
@[go_sem] theorem T300 : T.get 300 = ⟨true, .other, false, 1, [.nilFunc]⟩ := rfl
@[go_sem] theorem T301 : T.get 301 = ⟨true, .other, false, 1, [.nilFunc]⟩ := rfl
@[go_sem] theorem T302 : T.get 302 = ⟨true, .other, false, 1, [.nilFunc]⟩ := rfl
@[go_sem] theorem T303 : T.get 303 = ⟨true, .other, false, 1, [.nilFunc]⟩ := rfl
@[go_sem] theorem T304 : T.get 304 = ⟨true, (.struct [(0, 1, false)]), true, 1, [.nilFunc]⟩ := rfl
@[go_sem] theorem T305 : T.get 305 = ⟨true, (.struct [(0, 1, false)]), true, 1, [.nilFunc]⟩ := rfl
@[go_sem] theorem T307 : T.get 307 = ⟨true, .other, false, 1, [.nilFunc]⟩ := rfl
@[go_sem] theorem T308 : T.get 308 = ⟨true, .other, false, 1, [.nilFunc]⟩ := rfl
@[go_sem] theorem T309 : T.get 309 = ⟨true, (.struct [(0, 3, true), (3, 1, false), (4, 1, false)]), true, 5, [.slice none 0 0, .slice none 0 0, .slice none 0 0, .slice none 0 0, .int .i64 0]⟩ := rfl
@[go_sem] theorem T310 : T.get 310 = ⟨true, (.struct [(0, 3, true), (3, 1, false), (4, 1, false)]), true, 5, [.slice none 0 0, .slice none 0 0, .slice none 0 0, .slice none 0 0, .int .i64 0]⟩ := rfl
@[go_sem] theorem T311 : T.get 311 = ⟨true, .other, false, 1, [.nilFunc]⟩ := rfl
@[go_sem] theorem T312 : T.get 312 = ⟨true, .other, false, 1, [.nilFunc]⟩ := rfl
@[go_sem] theorem T313 : T.get 313 = ⟨true, .other, false, 1, [.nilFunc]⟩ := rfl
@[go_sem] theorem T314 : T.get 314 = ⟨true, .other, false, 1, [.nilFunc]⟩ := rfl
@[go_sem] theorem T315 : T.get 315 = ⟨true, .other, false, 1, [.nilFunc]⟩ := rfl
@[go_sem] theorem T316 : T.get 316 = ⟨true, .other, false, 1, [.nilFunc]⟩ := rfl
@[go_sem] theorem T317 : T.get 317 = ⟨true, .other, false, 1, [.pointer none]⟩ := rfl
@[go_sem] theorem T319 : T.get 319 = ⟨true, .other, false, 1, [.nilFunc]⟩ := rfl
@[go_sem] theorem T320 : T.get 320 = ⟨true, (.struct [(0, 3, true), (3, 1, false), (4, 1, false), (5, 1, false), (6, 1, false)]), true, 7, [.slice none 0 0, .slice none 0 0, .slice none 0 0, .slice none 0 0, .int .i64 0, .slice none 0 0, .slice none 0 0]⟩ := rfl
@[go_sem] theorem T321 : T.get 321 = ⟨true, (.struct [(0, 3, true), (3, 1, false), (4, 1, false), (5, 1, false), (6, 1, false)]), true, 7, [.slice none 0 0, .slice none 0 0, .slice none 0 0, .slice none 0 0, .int .i64 0, .slice none 0 0, .slice none 0 0]⟩ := rfl
@[go_sem] theorem T322 : T.get 322 = ⟨true, .other, false, 1, [.nilFunc]⟩ := rfl
@[go_sem] theorem T323 : T.get 323 = ⟨true, .other, false, 1, [.pointer none]⟩ := rfl
@[go_sem] theorem T324 : T.get 324 = ⟨true, (.struct [(0, 1, false), (1, 1, false), (2, 1, false), (3, 1, false)]), true, 4, [.slice none 0 0, .nilFunc, .slice none 0 0, .bool false]⟩ := rfl
@[go_sem] theorem T325 : T.get 325 = ⟨true, (.struct [(0, 1, false), (1, 1, false), (2, 1, false), (3, 1, false)]), true, 4, [.slice none 0 0, .nilFunc, .slice none 0 0, .bool false]⟩ := rfl
@[go_sem] theorem T326 : T.get 326 = ⟨true, .other, false, 1, [.nilFunc]⟩ := rfl
@[go_sem] theorem T327 : T.get 327 = ⟨true, .other, false, 1, [.nilFunc]⟩ := rfl
@[go_sem] theorem T329 : T.get 329 = ⟨true, .other, false, 1, [.nilFunc]⟩ := rfl
@[go_sem] theorem T330 : T.get 330 = ⟨true, .other, false, 1, [.map none]⟩ := rfl
@[go_sem] theorem T331 : T.get 331 = ⟨true, .other, false, 1, [.nilFunc]⟩ := rfl
@[go_sem] theorem T332 : T.get 332 = ⟨true, .other, false, 1, [.pointer none]⟩ := rfl
@[go_sem] theorem T334 : T.get 334 = ⟨true, .other, false, 1, [.nilFunc]⟩ := rfl
@[go_sem] theorem T335 : T.get 335 = ⟨true, .other, false, 1, [.nilFunc]⟩ := rfl
@[go_sem] theorem T336 : T.get 336 = ⟨true, .other, false, 1, [.nilFunc]⟩ := rfl
@[go_sem] theorem T337 : T.get 337 = ⟨true, .other, false, 1, [.nilFunc]⟩ := rfl
@[go_sem] theorem T338 : T.get 338 = ⟨true, .other, false, 1, [.nilFunc]⟩ := rfl
@[go_sem] theorem T339 : T.get 339 = ⟨true, (.slice 1 1 8 false [.nilFunc]), false, 1, [.slice none 0 0]⟩ := rfl
@[go_sem] theorem T340 : T.get 340 = ⟨true, .other, false, 1, [.nilFunc]⟩ := rfl
@[go_sem] theorem T341 : T.get 341 = ⟨true, .other, false, 1, [.nilFunc]⟩ := rfl
@[go_sem] theorem T342 : T.get 342 = ⟨true, (.int .u64), false, 1, [.int .u64 0]⟩ := rfl
@[go_sem] theorem T343 : T.get 343 = ⟨true, .other, false, 1, [.nilFunc]⟩ := rfl
@[go_sem] theorem T344 : T.get 344 = ⟨true, .other, false, 1, [.nilFunc]⟩ := rfl
@[go_sem] theorem T345 : T.get 345 = ⟨true, .other, false, 1, [.nilFunc]⟩ := rfl
@[go_sem] theorem T346 : T.get 346 = ⟨true, .other, false, 1, [.nilFunc]⟩ := rfl
@[go_sem] theorem T347 : T.get 347 = ⟨true, .other, false, 1, [.nilFunc]⟩ := rfl
@[go_sem] theorem T348 : T.get 348 = ⟨true, .other, false, 1, [.nilFunc]⟩ := rfl
@[go_sem] theorem T349 : T.get 349 = ⟨true, .other, false, 1, [.nilFunc]⟩ := rfl
@[go_sem] theorem T350 : T.get 350 = ⟨true, .other, false, 1, [.nilFunc]⟩ := rfl
@[go_sem] theorem T351 : T.get 351 = ⟨true, .other, false, 1, [.map none]⟩ := rfl
@[go_sem] theorem T352 : T.get 352 = ⟨true, .other, false, 1, [.map none]⟩ := rfl
@[go_sem] theorem T353 : T.get 353 = ⟨true, .other, false, 1, [.nilFunc]⟩ := rfl
@[go_sem] theorem T354 : T.get 354 = ⟨true, .other, false, 1, [.nilFunc]⟩ := rfl
@[go_sem] theorem T355 : T.get 355 = ⟨true, .other, false, 1, [.nilFunc]⟩ := rfl
@[go_sem] theorem T356 : T.get 356 = ⟨true, .other, false, 1, [.nilFunc]⟩ := rfl
@[go_sem] theorem T357 : T.get 357 = ⟨true, .other, false, 1, [.nilFunc]⟩ := rfl
@[go_sem] theorem T358 : T.get 358 = ⟨true, .other, false, 1, [.nilFunc]⟩ := rfl
@[go_sem] theorem T359 : T.get 359 = ⟨true, (.struct [(0, 1, false), (1, 1, false)]), true, 2, [.int .i64 0, .nilFunc]⟩ := rfl
@[go_sem] theorem T360 : T.get 360 = ⟨true, (.struct [(0, 1, false), (1, 1, false)]), true, 2, [.int .i64 0, .nilFunc]⟩ := rfl
@[go_sem] theorem T362 : T.get 362 = ⟨true, .other, false, 1, [.nilFunc]⟩ := rfl
@[go_sem] theorem T364 : T.get 364 = ⟨true, .other, false, 1, [.nilFunc]⟩ := rfl
@[go_sem] theorem T365 : T.get 365 = ⟨true, (.slice 366 1 8 false [.nilFunc]), false, 1, [.slice none 0 0]⟩ := rfl
@[go_sem] theorem T366 : T.get 366 = ⟨true, .other, false, 1, [.nilFunc]⟩ := rfl
@[go_sem] theorem T367 : T.get 367 = ⟨true, (.array 15 1 false), true, 15, [.string ⟨#[]⟩, .string ⟨#[]⟩, .string ⟨#[]⟩, .string ⟨#[]⟩, .string ⟨#[]⟩, .string ⟨#[]⟩, .string ⟨#[]⟩, .string ⟨#[]⟩, .string ⟨#[]⟩, .string ⟨#[]⟩, .string ⟨#[]⟩, .string ⟨#[]⟩, .string ⟨#[]⟩, .string ⟨#[]⟩, .string ⟨#[]⟩]⟩ := rfl
@[go_sem] theorem T368 : T.get 368 = ⟨true, (.slice 111 1 24 false [.slice none 0 0]), false, 1, [.slice none 0 0]⟩ := rfl
@[go_sem] theorem T369 : T.get 369 = ⟨true, .other, false, 1, [.nilFunc]⟩ := rfl
@[go_sem] theorem T370 : T.get 370 = ⟨true, .other, false, 1, [.nilFunc]⟩ := rfl
@[go_sem] theorem T371 : T.get 371 = ⟨true, .other, false, 1, [.nilFunc]⟩ := rfl
@[go_sem] theorem T372 : T.get 372 = ⟨true, .other, false, 1, [.nilFunc]⟩ := rfl
@[go_sem] theorem T373 : T.get 373 = ⟨true, (.struct [(0, 1, false), (1, 1, false), (2, 1, false), (3, 1, false), (4, 1, false), (5, 1, false)]), true, 6, [.bool false, .bool false, .bool false, .bool false, .bool false, .bool false]⟩ := rfl
@[go_sem] theorem T374 : T.get 374 = ⟨true, (.struct [(0, 1, false), (1, 1, false), (2, 1, false), (3, 1, false), (4, 1, false), (5, 1, false)]), true, 6, [.bool false, .bool false, .bool false, .bool false, .bool false, .bool false]⟩ := rfl
@[go_sem] theorem T376 : T.get 376 = ⟨true, .other, false, 1, [.nilFunc]⟩ := rfl
@[go_sem] theorem T377 : T.get 377 = ⟨true, .other, false, 1, [.nilFunc]⟩ := rfl
@[go_sem] theorem T378 : T.get 378 = ⟨true, .other, false, 1, [.nilFunc]⟩ := rfl
@[go_sem] theorem T379 : T.get 379 = ⟨true, .other, false, 1, [.nilFunc]⟩ := rfl
@[go_sem] theorem T380 : T.get 380 = ⟨true, (.array 8 1 false), true, 8, [.int .u8 0, .int .u8 0, .int .u8 0, .int .u8 0, .int .u8 0, .int .u8 0, .int .u8 0, .int .u8 0]⟩ := rfl
@[go_sem] theorem T381 : T.get 381 = ⟨true, (.int .u64), false, 1, [.int .u64 0]⟩ := rfl
@[go_sem] theorem T382 : T.get 382 = ⟨true, .other, false, 1, [.nilFunc]⟩ := rfl
@[go_sem] theorem T383 : T.get 383 = ⟨true, .other, false, 1, [.nilFunc]⟩ := rfl
@[go_sem] theorem T384 : T.get 384 = ⟨true, .other, false, 1, [.pointer none]⟩ := rfl
@[go_sem] theorem T385 : T.get 385 = ⟨true, (.slice 404 2 16 true [.int .i64 0, .int .i64 0]), false, 1, [.slice none 0 0]⟩ := rfl
@[go_sem] theorem T386 : T.get 386 = ⟨true, (.struct [(0, 3, true), (3, 1, false), (4, 1, false), (5, 1, false), (6, 1, false), (7, 1, false), (8, 1, false), (9, 1, false)]), true, 10, [.slice none 0 0, .slice none 0 0, .slice none 0 0, .slice none 0 0, .slice none 0 0, .slice none 0 0, .slice none 0 0, .slice none 0 0, .int .i64 0, .slice none 0 0]⟩ := rfl
@[go_sem] theorem T387 : T.get 387 = ⟨true, (.struct [(0, 3, true), (3, 1, false), (4, 1, false), (5, 1, false), (6, 1, false), (7, 1, false), (8, 1, false), (9, 1, false)]), true, 10, [.slice none 0 0, .slice none 0 0, .slice none 0 0, .slice none 0 0, .slice none 0 0, .slice none 0 0, .slice none 0 0, .slice none 0 0, .int .i64 0, .slice none 0 0]⟩ := rfl
@[go_sem] theorem T388 : T.get 388 = ⟨true, .other, false, 1, [.nilFunc]⟩ := rfl
@[go_sem] theorem T389 : T.get 389 = ⟨true, .other, false, 1, [.nilFunc]⟩ := rfl
@[go_sem] theorem T390 : T.get 390 = ⟨true, .other, false, 1, [.nilFunc]⟩ := rfl
@[go_sem] theorem T391 : T.get 391 = ⟨true, .other, false, 1, [.nilFunc]⟩ := rfl
@[go_sem] theorem T392 : T.get 392 = ⟨true, .other, false, 1, [.nilFunc]⟩ := rfl
@[go_sem] theorem T393 : T.get 393 = ⟨true, .other, false, 1, [.nilFunc]⟩ := rfl
@[go_sem] theorem T394 : T.get 394 = ⟨true, .other, false, 1, [.nilFunc]⟩ := rfl
@[go_sem] theorem T395 : T.get 395 = ⟨true, (.array 15 2 true), true, 30, [.int .i64 0, .nilFunc, .int .i64 0, .nilFunc, .int .i64 0, .nilFunc, .int .i64 0, .nilFunc, .int .i64 0, .nilFunc, .int .i64 0, .nilFunc, .int .i64 0, .nilFunc, .int .i64 0, .nilFunc, .int .i64 0, .nilFunc, .int .i64 0, .nilFunc, .int .i64 0, .nilFunc, .int .i64 0, .nilFunc, .int .i64 0, .nilFunc, .int .i64 0, .nilFunc, .int .i64 0, .nilFunc]⟩ := rfl
@[go_sem] theorem T396 : T.get 396 = ⟨true, .other, false, 1, [.nilFunc]⟩ := rfl
@[go_sem] theorem T397 : T.get 397 = ⟨true, .other, false, 1, [.nilFunc]⟩ := rfl
@[go_sem] theorem T398 : T.get 398 = ⟨true, .other, false, 1, [.map none]⟩ := rfl
@[go_sem] theorem T400 : T.get 400 = ⟨true, .other, false, 1, [.nilFunc]⟩ := rfl
@[go_sem] theorem T401 : T.get 401 = ⟨true, .other, false, 1, [.nilFunc]⟩ := rfl
@[go_sem] theorem T402 : T.get 402 = ⟨true, .other, false, 1, [.pointer none]⟩ := rfl
@[go_sem] theorem T403 : T.get 403 = ⟨true, (.struct [(0, 1, false), (1, 1, false)]), true, 2, [.int .i64 0, .int .i64 0]⟩ := rfl
@[go_sem] theorem T404 : T.get 404 = ⟨true, (.struct [(0, 1, false), (1, 1, false)]), true, 2, [.int .i64 0, .int .i64 0]⟩ := rfl
@[go_sem] theorem T406 : T.get 406 = ⟨true, (.struct [(0, 1, false), (1, 1, false)]), true, 2, [.int .i64 0, .int .i64 0]⟩ := rfl
@[go_sem] theorem T407 : T.get 407 = ⟨true, (.struct [(0, 1, false), (1, 1, false)]), true, 2, [.int .i64 0, .int .i64 0]⟩ := rfl
@[go_sem] theorem T408 : T.get 408 = ⟨true, .other, false, 1, [.map none]⟩ := rfl
@[go_sem] theorem T409 : T.get 409 = ⟨true, .other, false, 1, [.nilFunc]⟩ := rfl
@[go_sem] theorem T411 : T.get 411 = ⟨true, .other, false, 1, [.nilFunc]⟩ := rfl
@[go_sem] theorem T412 : T.get 412 = ⟨true, .other, false, 1, [.nilFunc]⟩ := rfl
@[go_sem] theorem T414 : T.get 414 = ⟨true, .other, false, 1, [.nilFunc]⟩ := rfl
@[go_sem] theorem T415 : T.get 415 = ⟨true, (.struct [(0, 1, false), (1, 1, false), (2, 1, false), (3, 1, false)]), true, 4, [.pointer none, .pointer none, .pointer none, .string ⟨#[]⟩]⟩ := rfl
@[go_sem] theorem T416 : T.get 416 = ⟨true, (.struct [(0, 1, false), (1, 1, false), (2, 1, false), (3, 1, false)]), true, 4, [.pointer none, .pointer none, .pointer none, .string ⟨#[]⟩]⟩ := rfl
@[go_sem] theorem T417 : T.get 417 = ⟨true, (.array 0 1 false), true, 0, []⟩ := rfl
@[go_sem] theorem T418 : T.get 418 = ⟨true, (.struct [(0, 0, true)]), true, 0, []⟩ := rfl
@[go_sem] theorem T419 : T.get 419 = ⟨true, (.struct [(0, 0, true)]), true, 0, []⟩ := rfl
@[go_sem] theorem T420 : T.get 420 = ⟨true, (.int .u32), false, 1, [.int .u32 0]⟩ := rfl
@[go_sem] theorem T421 : T.get 421 = ⟨true, (.int .u8), false, 1, [.int .u8 0]⟩ := rfl
@[go_sem] theorem T422 : T.get 422 = ⟨true, (.int .u8), false, 1, [.int .u8 0]⟩ := rfl
@[go_sem] theorem T423 : T.get 423 = ⟨true, .other, false, 1, [.nilFunc]⟩ := rfl
@[go_sem] theorem T424 : T.get 424 = ⟨true, .other, false, 1, [.pointer none]⟩ := rfl
@[go_sem] theorem T425 : T.get 425 = ⟨true, (.int .i32), false, 1, [.int .i32 0]⟩ := rfl
@[go_sem] theorem T426 : T.get 426 = ⟨true, (.int .i32), false, 1, [.int .i32 0]⟩ := rfl
@[go_sem] theorem T427 : T.get 427 = ⟨true, (.struct [(0, 1, false), (1, 1, false), (2, 1, false), (3, 1, false), (4, 1, false), (5, 1, false), (6, 1, false), (7, 1, false), (8, 1, false), (9, 1, false), (10, 1, false)]), true, 11, [.int .u64 0, .int .u64 0, .int .u32 0, .int .u8 0, .int .u8 0, .int .u8 0, .int .u8 0, .nilFunc, .pointer none, .int .i32 0, .int .i32 0]⟩ := rfl
@[go_sem] theorem T428 : T.get 428 = ⟨true, (.struct [(0, 1, false), (1, 1, false), (2, 1, false), (3, 1, false), (4, 1, false), (5, 1, false), (6, 1, false), (7, 1, false), (8, 1, false), (9, 1, false), (10, 1, false)]), true, 11, [.int .u64 0, .int .u64 0, .int .u32 0, .int .u8 0, .int .u8 0, .int .u8 0, .int .u8 0, .nilFunc, .pointer none, .int .i32 0, .int .i32 0]⟩ := rfl
@[go_sem] theorem T429 : T.get 429 = ⟨true, .other, false, 1, [.nilFunc]⟩ := rfl
@[go_sem] theorem T430 : T.get 430 = ⟨true, .other, false, 1, [.nilFunc]⟩ := rfl
@[go_sem] theorem T431 : T.get 431 = ⟨true, .other, false, 1, [.nilFunc]⟩ := rfl
@[go_sem] theorem T432 : T.get 432 = ⟨true, .other, false, 1, [.nilFunc]⟩ := rfl
@[go_sem] theorem T433 : T.get 433 = ⟨true, .other, false, 1, [.nilFunc]⟩ := rfl
@[go_sem] theorem T434 : T.get 434 = ⟨true, .other, false, 1, [.nilFunc]⟩ := rfl
@[go_sem] theorem T435 : T.get 435 = ⟨true, (.struct [(0, 1, false), (1, 1, false)]), true, 2, [.string ⟨#[]⟩, .int .u8 0]⟩ := rfl
@[go_sem] theorem T436 : T.get 436 = ⟨true, (.struct [(0, 1, false), (1, 1, false)]), true, 2, [.string ⟨#[]⟩, .int .u8 0]⟩ := rfl
@[go_sem] theorem T437 : T.get 437 = ⟨true, .other, false, 1, [.nilFunc]⟩ := rfl
@[go_sem] theorem T438 : T.get 438 = ⟨true, .other, false, 1, [.pointer none]⟩ := rfl
@[go_sem] theorem T440 : T.get 440 = ⟨true, .other, false, 1, [.nilFunc]⟩ := rfl
@[go_sem] theorem T441 : T.get 441 = ⟨true, (.struct [(0, 4, true), (4, 4, true), (8, 1, false), (9, 1, false), (10, 1, false), (11, 7, true)]), true, 18, [.int .i64 0, .slice none 0 0, .slice none 0 0, .slice none 0 0, .slice none 0 0, .slice none 0 0, .slice none 0 0, .slice none 0 0, .int .i64 0, .int .i64 0, .int .i64 0, .int .i64 0, .int .i64 0, .int .i64 0, .slice none 0 0, .slice none 0 0, .bool false, .int .i64 0]⟩ := rfl
@[go_sem] theorem T442 : T.get 442 = ⟨true, (.struct [(0, 4, true), (4, 4, true), (8, 1, false), (9, 1, false), (10, 1, false), (11, 7, true)]), true, 18, [.int .i64 0, .slice none 0 0, .slice none 0 0, .slice none 0 0, .slice none 0 0, .slice none 0 0, .slice none 0 0, .slice none 0 0, .int .i64 0, .int .i64 0, .int .i64 0, .int .i64 0, .int .i64 0, .int .i64 0, .slice none 0 0, .slice none 0 0, .bool false, .int .i64 0]⟩ := rfl
@[go_sem] theorem T443 : T.get 443 = ⟨true, .other, false, 1, [.nilFunc]⟩ := rfl
@[go_sem] theorem T444 : T.get 444 = ⟨true, .other, false, 1, [.map none]⟩ := rfl
@[go_sem] theorem T446 : T.get 446 = ⟨true, .other, false, 1, [.nilFunc]⟩ := rfl
@[go_sem] theorem T447 : T.get 447 = ⟨true, .other, false, 1, [.nilFunc]⟩ := rfl
@[go_sem] theorem T448 : T.get 448 = ⟨true, .other, false, 1, [.nilFunc]⟩ := rfl
@[go_sem] theorem T449 : T.get 449 = ⟨true, .other, false, 1, [.nilFunc]⟩ := rfl
@[go_sem] theorem T450 : T.get 450 = ⟨true, .other, false, 1, [.nilFunc]⟩ := rfl
@[go_sem] theorem T451 : T.get 451 = ⟨true, .other, false, 1, [.nilFunc]⟩ := rfl
@[go_sem] theorem T452 : T.get 452 = ⟨true, .other, false, 1, [.nilFunc]⟩ := rfl
@[go_sem] theorem T454 : T.get 454 = ⟨true, .other, false, 1, [.nilFunc]⟩ := rfl
@[go_sem] theorem T455 : T.get 455 = ⟨true, .other, false, 1, [.nilFunc]⟩ := rfl
@[go_sem] theorem T456 : T.get 456 = ⟨true, .other, false, 1, [.nilFunc]⟩ := rfl
@[go_sem] theorem T457 : T.get 457 = ⟨true, .other, false, 1, [.pointer none]⟩ := rfl
@[go_sem] theorem T458 : T.get 458 = ⟨true, .other, false, 1, [.pointer none]⟩ := rfl
@[go_sem] theorem T459 : T.get 459 = ⟨true, .other, false, 1, [.nilFunc]⟩ := rfl
@[go_sem] theorem T460 : T.get 460 = ⟨true, (.int .u16), false, 1, [.int .u16 0]⟩ := rfl
@[go_sem] theorem T461 : T.get 461 = ⟨true, (.struct [(0, 1, false), (1, 1, false), (2, 1, false), (3, 1, false), (4, 1, false)]), true, 5, [.int .i32 0, .int .u16 0, .int .u16 0, .int .u32 0, .int .u32 0]⟩ := rfl
@[go_sem] theorem T462 : T.get 462 = ⟨true, (.struct [(0, 1, false), (1, 1, false), (2, 1, false), (3, 1, false), (4, 1, false)]), true, 5, [.int .i32 0, .int .u16 0, .int .u16 0, .int .u32 0, .int .u32 0]⟩ := rfl
@[go_sem] theorem T463 : T.get 463 = ⟨true, (.slice 466 4 16 true [.int .i32 0, .int .i32 0, .int .i32 0, .int .i32 0]), false, 1, [.slice none 0 0]⟩ := rfl
@[go_sem] theorem T464 : T.get 464 = ⟨true, (.int .i32), false, 1, [.int .i32 0]⟩ := rfl
@[go_sem] theorem T465 : T.get 465 = ⟨true, (.struct [(0, 1, false), (1, 1, false), (2, 1, false), (3, 1, false)]), true, 4, [.int .i32 0, .int .i32 0, .int .i32 0, .int .i32 0]⟩ := rfl
@[go_sem] theorem T466 : T.get 466 = ⟨true, (.struct [(0, 1, false), (1, 1, false), (2, 1, false), (3, 1, false)]), true, 4, [.int .i32 0, .int .i32 0, .int .i32 0, .int .i32 0]⟩ := rfl
end Go.Proofs.YtjlnkedmbfdofaaGreat
