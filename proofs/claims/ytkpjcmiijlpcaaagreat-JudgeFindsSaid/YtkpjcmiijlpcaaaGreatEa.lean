/- The table of the program's types, and that it is the program's. -/
import Derived.Test.YtkpjcmiijlpcaaaGreatProg
import Derived.Test.YtkpjcmiijlpcaaaGreatAwY
import Derived.Test.YtkpjcmiijlpcaaaGreatAwW
import Derived.KernelRfl
set_option linter.unusedVariables false
set_option linter.unusedSimpArgs false
namespace Go.Proofs.YtkpjcmiijlpcaaaGreat.W
open Go Go.Proofs Go.Proofs.YtkpjcmiijlpcaaaGreat.Aw
abbrev KI:Ty:=.int .i64
def tab:Tab:=[(0,⟨.unk,0,0,[],none,false⟩),
 (1,⟨.scalar,1,8,[.nilf],none,false⟩),
 (2,⟨.scalar,1,8,[.int .i64 0],some KI,true⟩),
 (3,⟨.scalar,1,8,[.int .i64 0],some KI,true⟩),
 (4,⟨.scalar,1,1,[.bool false],some Ty.bool,true⟩),
 (5,⟨.scalar,1,1,[.int .u8 0],some (Ty.int .u8),true⟩),
 (6,⟨.scalar,1,1,[.int .u8 0],some (Ty.int .u8),true⟩),
 (7,⟨.struct [(0,2),(1,3),(2,4),(3,6)],4,24,[.int .i64 0,.int .i64 0,.bool false,.int .u8 0],some (KI.pair (KI.pair (Ty.bool.pair (Ty.int .u8)))),true⟩),
 (8,⟨.struct [(0,2),(1,3),(2,4),(3,6)],4,24,[.int .i64 0,.int .i64 0,.bool false,.int .u8 0],some (KI.pair (KI.pair (Ty.bool.pair (Ty.int .u8)))),false⟩),
 (9,⟨.scalar,1,16,[.str ⟨#[]⟩],some Ty.str,true⟩),
 (10,⟨.scalar,1,16,[.str ⟨#[]⟩],some Ty.str,true⟩),
 (11,⟨.scalar,1,16,[.str ⟨#[]⟩],some Ty.str,true⟩),
 (12,⟨.scalar,1,8,[.int .u64 0],some (Ty.int .u64),true⟩),
 (13,⟨.struct [(0,9),(1,12)],2,24,[.str ⟨#[]⟩,.int .u64 0],some (Ty.str.pair (Ty.int .u64)),false⟩),
 (14,⟨.struct [(0,9),(1,12)],2,24,[.str ⟨#[]⟩,.int .u64 0],some (Ty.str.pair (Ty.int .u64)),false⟩),
 (15,⟨.scalar,1,8,[.nilp],none,false⟩),
 (16,⟨.scalar,1,8,[.nilp],none,false⟩),
 (17,⟨.scalar,1,8,[.nilp],none,false⟩),
 (18,⟨.struct [(0,17)],1,8,[.nilp],none,false⟩),
 (19,⟨.struct [(0,17)],1,8,[.nilp],none,false⟩),
 (20,⟨.scalar,1,16,[.nili],none,false⟩),
 (21,⟨.scalar,1,4,[.int .i32 0],some (Ty.int .i32),true⟩),
 (22,⟨.slice 80,1,24,[.nils 80 (KI.pair (KI.pair (KI.pair (KI.pair (KI.pair (KI.pair ((KI.pair (KI.pair (KI.pair KI))).pair (KI.pair (KI.pair (KI.pair KI))))))))))],some (Ty.list 80 (KI.pair (KI.pair (KI.pair (KI.pair (KI.pair (KI.pair ((KI.pair (KI.pair (KI.pair KI))).pair (KI.pair (KI.pair (KI.pair KI))))))))))),false⟩),
 (23,⟨.slice 46,1,24,[.nils 46 (KI.pair (KI.pair (KI.pair KI)))],some (Ty.list 46 (KI.pair (KI.pair (KI.pair KI)))),false⟩),
 (24,⟨.slice 48,1,24,[.nils 48 (KI.pair ((KI.pair (KI.pair (KI.pair KI))).pair (KI.pair KI)))],some (Ty.list 48 (KI.pair ((KI.pair (KI.pair (KI.pair KI))).pair (KI.pair KI)))),false⟩),
 (25,⟨.struct [(0,23),(1,24)],2,48,[.nils 46 (KI.pair (KI.pair (KI.pair KI))),.nils 48 (KI.pair ((KI.pair (KI.pair (KI.pair KI))).pair (KI.pair KI)))],some ((Ty.list 46 (KI.pair (KI.pair (KI.pair KI)))).pair (Ty.list 48 (KI.pair ((KI.pair (KI.pair (KI.pair KI))).pair (KI.pair KI))))),false⟩),
 (26,⟨.struct [(0,23),(1,24)],2,48,[.nils 46 (KI.pair (KI.pair (KI.pair KI))),.nils 48 (KI.pair ((KI.pair (KI.pair (KI.pair KI))).pair (KI.pair KI)))],some ((Ty.list 46 (KI.pair (KI.pair (KI.pair KI)))).pair (Ty.list 48 (KI.pair ((KI.pair (KI.pair (KI.pair KI))).pair (KI.pair KI))))),false⟩),
 (27,⟨.scalar,1,8,[.nilp],none,false⟩),
 (28,⟨.scalar,1,8,[.nilf],none,false⟩),
 (29,⟨.scalar,1,8,[.nilf],none,false⟩),
 (30,⟨.slice 40,1,24,[.nils 40 (KI.pair (KI.pair KI))],some (Ty.list 40 (KI.pair (KI.pair KI))),false⟩),
 (31,⟨.scalar,1,8,[.nilf],none,false⟩),
 (32,⟨.slice 57,1,24,[.nils 57 (KI.pair (KI.pair (KI.pair KI)))],some (Ty.list 57 (KI.pair (KI.pair (KI.pair KI)))),false⟩),
 (33,⟨.slice 67,1,24,[.nils 67 (KI.pair ((KI.pair (KI.pair (KI.pair KI))).pair (KI.pair KI)))],some (Ty.list 67 (KI.pair ((KI.pair (KI.pair (KI.pair KI))).pair (KI.pair KI)))),false⟩),
 (34,⟨.struct [(0,32),(1,33)],2,48,[.nils 57 (KI.pair (KI.pair (KI.pair KI))),.nils 67 (KI.pair ((KI.pair (KI.pair (KI.pair KI))).pair (KI.pair KI)))],some ((Ty.list 57 (KI.pair (KI.pair (KI.pair KI)))).pair (Ty.list 67 (KI.pair ((KI.pair (KI.pair (KI.pair KI))).pair (KI.pair KI))))),false⟩),
 (35,⟨.struct [(0,32),(1,33)],2,48,[.nils 57 (KI.pair (KI.pair (KI.pair KI))),.nils 67 (KI.pair ((KI.pair (KI.pair (KI.pair KI))).pair (KI.pair KI)))],some ((Ty.list 57 (KI.pair (KI.pair (KI.pair KI)))).pair (Ty.list 67 (KI.pair ((KI.pair (KI.pair (KI.pair KI))).pair (KI.pair KI))))),false⟩),
 (36,⟨.scalar,1,8,[.nilf],none,false⟩),
 (37,⟨.slice 41,1,24,[.nils 41 (KI.pair (KI.pair KI))],some (Ty.list 41 (KI.pair (KI.pair KI))),false⟩),
 (38,⟨.scalar,1,8,[.nilf],none,false⟩),
 (39,⟨.struct [(0,3),(1,3),(2,3)],3,24,[.int .i64 0,.int .i64 0,.int .i64 0],some (KI.pair (KI.pair KI)),true⟩),
 (40,⟨.struct [(0,3),(1,3),(2,3)],3,24,[.int .i64 0,.int .i64 0,.int .i64 0],some (KI.pair (KI.pair KI)),true⟩),
 (41,⟨.struct [(0,3),(1,3),(2,3)],3,24,[.int .i64 0,.int .i64 0,.int .i64 0],some (KI.pair (KI.pair KI)),true⟩),
 (42,⟨.scalar,1,8,[.nilf],none,false⟩),
 (43,⟨.unk,0,0,[],none,false⟩),
 (44,⟨.scalar,1,8,[.nilf],none,false⟩),
 (45,⟨.array 4 3,4,32,[.int .i64 0,.int .i64 0,.int .i64 0,.int .i64 0],some (KI.pair (KI.pair (KI.pair KI))),true⟩),
 (46,⟨.array 4 3,4,32,[.int .i64 0,.int .i64 0,.int .i64 0,.int .i64 0],some (KI.pair (KI.pair (KI.pair KI))),true⟩),
 (47,⟨.struct [(0,3),(1,46),(5,3),(6,3)],7,56,[.int .i64 0,.int .i64 0,.int .i64 0,.int .i64 0,.int .i64 0,.int .i64 0,.int .i64 0],some (KI.pair ((KI.pair (KI.pair (KI.pair KI))).pair (KI.pair KI))),true⟩),
 (48,⟨.struct [(0,3),(1,46),(5,3),(6,3)],7,56,[.int .i64 0,.int .i64 0,.int .i64 0,.int .i64 0,.int .i64 0,.int .i64 0,.int .i64 0],some (KI.pair ((KI.pair (KI.pair (KI.pair KI))).pair (KI.pair KI))),true⟩),
 (49,⟨.scalar,1,8,[.nilf],none,false⟩),
 (50,⟨.scalar,1,8,[.int .i64 0],some KI,true⟩),
 (51,⟨.unk,0,0,[],none,false⟩),
 (52,⟨.scalar,1,8,[.nilf],none,false⟩),
 (53,⟨.struct [(0,3),(1,3),(2,3),(3,3),(4,3),(5,3),(6,45),(10,45)],14,112,[.int .i64 0,.int .i64 0,.int .i64 0,.int .i64 0,.int .i64 0,.int .i64 0,.int .i64 0,.int .i64 0,.int .i64 0,.int .i64 0,.int .i64 0,.int .i64 0,.int .i64 0,.int .i64 0],some (KI.pair (KI.pair (KI.pair (KI.pair (KI.pair (KI.pair ((KI.pair (KI.pair (KI.pair KI))).pair (KI.pair (KI.pair (KI.pair KI)))))))))),true⟩),
 (54,⟨.struct [(0,3),(1,3),(2,3),(3,3),(4,3),(5,3),(6,45),(10,45)],14,112,[.int .i64 0,.int .i64 0,.int .i64 0,.int .i64 0,.int .i64 0,.int .i64 0,.int .i64 0,.int .i64 0,.int .i64 0,.int .i64 0,.int .i64 0,.int .i64 0,.int .i64 0,.int .i64 0],some (KI.pair (KI.pair (KI.pair (KI.pair (KI.pair (KI.pair ((KI.pair (KI.pair (KI.pair KI))).pair (KI.pair (KI.pair (KI.pair KI)))))))))),true⟩),
 (55,⟨.slice 54,1,24,[.nils 54 (KI.pair (KI.pair (KI.pair (KI.pair (KI.pair (KI.pair ((KI.pair (KI.pair (KI.pair KI))).pair (KI.pair (KI.pair (KI.pair KI))))))))))],some (Ty.list 54 (KI.pair (KI.pair (KI.pair (KI.pair (KI.pair (KI.pair ((KI.pair (KI.pair (KI.pair KI))).pair (KI.pair (KI.pair (KI.pair KI))))))))))),false⟩),
 (56,⟨.struct [(0,3),(1,3),(2,3),(3,3)],4,32,[.int .i64 0,.int .i64 0,.int .i64 0,.int .i64 0],some (KI.pair (KI.pair (KI.pair KI))),true⟩),
 (57,⟨.struct [(0,3),(1,3),(2,3),(3,3)],4,32,[.int .i64 0,.int .i64 0,.int .i64 0,.int .i64 0],some (KI.pair (KI.pair (KI.pair KI))),true⟩),
 (58,⟨.scalar,1,8,[.nilf],none,false⟩),
 (59,⟨.scalar,1,8,[.nilp],none,false⟩),
 (60,⟨.struct [(0,27),(1,35),(3,30)],4,80,[.nilp,.nils 57 (KI.pair (KI.pair (KI.pair KI))),.nils 67 (KI.pair ((KI.pair (KI.pair (KI.pair KI))).pair (KI.pair KI))),.nils 40 (KI.pair (KI.pair KI))],none,false⟩),
 (61,⟨.struct [(0,27),(1,35),(3,30)],4,80,[.nilp,.nils 57 (KI.pair (KI.pair (KI.pair KI))),.nils 67 (KI.pair ((KI.pair (KI.pair (KI.pair KI))).pair (KI.pair KI))),.nils 40 (KI.pair (KI.pair KI))],none,false⟩),
 (62,⟨.scalar,1,8,[.nilf],none,false⟩),
 (63,⟨.scalar,1,8,[.nilf],none,false⟩),
 (64,⟨.scalar,1,8,[.nilf],none,false⟩),
 (65,⟨.scalar,1,8,[.nilf],none,false⟩),
 (66,⟨.struct [(0,3),(1,57),(5,3),(6,3)],7,56,[.int .i64 0,.int .i64 0,.int .i64 0,.int .i64 0,.int .i64 0,.int .i64 0,.int .i64 0],some (KI.pair ((KI.pair (KI.pair (KI.pair KI))).pair (KI.pair KI))),true⟩),
 (67,⟨.struct [(0,3),(1,57),(5,3),(6,3)],7,56,[.int .i64 0,.int .i64 0,.int .i64 0,.int .i64 0,.int .i64 0,.int .i64 0,.int .i64 0],some (KI.pair ((KI.pair (KI.pair (KI.pair KI))).pair (KI.pair KI))),true⟩),
 (68,⟨.scalar,1,8,[.nilf],none,false⟩),
 (69,⟨.scalar,1,8,[.nilf],none,false⟩),
 (70,⟨.scalar,1,8,[.nilf],none,false⟩),
 (71,⟨.scalar,1,8,[.nilf],none,false⟩),
 (72,⟨.scalar,1,8,[.nilf],none,false⟩),
 (73,⟨.scalar,1,8,[.nilf],none,false⟩),
 (74,⟨.scalar,1,8,[.nilf],none,false⟩),
 (75,⟨.scalar,1,8,[.nilf],none,false⟩),
 (76,⟨.scalar,1,8,[.nilf],none,false⟩),
 (77,⟨.scalar,1,8,[.nilf],none,false⟩),
 (78,⟨.scalar,1,8,[.nilf],none,false⟩),
 (79,⟨.scalar,1,8,[.nilf],none,false⟩),
 (80,⟨.struct [(0,3),(1,3),(2,3),(3,3),(4,3),(5,3),(6,45),(10,45)],14,112,[.int .i64 0,.int .i64 0,.int .i64 0,.int .i64 0,.int .i64 0,.int .i64 0,.int .i64 0,.int .i64 0,.int .i64 0,.int .i64 0,.int .i64 0,.int .i64 0,.int .i64 0,.int .i64 0],some (KI.pair (KI.pair (KI.pair (KI.pair (KI.pair (KI.pair ((KI.pair (KI.pair (KI.pair KI))).pair (KI.pair (KI.pair (KI.pair KI)))))))))),true⟩),
 (81,⟨.scalar,1,8,[.nilf],none,false⟩),
 (82,⟨.scalar,1,8,[.nilf],none,false⟩),
 (83,⟨.scalar,1,8,[.nilf],none,false⟩),
 (84,⟨.scalar,1,8,[.nilf],none,false⟩),
 (85,⟨.scalar,1,8,[.nilf],none,false⟩),
 (86,⟨.slice 92,1,24,[.nils 92 ((KI.pair (KI.pair (KI.pair (KI.pair (KI.pair (KI.pair ((KI.pair (KI.pair (KI.pair KI))).pair (KI.pair (KI.pair (KI.pair KI)))))))))).pair (KI.pair (KI.pair (KI.pair (Ty.list 3 KI)))))],some (Ty.list 92 ((KI.pair (KI.pair (KI.pair (KI.pair (KI.pair (KI.pair ((KI.pair (KI.pair (KI.pair KI))).pair (KI.pair (KI.pair (KI.pair KI)))))))))).pair (KI.pair (KI.pair (KI.pair (Ty.list 3 KI)))))),false⟩),
 (87,⟨.struct [(0,86)],1,24,[.nils 92 ((KI.pair (KI.pair (KI.pair (KI.pair (KI.pair (KI.pair ((KI.pair (KI.pair (KI.pair KI))).pair (KI.pair (KI.pair (KI.pair KI)))))))))).pair (KI.pair (KI.pair (KI.pair (Ty.list 3 KI)))))],some (Ty.list 92 ((KI.pair (KI.pair (KI.pair (KI.pair (KI.pair (KI.pair ((KI.pair (KI.pair (KI.pair KI))).pair (KI.pair (KI.pair (KI.pair KI)))))))))).pair (KI.pair (KI.pair (KI.pair (Ty.list 3 KI)))))),false⟩),
 (88,⟨.struct [(0,86)],1,24,[.nils 92 ((KI.pair (KI.pair (KI.pair (KI.pair (KI.pair (KI.pair ((KI.pair (KI.pair (KI.pair KI))).pair (KI.pair (KI.pair (KI.pair KI)))))))))).pair (KI.pair (KI.pair (KI.pair (Ty.list 3 KI)))))],some (Ty.list 92 ((KI.pair (KI.pair (KI.pair (KI.pair (KI.pair (KI.pair ((KI.pair (KI.pair (KI.pair KI))).pair (KI.pair (KI.pair (KI.pair KI)))))))))).pair (KI.pair (KI.pair (KI.pair (Ty.list 3 KI)))))),false⟩),
 (89,⟨.slice 3,1,24,[.nils 3 KI],some (Ty.list 3 KI),false⟩),
 (90,⟨.scalar,1,8,[.nilf],none,false⟩),
 (91,⟨.struct [(0,54),(14,3),(15,3),(16,3),(17,89)],18,160,[.int .i64 0,.int .i64 0,.int .i64 0,.int .i64 0,.int .i64 0,.int .i64 0,.int .i64 0,.int .i64 0,.int .i64 0,.int .i64 0,.int .i64 0,.int .i64 0,.int .i64 0,.int .i64 0,.int .i64 0,.int .i64 0,.int .i64 0,.nils 3 KI],some ((KI.pair (KI.pair (KI.pair (KI.pair (KI.pair (KI.pair ((KI.pair (KI.pair (KI.pair KI))).pair (KI.pair (KI.pair (KI.pair KI)))))))))).pair (KI.pair (KI.pair (KI.pair (Ty.list 3 KI))))),false⟩),
 (92,⟨.struct [(0,54),(14,3),(15,3),(16,3),(17,89)],18,160,[.int .i64 0,.int .i64 0,.int .i64 0,.int .i64 0,.int .i64 0,.int .i64 0,.int .i64 0,.int .i64 0,.int .i64 0,.int .i64 0,.int .i64 0,.int .i64 0,.int .i64 0,.int .i64 0,.int .i64 0,.int .i64 0,.int .i64 0,.nils 3 KI],some ((KI.pair (KI.pair (KI.pair (KI.pair (KI.pair (KI.pair ((KI.pair (KI.pair (KI.pair KI))).pair (KI.pair (KI.pair (KI.pair KI)))))))))).pair (KI.pair (KI.pair (KI.pair (Ty.list 3 KI))))),false⟩),
 (93,⟨.scalar,1,8,[.nilf],none,false⟩),
 (94,⟨.scalar,1,8,[.nilf],none,false⟩),
 (95,⟨.struct [(0,3),(1,3)],2,16,[.int .i64 0,.int .i64 0],some (KI.pair KI),true⟩),
 (96,⟨.struct [(0,3),(1,3)],2,16,[.int .i64 0,.int .i64 0],some (KI.pair KI),true⟩),
 (97,⟨.scalar,1,8,[.nilf],none,false⟩),
 (98,⟨.scalar,1,8,[.nilf],none,false⟩),
 (99,⟨.scalar,1,8,[.nilf],none,false⟩),
 (100,⟨.scalar,1,8,[.nilf],none,false⟩),
 (101,⟨.scalar,1,8,[.nilf],none,false⟩),
 (102,⟨.scalar,1,8,[.nilf],none,false⟩),
 (103,⟨.scalar,1,8,[.nilf],none,false⟩),
 (104,⟨.scalar,1,8,[.int .u64 0],some (Ty.int .u64),true⟩),
 (105,⟨.scalar,1,8,[.nilf],none,false⟩),
 (106,⟨.scalar,1,8,[.nilf],none,false⟩),
 (107,⟨.scalar,1,8,[.nilf],none,false⟩),
 (108,⟨.scalar,1,8,[.nilf],none,false⟩),
 (109,⟨.scalar,1,8,[.nilf],none,false⟩),
 (110,⟨.slice 9,1,24,[.nils 9 Ty.str],some (Ty.list 9 Ty.str),false⟩),
 (111,⟨.scalar,1,8,[.nilf],none,false⟩),
 (112,⟨.scalar,1,8,[.nilf],none,false⟩),
 (113,⟨.scalar,1,8,[.nilf],none,false⟩),
 (114,⟨.scalar,1,8,[.nilf],none,false⟩),
 (115,⟨.scalar,1,8,[.nilf],none,false⟩),
 (116,⟨.scalar,1,8,[.nilf],none,false⟩),
 (117,⟨.scalar,1,8,[.nilf],none,false⟩),
 (118,⟨.scalar,1,8,[.nilf],none,false⟩),
 (119,⟨.scalar,1,8,[.nilf],none,false⟩),
 (120,⟨.scalar,1,8,[.int .i64 0],some KI,true⟩),
 (121,⟨.unk,0,0,[],none,false⟩),
 (122,⟨.scalar,1,8,[.nilf],none,false⟩),
 (123,⟨.scalar,1,8,[.nilf],none,false⟩),
 (124,⟨.scalar,1,8,[.nilf],none,false⟩),
 (125,⟨.unk,0,0,[],none,false⟩),
 (126,⟨.scalar,1,8,[.nilf],none,false⟩),
 (127,⟨.scalar,1,8,[.nilf],none,false⟩),
 (128,⟨.scalar,1,4,[.int .u32 0],some (Ty.int .u32),true⟩),
 (129,⟨.scalar,1,8,[.nilf],none,false⟩),
 (130,⟨.scalar,1,8,[.int .u64 0],some (Ty.int .u64),true⟩),
 (131,⟨.scalar,1,8,[.nilf],none,false⟩),
 (132,⟨.slice 136,1,24,[.nil0],none,false⟩),
 (133,⟨.scalar,1,8,[.nilf],none,false⟩),
 (134,⟨.scalar,1,8,[.nilf],none,false⟩),
 (135,⟨.struct [(0,50),(1,134)],2,16,[.int .i64 0,.nilf],none,false⟩),
 (136,⟨.struct [(0,50),(1,134)],2,16,[.int .i64 0,.nilf],none,false⟩),
 (137,⟨.scalar,1,8,[.nilf],none,false⟩),
 (138,⟨.scalar,1,8,[.nilf],none,false⟩),
 (139,⟨.scalar,1,8,[.nilf],none,false⟩),
 (140,⟨.scalar,1,8,[.nilf],none,false⟩),
 (141,⟨.struct [(0,3),(1,4)],2,16,[.int .i64 0,.bool false],some (KI.pair Ty.bool),true⟩),
 (142,⟨.struct [(0,3),(1,4)],2,16,[.int .i64 0,.bool false],some (KI.pair Ty.bool),true⟩),
 (143,⟨.scalar,1,8,[.nilf],none,false⟩),
 (144,⟨.scalar,1,8,[.nilf],none,false⟩),
 (145,⟨.scalar,1,8,[.nilf],none,false⟩),
 (146,⟨.scalar,1,8,[.nilf],none,false⟩),
 (147,⟨.scalar,1,8,[.int .u64 0],some (Ty.int .u64),true⟩),
 (148,⟨.scalar,1,8,[.nilf],none,false⟩),
 (149,⟨.scalar,1,8,[.nilf],none,false⟩),
 (150,⟨.scalar,1,8,[.nilf],none,false⟩),
 (151,⟨.scalar,1,8,[.nilp],none,false⟩),
 (152,⟨.scalar,1,8,[.nilf],none,false⟩),
 (153,⟨.scalar,1,8,[.nilf],none,false⟩),
 (154,⟨.scalar,1,8,[.nilf],none,false⟩),
 (155,⟨.scalar,1,8,[.nilf],none,false⟩),
 (156,⟨.scalar,1,8,[.nilf],none,false⟩),
 (157,⟨.scalar,1,8,[.nilf],none,false⟩),
 (158,⟨.scalar,1,8,[.nilp],none,false⟩),
 (159,⟨.scalar,1,8,[.nilf],none,false⟩),
 (160,⟨.scalar,1,8,[.nilf],none,false⟩),
 (161,⟨.scalar,1,8,[.nilp],none,false⟩),
 (162,⟨.slice 142,1,24,[.nils 142 (KI.pair Ty.bool)],some (Ty.list 142 (KI.pair Ty.bool)),false⟩),
 (163,⟨.struct [(0,27),(1,162),(2,101)],3,40,[.nilp,.nils 142 (KI.pair Ty.bool),.nilf],none,false⟩),
 (164,⟨.struct [(0,27),(1,162),(2,101)],3,40,[.nilp,.nils 142 (KI.pair Ty.bool),.nilf],none,false⟩),
 (165,⟨.scalar,1,8,[.nilf],none,false⟩),
 (166,⟨.scalar,1,8,[.nilf],none,false⟩),
 (167,⟨.scalar,1,8,[.nilf],none,false⟩),
 (168,⟨.scalar,1,8,[.nilf],none,false⟩),
 (169,⟨.scalar,1,8,[.nilf],none,false⟩),
 (170,⟨.struct [(0,17),(1,17),(2,17),(3,9)],4,40,[.nilp,.nilp,.nilp,.str ⟨#[]⟩],none,false⟩),
 (171,⟨.struct [(0,17),(1,17),(2,17),(3,9)],4,40,[.nilp,.nilp,.nilp,.str ⟨#[]⟩],none,false⟩),
 (172,⟨.array 0 16,0,0,[],none,false⟩),
 (173,⟨.struct [(0,172)],0,0,[],none,false⟩),
 (174,⟨.struct [(0,172)],0,0,[],none,false⟩),
 (175,⟨.scalar,1,1,[.int .u8 0],some (Ty.int .u8),true⟩),
 (176,⟨.scalar,1,1,[.int .u8 0],some (Ty.int .u8),true⟩),
 (177,⟨.scalar,1,8,[.nilf],none,false⟩),
 (178,⟨.scalar,1,8,[.nilp],none,false⟩),
 (179,⟨.scalar,1,4,[.int .i32 0],some (Ty.int .i32),true⟩),
 (180,⟨.scalar,1,4,[.int .i32 0],some (Ty.int .i32),true⟩),
 (181,⟨.struct [(0,12),(1,12),(2,128),(3,175),(4,5),(5,5),(6,176),(7,177),(8,178),(9,179),(10,180)],11,48,[.int .u64 0,.int .u64 0,.int .u32 0,.int .u8 0,.int .u8 0,.int .u8 0,.int .u8 0,.nilf,.nilp,.int .i32 0,.int .i32 0],none,false⟩),
 (182,⟨.struct [(0,12),(1,12),(2,128),(3,175),(4,5),(5,5),(6,176),(7,177),(8,178),(9,179),(10,180)],11,48,[.int .u64 0,.int .u64 0,.int .u32 0,.int .u8 0,.int .u8 0,.int .u8 0,.int .u8 0,.nilf,.nilp,.int .i32 0,.int .i32 0],none,false⟩),
 (183,⟨.scalar,1,8,[.nilf],none,false⟩),
 (184,⟨.unk,0,0,[],none,false⟩),
 (185,⟨.unk,0,0,[],none,false⟩),
 (186,⟨.unk,0,0,[],none,false⟩)]
theorem tab_eq:tab=tabOf Tryz.prog (List.range 187):=by kernel_rfl
theorem tab_ok:TabOk Tryz.prog tab:=by rw[tab_eq];exact tabOf_ok _ _
theorem mixed:Tryz.prog.follows .mixedOrders=true:=by kernel_rfl
end Go.Proofs.YtkpjcmiijlpcaaaGreat.W
namespace Go.Proofs.YtkpjcmiijlpcaaaGreat.Aw
open Go
theorem cond_no {c:Bool} {X Y:Prop} (h:c=false) (hy:Y):bif c then X else Y:=by rw[h];exact hy
theorem cond_split {c:Bool} {X Y:Prop} (hx:c=true→X) (hy:c=false→Y):bif c then X else Y:=by
 cases c with
 | true=>exact hx rfl
 | false=>exact hy rfl
theorem dec_yes {p:Prop} [Decidable p] {X Y:Prop} (h:p) (hx:X):bif decide p then X else Y:=by rw[decide_eq_true h];exact hx
theorem dec_no {p:Prop} [Decidable p] {X Y:Prop} (h:¬p) (hy:Y):bif decide p then X else Y:=by rw[decide_eq_false h];exact hy
theorem dec_split {p:Prop} [Decidable p] {X Y:Prop} (hx:p→X) (hy:¬p→Y):bif decide p then X else Y:=by
 by_cases h:p
 · exact dec_yes h (hx h)
 · exact dec_no h (hy h)
theorem ndec_split {p:Prop} [Decidable p] {X Y:Prop} (hx:¬p→X) (hy:p→Y):bif !decide p then X else Y:=by
 by_cases h:p
 · rw[decide_eq_true h];exact hy h
 · rw[decide_eq_false h];exact hx h
theorem wrap_id (x:Int) (h : -9223372036854775808≤x∧x≤9223372036854775807):IntKind.wrap .i64 x=x:=by
 simp[IntKind.wrap,IntKind.signed,IntKind.bits]
 omega
theorem wrap_next (i:Nat) (n:Nat) (h:i<n) (hn:n≤maxLen):IntKind.wrap .i64 ((i:Int)+1)=((i+1:Nat):Int):=by
 simp only[maxLen] at hn
 rw[wrap_id _ (by omega)]
 omega
theorem getD_nat {α:Type} (xs:List α) (d:α) (i:Nat) (h:i<xs.length):xs.getD ((i:Int).toNat) d=xs[i]:=by
 simp[List.getD,h]
theorem getD_nat' {α:Type} (xs:List α) (d:α) (i:Nat) (h:i<xs.length):xs.getD i d=xs[i]:=by
 simp[List.getD,h]
theorem take_next {α:Type} (xs:List α) (i:Nat) (h:i<xs.length):xs.take (i+1)=xs.take i++[xs[i]]:=List.take_succ_eq_append_getElem h
theorem take_all {α:Type} (xs:List α) (i:Nat) (h:¬i<xs.length):xs.take i=xs:=List.take_of_length_le (by omega)
theorem i64_of (n:Int) (h:(Lit.int .i64 n).wf=true) : -9223372036854775808≤n∧n≤9223372036854775807:=by
 simp[Lit.wf,IntKind.min,IntKind.max,IntKind.signed,IntKind.bits] at h
 omega
end Go.Proofs.YtkpjcmiijlpcaaaGreat.Aw
set_option linter.unusedVariables false
set_option linter.unusedSimpArgs false
namespace Go.Proofs.YtkpjcmiijlpcaaaGreat.W
open Go Go.Proofs Go.Proofs.YtkpjcmiijlpcaaaGreat.Aw
abbrev T4:Ty:=.pair (.int .i64) (.pair (.int .i64) (.pair (.int .i64) (.int .i64)))
abbrev TB:Ty:=.pair (.int .i64) (.pair (.int .i64) (.pair (.int .i64) (.pair (.int .i64) (.pair (.int .i64) (.pair (.int .i64) (.pair T4 T4))))))
abbrev Rc4:=Int×Int×Int×Int
abbrev Bx:=Int×Int×Int×Int×Int×Int×Rc4×Rc4
theorem take_nextB (xs:List Bx) (k:Nat) (h:k<xs.length):xs.take (k+1)=xs.take k++[xs.getD (k:Int).toNat (0,0,0,0,0,0,(0,0,0,0),0,0,0,0)]:=by
 rw[getD_nat xs _ k h,take_next xs k h]
def consS0:Cons:=[]
def twosS0:Cons2:=[]
def pansS0:Cons3:=[]
def itersS0:Cons4:=[]
abbrev eS0:Env:=envOf4 consS0 twosS0 pansS0 itersS0
theorem allconsS0:∀c∈consS0,ConOk Tryz.prog c:=all_nil
theorem alltwosS0:∀c∈twosS0,ConOk2 Tryz.prog c:=all_nil
theorem allpansS0:∀c∈pansS0,ConOk3 Tryz.prog c:=all_nil
theorem allitersS0:∀c∈itersS0,ConOk4 Tryz.prog c:=all_nil
theorem envS0:EnvOk Tryz.prog eS0:=envOf4_ok _ _ _ _ allconsS0 alltwosS0 allpansS0 allitersS0
def con55:List AV→Option Tells
 | [.agg (.cons (.int .i64 a1) (.cons (.int .i64 a2) (.cons (.int .i64 a3) (.cons (.int .i64 a4) (.cons (.int .i64 a5) (.cons (.int .i64 a6) (.cons (.int .i64 a7) (.cons (.int .i64 a8) (.cons (.int .i64 a9) (.cons (.int .i64 a10) (.cons (.int .i64 a11) (.cons (.int .i64 a12) (.cons (.int .i64 a13) (.cons (.int .i64 a14) .nl))))))))))))))]=>some ⟨[],((AV.int .i64 a1).cons ((AV.int .i64 a2).cons ((AV.int .i64 a3).cons ((AV.int .i64 a4).cons ((AV.int .i64 a5).cons ((AV.int .i64 a6).cons ((AV.int .i64 a7).cons ((AV.int .i64 a8).cons ((AV.int .i64 a9).cons ((AV.int .i64 a10).cons ((AV.int .i64 a11).cons ((AV.int .i64 a12).cons ((AV.int .i64 a13).cons ((AV.int .i64 a14).cons AV.nl)))))))))))))).agg,[]⟩
 | _=>none
theorem f55_run (R:AV→List Ob→Prop) (a1 a2 a3 a4 a5 a6 a7 a8 a9 a10 a11 a12 a13 a14:Int):fnA tab eS0 Tryz.f55 (bodyOf Tryz.f55) [.agg (.cons (.int .i64 a1) (.cons (.int .i64 a2) (.cons (.int .i64 a3) (.cons (.int .i64 a4) (.cons (.int .i64 a5) (.cons (.int .i64 a6) (.cons (.int .i64 a7) (.cons (.int .i64 a8) (.cons (.int .i64 a9) (.cons (.int .i64 a10) (.cons (.int .i64 a11) (.cons (.int .i64 a12) (.cons (.int .i64 a13) (.cons (.int .i64 a14) .nl))))))))))))))] R=(R ((AV.int .i64 a1).cons ((AV.int .i64 a2).cons ((AV.int .i64 a3).cons ((AV.int .i64 a4).cons ((AV.int .i64 a5).cons ((AV.int .i64 a6).cons ((AV.int .i64 a7).cons ((AV.int .i64 a8).cons ((AV.int .i64 a9).cons ((AV.int .i64 a10).cons ((AV.int .i64 a11).cons ((AV.int .i64 a12).cons ((AV.int .i64 a13).cons ((AV.int .i64 a14).cons AV.nl)))))))))))))).agg []):=by kernel_rfl
theorem ok55:ConOk Tryz.prog (55,con55):=by
 intro args t h hp
 simp only[con55] at h
 split at h
 · cases h
   refine fn_ok envS0 tab_ok mixed Tryz.func55 (by kernel_rfl) (by kernel_rfl) ?_
   rw[f55_run]
   exact⟨rfl,rfl⟩
 · cases h
def consS1:Cons:=(55,con55)::consS0
def twosS1:Cons2:=twosS0
def pansS1:Cons3:=pansS0
def itersS1:Cons4:=itersS0
abbrev eS1:Env:=envOf4 consS1 twosS1 pansS1 itersS1
theorem allconsS1:∀c∈consS1,ConOk Tryz.prog c:=all_cons ok55 allconsS0
theorem alltwosS1:∀c∈twosS1,ConOk2 Tryz.prog c:=alltwosS0
theorem allpansS1:∀c∈pansS1,ConOk3 Tryz.prog c:=allpansS0
theorem allitersS1:∀c∈itersS1,ConOk4 Tryz.prog c:=allitersS0
theorem envS1:EnvOk Tryz.prog eS1:=envOf4_ok _ _ _ _ allconsS1 alltwosS1 allpansS1 allitersS1
def con34:List AV→Option Tells
 | [.list 80 (.pair (.int .i64) (.pair (.int .i64) (.pair (.int .i64) (.pair (.int .i64) (.pair (.int .i64) (.pair (.int .i64) (.pair (.pair (.int .i64) (.pair (.int .i64) (.pair (.int .i64) (.int .i64)))) (.pair (.int .i64) (.pair (.int .i64) (.pair (.int .i64) (.int .i64))))))))))) xs]=>some ⟨[xs.length≤4096],.row 0,[.row 54 TB xs]⟩
 | _=>none
def f34_live1:List Nat:=[8,7,6,8,3,8,3,2]
def f34_head1 (xs:List TB.den) (s8:Int) (o1:List (Int×Int×Int×Int×Int×Int×(Int×Int×Int×Int)×Int×Int×Int×Int)):St:={slots:=[AV.undef,AV.undef,AV.row 0,AV.row 1,AV.undef,AV.undef,AV.list 80 (KI.pair (KI.pair (KI.pair (KI.pair (KI.pair (KI.pair ((KI.pair (KI.pair (KI.pair KI))).pair (KI.pair (KI.pair (KI.pair KI)))))))))) xs,AV.int .i64 (↑xs.length:Int),AV.int .i64 s8]++List.replicate 10 AV.undef,obs:=[Ob.row 54 (KI.pair (KI.pair (KI.pair (KI.pair (KI.pair (KI.pair ((KI.pair (KI.pair (KI.pair KI))).pair (KI.pair (KI.pair (KI.pair KI)))))))))) [],Ob.row 54 (KI.pair (KI.pair (KI.pair (KI.pair (KI.pair (KI.pair ((KI.pair (KI.pair (KI.pair KI))).pair (KI.pair (KI.pair (KI.pair KI)))))))))) o1]}
def f34_q1 (R:AV→List Ob→Prop):Ex→St→Prop:=blockA 0 (seqQ tab eS1 (subC [1,1,1] (bodyOf Tryz.f34)) [2] (endA tab Tryz.f34 R))
def f34_loop1 (R:AV→List Ob→Prop) (xs:List TB.den) (s8:Int) (o1:List (Int×Int×Int×Int×Int×Int×(Int×Int×Int×Int)×Int×Int×Int×Int)):Prop:=loopT f34_live1 (codeA tab eS1 (subC [1,1,0,1,0,0] (bodyOf Tryz.f34)) f34_live1) (f34_head1 xs s8 o1) (f34_q1 R)
set_option maxHeartbeats 2000000 in
def f34_rhs1 (R:AV→List Ob→Prop) (xs:List TB.den) (J:St→Prop) (s8:Int) (o1:List (Int×Int×Int×Int×Int×Int×(Int×Int×Int×Int)×Int×Int×Int×Int)):Prop:=bif decide (s8<(↑xs.length:Int)) then 0≤s8∧s8<(↑xs.length:Int)∧(o1.length+1)*112≤140737488355328∧J (f34_head1 xs (IntKind.i64.wrap (s8+1)) (o1++[((xs.getD s8.toNat (0,0,0,0,0,0,(0,0,0,0),0,0,0,0)).fst,(xs.getD s8.toNat (0,0,0,0,0,0,(0,0,0,0),0,0,0,0)).snd.fst,(xs.getD s8.toNat (0,0,0,0,0,0,(0,0,0,0),0,0,0,0)).snd.snd.fst,(xs.getD s8.toNat (0,0,0,0,0,0,(0,0,0,0),0,0,0,0)).snd.snd.snd.fst,(xs.getD s8.toNat (0,0,0,0,0,0,(0,0,0,0),0,0,0,0)).snd.snd.snd.snd.fst,(xs.getD s8.toNat (0,0,0,0,0,0,(0,0,0,0),0,0,0,0)).snd.snd.snd.snd.snd.fst,((xs.getD s8.toNat (0,0,0,0,0,0,(0,0,0,0),0,0,0,0)).snd.snd.snd.snd.snd.snd.fst.fst,(xs.getD s8.toNat (0,0,0,0,0,0,(0,0,0,0),0,0,0,0)).snd.snd.snd.snd.snd.snd.fst.snd.fst,(xs.getD s8.toNat (0,0,0,0,0,0,(0,0,0,0),0,0,0,0)).snd.snd.snd.snd.snd.snd.fst.snd.snd.fst,(xs.getD s8.toNat (0,0,0,0,0,0,(0,0,0,0),0,0,0,0)).snd.snd.snd.snd.snd.snd.fst.snd.snd.snd),(xs.getD s8.toNat (0,0,0,0,0,0,(0,0,0,0),0,0,0,0)).snd.snd.snd.snd.snd.snd.snd.fst,(xs.getD s8.toNat (0,0,0,0,0,0,(0,0,0,0),0,0,0,0)).snd.snd.snd.snd.snd.snd.snd.snd.fst,(xs.getD s8.toNat (0,0,0,0,0,0,(0,0,0,0),0,0,0,0)).snd.snd.snd.snd.snd.snd.snd.snd.snd.fst,(xs.getD s8.toNat (0,0,0,0,0,0,(0,0,0,0),0,0,0,0)).snd.snd.snd.snd.snd.snd.snd.snd.snd.snd)])) else R (AV.row 0) [Ob.row 54 (KI.pair (KI.pair (KI.pair (KI.pair (KI.pair (KI.pair ((KI.pair (KI.pair (KI.pair KI))).pair (KI.pair (KI.pair (KI.pair KI)))))))))) o1]
theorem f34_eq1 (R:AV→List Ob→Prop) (xs:List TB.den) (J:St→Prop) (s8:Int) (o1:List (Int×Int×Int×Int×Int×Int×(Int×Int×Int×Int)×Int×Int×Int×Int)):codeA tab eS1 (subC [1,1,0,1,0,0] (bodyOf Tryz.f34)) f34_live1 (f34_head1 xs s8 o1) (thenA (fun s=>J (St.tidy f34_live1 s)) (f34_q1 R))=f34_rhs1 R xs J s8 o1:=by kernel_rfl
set_option maxHeartbeats 2000000 in
theorem f34_rule1 (R:AV→List Ob→Prop) (xs:List TB.den) (I:Nat→(Int)→(List (Int×Int×Int×Int×Int×Int×(Int×Int×Int×Int)×Int×Int×Int×Int))→Prop) (n:Nat) (s8:Int) (o1:List (Int×Int×Int×Int×Int×Int×(Int×Int×Int×Int)×Int×Int×Int×Int)) (h0:I n s8 o1) (h:∀n,∀(s8:Int) (o1:List (Int×Int×Int×Int×Int×Int×(Int×Int×Int×Int)×Int×Int×Int×Int)),I n s8 o1→f34_rhs1 R xs (fun t=>∃m,m<n∧∃(s8:Int) (o1:List (Int×Int×Int×Int×Int×Int×(Int×Int×Int×Int)×Int×Int×Int×Int)),t=f34_head1 xs s8 o1∧I m s8 o1) s8 o1):f34_loop1 R xs s8 o1:=
 loop_intro (fun n t=>∃(s8:Int) (o1:List (Int×Int×Int×Int×Int×Int×(Int×Int×Int×Int)×Int×Int×Int×Int)),t=f34_head1 xs s8 o1∧I n s8 o1) n ⟨s8,o1,rfl,h0⟩ (fun n t ht=>by obtain⟨s8,o1,rfl,hI⟩:=ht;exact Eq.mpr (f34_eq1 R xs (fun t=>∃m,m<n∧∃(s8:Int) (o1:List (Int×Int×Int×Int×Int×Int×(Int×Int×Int×Int)×Int×Int×Int×Int)),t=f34_head1 xs s8 o1∧I m s8 o1) s8 o1) (h n s8 o1 hI))
theorem f34_run (R:AV→List Ob→Prop) (xs:List TB.den):fnA tab eS1 Tryz.f34 (bodyOf Tryz.f34) [.list 80 TB xs] R=(f34_loop1 R xs 0 []):=by kernel_rfl
theorem ok34:ConOk Tryz.prog (34,con34):=by
 intro args t h hp
 change con34 args=some t at h
 unfold con34 at h
 split at h
 · rename_i xs
   change List TB.den at xs
   cases h
   refine fn_ok envS1 tab_ok mixed Tryz.func34 (by kernel_rfl) (by kernel_rfl) ?_
   rw[f34_run]
   try dsimp only
   have hx:=hp (xs.length≤4096) (by simp)
   refine f34_rule1 _ xs (fun n i o=>∃k:Nat,k≤xs.length∧n=xs.length-k∧i=k∧o=xs.take k) xs.length 0 [] ⟨0,by omega,by simp,rfl,by simp⟩ ?_
   rintro n i o ⟨k,hk,rfl,rfl,rfl⟩
   unfold f34_rhs1
   refine dec_split (fun hlt=>⟨by omega,hlt,?_,?_⟩) (fun hlt => ?_)
   · simp only[List.length_take];omega
   · have hlt':k<xs.length:=by omega
     exact⟨xs.length-(k+1),by omega,_,_,rfl,k+1,by omega,rfl,wrap_next k _ hlt' (by simp only[maxLen];omega),(take_nextB xs k hlt').symm⟩
   · rw[take_all xs k (by omega)]
     exact⟨rfl,rfl⟩
 · cases h
end Go.Proofs.YtkpjcmiijlpcaaaGreat.W
