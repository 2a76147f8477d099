/- Several texts in one: Tab, GTape, Frame, GBr, GTape2, TA, SrtF, ShlT, T19a, Pl18a. (Printed small by a program: remarks, spaces and repeated headings are taken out.) -/
import Derived.Test.YtihjphblcohdeaaGreatDoorC3
import Derived.Test.YtihjphblcohdeaaGreatDoorProg
import Derived.KernelRfl
import Derived.Test.YtihjphblcohdeaaGreatDoorC1
import Derived.Shelf.SlSortCmp.NoneTotal
import Derived.Shelf.Strings.BuilderK
import Derived.Shelf.Strings.Repeat
import Derived.Shelf.Strings.Count
import Derived.Shelf.Sort.Plain
import Derived.Shelf.Slices.CompactI
set_option linter.unusedVariables false
set_option linter.unusedSimpArgs false
set_option linter.unnecessarySimpa false
set_option linter.unusedSectionVars false
namespace Go.Proofs.YtihjphblcohdeaaGreatDoor
def tabL:List (Nat×Ty):=[
 (1,{ ok:=true,size:=1,small:=true,word:=true,zero:=[.undef] }),
 (2,{ ok:=true,size:=1,small:=true,word:=true,zero:=[.int .i64 0],kind:=some .i64 }),
 (3,{ ok:=true,size:=1,small:=true,word:=true,zero:=[.int .i64 0],kind:=some .i64 }),
 (4,{ ok:=true,size:=1,small:=true,word:=true,zero:=[.bool false],isBool:=true }),
 (5,{ ok:=true,size:=1,small:=true,word:=true,zero:=[.int .u8 0],kind:=some .u8 }),
 (6,{ ok:=true,size:=1,small:=true,word:=true,zero:=[.int .u8 0],kind:=some .u8 }),
 (7,{ ok:=true,agg:=true,size:=4,small:=true,zero:=[.int .i64 0, .int .i64 0, .bool false, .int .u8 0],offs:=[(0,1),(1,1),(2,1),(3,1)],flds:=[(0,2),(1,3),(2,4),(3,6)],isStruct:=true }),
 (8,{ ok:=true,agg:=true,size:=4,small:=true,zero:=[.int .i64 0, .int .i64 0, .bool false, .int .u8 0],offs:=[(0,1),(1,1),(2,1),(3,1)],flds:=[(0,2),(1,3),(2,4),(3,6)],isStruct:=true }),
 (9,{ ok:=true,size:=1,small:=true,zero:=[.str ⟨#[]⟩],isStr:=true }),
 (10,{ ok:=true,size:=1,small:=true,zero:=[.str ⟨#[]⟩],isStr:=true }),
 (11,{ ok:=true,size:=1,small:=true,zero:=[.str ⟨#[]⟩],isStr:=true }),
 (12,{ ok:=true,size:=1,small:=true,word:=true,zero:=[.int .u64 0],kind:=some .u64 }),
 (13,{ ok:=true,agg:=true,size:=2,small:=true,zero:=[.str ⟨#[]⟩, .int .u64 0],offs:=[(0,1),(1,1)],flds:=[(0,9),(1,12)],isStruct:=true }),
 (14,{ ok:=true,agg:=true,size:=2,small:=true,zero:=[.str ⟨#[]⟩, .int .u64 0],offs:=[(0,1),(1,1)],flds:=[(0,9),(1,12)],isStruct:=true }),
 (15,{ ok:=true,size:=1,small:=true,word:=true,zero:=[.nilp],isPtr:=true }),
 (16,{ ok:=true,size:=1,small:=true,word:=true,zero:=[.nilp],isPtr:=true }),
 (17,{ ok:=true,size:=1,small:=true,word:=true,zero:=[.nilp],isPtr:=true }),
 (18,{ ok:=true,agg:=true,size:=1,small:=true,word:=true,zero:=[.nilp],offs:=[(0,1)],flds:=[(0,17)],isStruct:=true }),
 (19,{ ok:=true,agg:=true,size:=1,small:=true,word:=true,zero:=[.nilp],offs:=[(0,1)],flds:=[(0,17)],isStruct:=true }),
 (21,{ ok:=true,size:=1,small:=true,word:=true,zero:=[.int .i32 0],kind:=some .i32 }),
 (22,{ ok:=true,size:=1,small:=true,elem:=some 3,zero:=[.nil] }),
 (23,{ ok:=true,size:=1,small:=true,word:=true,zero:=[.nilp],isPtr:=true }),
 (24,{ ok:=true,size:=1,small:=true,word:=true,zero:=[.undef] }),
 (25,{ ok:=true,size:=1,small:=true,elem:=some 70,zero:=[.nil] }),
 (26,{ ok:=true,size:=1,small:=true,elem:=some 72,zero:=[.nil] }),
 (27,{ ok:=true,size:=1,small:=true,elem:=some 85,zero:=[.nil] }),
 (28,{ ok:=true,agg:=true,size:=4,small:=true,zero:=[.int .i64 0, .nil, .nil, .nil],offs:=[(0,1),(1,1),(2,1),(3,1)],flds:=[(0,3),(1,25),(2,26),(3,27)],isStruct:=true }),
 (29,{ ok:=true,agg:=true,size:=4,small:=true,zero:=[.int .i64 0, .nil, .nil, .nil],offs:=[(0,1),(1,1),(2,1),(3,1)],flds:=[(0,3),(1,25),(2,26),(3,27)],isStruct:=true }),
 (30,{ ok:=true,size:=1,small:=true,word:=true,zero:=[.undef] }),
 (31,{ ok:=true,size:=1,small:=true,elem:=some 56,zero:=[.nil] }),
 (33,{ ok:=true,size:=1,small:=true,word:=true,zero:=[.undef] }),
 (34,{ ok:=true,size:=1,small:=true,elem:=some 22,zero:=[.nil] }),
 (35,{ ok:=true,size:=1,small:=true,word:=true,zero:=[.undef] }),
 (36,{ ok:=true,size:=1,small:=true,word:=true,zero:=[.undef] }),
 (37,{ ok:=true,agg:=true,size:=3,small:=true,zero:=[.int .i64 0, .int .i64 0, .int .i64 0],offs:=[(0,1),(1,1),(2,1)],flds:=[(0,3),(1,3),(2,3)],isStruct:=true }),
 (38,{ ok:=true,agg:=true,size:=3,small:=true,zero:=[.int .i64 0, .int .i64 0, .int .i64 0],offs:=[(0,1),(1,1),(2,1)],flds:=[(0,3),(1,3),(2,3)],isStruct:=true }),
 (39,{ ok:=true,size:=1,small:=true,elem:=some 65,zero:=[.nil] }),
 (40,{ ok:=true,size:=1,small:=true,elem:=some 118,zero:=[.nil] }),
 (41,{ ok:=true,agg:=true,size:=2,small:=true,zero:=[.nil, .nil],offs:=[(0,1),(1,1)],flds:=[(0,39),(1,40)],isStruct:=true }),
 (42,{ ok:=true,agg:=true,size:=2,small:=true,zero:=[.nil, .nil],offs:=[(0,1),(1,1)],flds:=[(0,39),(1,40)],isStruct:=true }),
 (43,{ ok:=true,size:=1,small:=true,word:=true,zero:=[.int .i64 0],kind:=some .i64 }),
 (45,{ ok:=true,size:=1,small:=true,word:=true,zero:=[.undef] }),
 (46,{ ok:=true,size:=1,small:=true,elem:=some 59,zero:=[.nil] }),
 (48,{ ok:=true,size:=1,small:=true,word:=true,zero:=[.undef] }),
 (49,{ ok:=true,agg:=true,size:=3,small:=true,zero:=[.int .i64 0, .int .i64 0, .int .i64 0],offs:=[(0,1),(1,1),(2,1)],flds:=[(0,3),(1,3),(2,3)],isStruct:=true }),
 (50,{ ok:=true,agg:=true,size:=3,small:=true,zero:=[.int .i64 0, .int .i64 0, .int .i64 0],offs:=[(0,1),(1,1),(2,1)],flds:=[(0,3),(1,3),(2,3)],isStruct:=true }),
 (51,{ ok:=true,agg:=true,size:=2,small:=true,zero:=[.int .i64 0, .int .i64 0],offs:=[(0,1),(1,1)],flds:=[(0,3),(1,3)],isStruct:=true }),
 (52,{ ok:=true,agg:=true,size:=2,small:=true,zero:=[.int .i64 0, .int .i64 0],offs:=[(0,1),(1,1)],flds:=[(0,3),(1,3)],isStruct:=true }),
 (53,{ ok:=true,agg:=true,size:=4,small:=true,zero:=[.int .i64 0, .int .i64 0, .int .i64 0, .int .i64 0],offs:=[(0,1),(1,1),(2,1),(3,1)],flds:=[(0,3),(1,3),(2,3),(3,3)],isStruct:=true }),
 (54,{ ok:=true,agg:=true,size:=4,small:=true,zero:=[.int .i64 0, .int .i64 0, .int .i64 0, .int .i64 0],offs:=[(0,1),(1,1),(2,1),(3,1)],flds:=[(0,3),(1,3),(2,3),(3,3)],isStruct:=true }),
 (55,{ ok:=true,agg:=true,size:=13,small:=true,zero:=[.int .i64 0, .int .i64 0, .int .i64 0, .int .i64 0, .str ⟨#[]⟩, .int .i64 0, .nil, .int .i64 0, .int .i64 0, .int .i64 0, .int .i64 0, .int .i64 0, .int .i64 0],offs:=[(0,3),(3,1),(4,1),(5,1),(6,1),(7,2),(9,4)],flds:=[(0,50),(3,3),(4,9),(5,3),(6,22),(7,52),(9,54)],isStruct:=true }),
 (56,{ ok:=true,agg:=true,size:=13,small:=true,zero:=[.int .i64 0, .int .i64 0, .int .i64 0, .int .i64 0, .str ⟨#[]⟩, .int .i64 0, .nil, .int .i64 0, .int .i64 0, .int .i64 0, .int .i64 0, .int .i64 0, .int .i64 0],offs:=[(0,3),(3,1),(4,1),(5,1),(6,1),(7,2),(9,4)],flds:=[(0,50),(3,3),(4,9),(5,3),(6,22),(7,52),(9,54)],isStruct:=true }),
 (57,{ ok:=true,size:=1,small:=true,word:=true,zero:=[.undef] }),
 (58,{ ok:=true,agg:=true,size:=7,small:=true,zero:=[.int .i64 0, .int .i64 0, .int .i64 0, .int .i64 0, .int .i64 0, .nil, .nil],offs:=[(0,1),(1,1),(2,1),(3,1),(4,1),(5,1),(6,1)],flds:=[(0,3),(1,3),(2,3),(3,3),(4,3),(5,22),(6,22)],isStruct:=true }),
 (59,{ ok:=true,agg:=true,size:=7,small:=true,zero:=[.int .i64 0, .int .i64 0, .int .i64 0, .int .i64 0, .int .i64 0, .nil, .nil],offs:=[(0,1),(1,1),(2,1),(3,1),(4,1),(5,1),(6,1)],flds:=[(0,3),(1,3),(2,3),(3,3),(4,3),(5,22),(6,22)],isStruct:=true }),
 (60,{ ok:=true,size:=1,small:=true,word:=true,zero:=[.undef] }),
 (61,{ ok:=true,size:=1,small:=true,word:=true,zero:=[.undef] }),
 (62,{ ok:=true,size:=1,small:=true,elem:=some 54,zero:=[.nil] }),
 (63,{ ok:=true,size:=1,small:=true,word:=true,zero:=[.undef] }),
 (64,{ ok:=true,agg:=true,size:=7,small:=true,zero:=[.int .i64 0, .int .i64 0, .int .i64 0, .int .i64 0, .int .i64 0, .int .i64 0, .int .i64 0],offs:=[(0,2),(2,1),(3,4)],flds:=[(0,52),(2,3),(3,54)],isStruct:=true }),
 (65,{ ok:=true,agg:=true,size:=7,small:=true,zero:=[.int .i64 0, .int .i64 0, .int .i64 0, .int .i64 0, .int .i64 0, .int .i64 0, .int .i64 0],offs:=[(0,2),(2,1),(3,4)],flds:=[(0,52),(2,3),(3,54)],isStruct:=true }),
 (66,{ ok:=true,size:=1,small:=true,elem:=some 103,zero:=[.nil] }),
 (67,{ ok:=true,size:=1,small:=true,word:=true,zero:=[.undef] }),
 (68,{ ok:=true,size:=1,small:=true,elem:=some 92,zero:=[.nil] }),
 (69,{ ok:=true,agg:=true,size:=3,small:=true,zero:=[.int .i64 0, .int .i64 0, .nil],offs:=[(0,1),(1,1),(2,1)],flds:=[(0,3),(1,3),(2,68)],isStruct:=true }),
 (70,{ ok:=true,agg:=true,size:=3,small:=true,zero:=[.int .i64 0, .int .i64 0, .nil],offs:=[(0,1),(1,1),(2,1)],flds:=[(0,3),(1,3),(2,68)],isStruct:=true }),
 (71,{ ok:=true,agg:=true,size:=1,small:=true,zero:=[.nil],offs:=[(0,1)],flds:=[(0,34)],isStruct:=true }),
 (72,{ ok:=true,agg:=true,size:=1,small:=true,zero:=[.nil],offs:=[(0,1)],flds:=[(0,34)],isStruct:=true }),
 (74,{ ok:=true,size:=1,small:=true,word:=true,zero:=[.undef] }),
 (75,{ ok:=true,size:=1,small:=true,elem:=some 79,zero:=[.nil] }),
 (77,{ ok:=true,size:=1,small:=true,word:=true,zero:=[.undef] }),
 (78,{ ok:=true,agg:=true,size:=3,small:=true,zero:=[.int .i64 0, .int .i64 0, .nil],offs:=[(0,1),(1,1),(2,1)],flds:=[(0,3),(1,3),(2,22)],isStruct:=true }),
 (79,{ ok:=true,agg:=true,size:=3,small:=true,zero:=[.int .i64 0, .int .i64 0, .nil],offs:=[(0,1),(1,1),(2,1)],flds:=[(0,3),(1,3),(2,22)],isStruct:=true }),
 (80,{ ok:=true,size:=1,small:=true,word:=true,zero:=[.undef] }),
 (81,{ ok:=true,size:=1,small:=true,word:=true,zero:=[.undef] }),
 (82,{ ok:=true,size:=1,small:=true,word:=true,zero:=[.undef] }),
 (83,{ ok:=true,size:=1,small:=true,word:=true,zero:=[.undef] }),
 (84,{ ok:=true,agg:=true,size:=3,small:=true,zero:=[.int .i64 0, .int .i64 0, .int .i64 0],offs:=[(0,1),(1,1),(2,1)],flds:=[(0,3),(1,3),(2,3)],isStruct:=true }),
 (85,{ ok:=true,agg:=true,size:=3,small:=true,zero:=[.int .i64 0, .int .i64 0, .int .i64 0],offs:=[(0,1),(1,1),(2,1)],flds:=[(0,3),(1,3),(2,3)],isStruct:=true }),
 (86,{ ok:=true,agg:=true,size:=2,small:=true,zero:=[.nil, .nil],offs:=[(0,1),(1,1)],flds:=[(0,34),(1,22)],isStruct:=true }),
 (87,{ ok:=true,agg:=true,size:=2,small:=true,zero:=[.nil, .nil],offs:=[(0,1),(1,1)],flds:=[(0,34),(1,22)],isStruct:=true }),
 (88,{ ok:=true,size:=1,small:=true,word:=true,zero:=[.undef] }),
 (90,{ ok:=true,size:=1,small:=true,word:=true,zero:=[.undef] }),
 (91,{ ok:=true,agg:=true,size:=6,small:=true,zero:=[.int .i64 0, .int .i64 0, .int .i64 0, .int .i64 0, .int .i64 0, .int .i64 0],offs:=[(0,1),(1,1),(2,1),(3,1),(4,1),(5,1)],flds:=[(0,3),(1,3),(2,3),(3,3),(4,3),(5,3)],isStruct:=true }),
 (92,{ ok:=true,agg:=true,size:=6,small:=true,zero:=[.int .i64 0, .int .i64 0, .int .i64 0, .int .i64 0, .int .i64 0, .int .i64 0],offs:=[(0,1),(1,1),(2,1),(3,1),(4,1),(5,1)],flds:=[(0,3),(1,3),(2,3),(3,3),(4,3),(5,3)],isStruct:=true }),
 (93,{ ok:=true,size:=1,small:=true,word:=true,zero:=[.undef] }),
 (94,{ ok:=true,agg:=true,size:=2,small:=true,zero:=[.nil, .int .i64 0],offs:=[(0,1),(1,1)],flds:=[(0,22),(1,3)],isStruct:=true }),
 (95,{ ok:=true,agg:=true,size:=2,small:=true,zero:=[.nil, .int .i64 0],offs:=[(0,1),(1,1)],flds:=[(0,22),(1,3)],isStruct:=true }),
 (96,{ ok:=true,size:=1,small:=true,word:=true,zero:=[.undef] }),
 (97,{ ok:=true,size:=1,small:=true,word:=true,zero:=[.undef] }),
 (99,{ ok:=true,size:=1,small:=true,word:=true,zero:=[.undef] }),
 (100,{ ok:=true,size:=1,small:=true,word:=true,zero:=[.undef] }),
 (101,{ ok:=true,size:=1,small:=true,word:=true,zero:=[.undef] }),
 (102,{ ok:=true,agg:=true,size:=2,small:=true,zero:=[.int .i64 0, .int .i64 0],offs:=[(0,1),(1,1)],flds:=[(0,3),(1,3)],isStruct:=true }),
 (103,{ ok:=true,agg:=true,size:=2,small:=true,zero:=[.int .i64 0, .int .i64 0],offs:=[(0,1),(1,1)],flds:=[(0,3),(1,3)],isStruct:=true }),
 (104,{ ok:=true,size:=1,small:=true,word:=true,zero:=[.undef] }),
 (105,{ ok:=true,size:=1,small:=true,word:=true,zero:=[.undef] }),
 (107,{ ok:=true,size:=1,small:=true,word:=true,zero:=[.undef] }),
 (110,{ ok:=true,size:=1,small:=true,word:=true,zero:=[.undef] }),
 (111,{ ok:=true,size:=1,small:=true,word:=true,zero:=[.undef] }),
 (112,{ ok:=true,size:=1,small:=true,word:=true,zero:=[.undef] }),
 (113,{ ok:=true,agg:=true,size:=2,small:=true,zero:=[.int .i64 0, .int .i64 0],offs:=[(0,1),(1,1)],flds:=[(0,3),(1,3)],isStruct:=true }),
 (114,{ ok:=true,agg:=true,size:=2,small:=true,zero:=[.int .i64 0, .int .i64 0],offs:=[(0,1),(1,1)],flds:=[(0,3),(1,3)],isStruct:=true }),
 (115,{ ok:=true,size:=1,small:=true,word:=true,zero:=[.undef] }),
 (116,{ ok:=true,size:=1,small:=true,word:=true,zero:=[.undef] }),
 (117,{ ok:=true,agg:=true,size:=6,small:=true,zero:=[.int .i64 0, .int .i64 0, .int .i64 0, .nil, .int .i64 0, .int .i64 0],offs:=[(0,1),(1,1),(2,1),(3,1),(4,2)],flds:=[(0,3),(1,3),(2,3),(3,22),(4,52)],isStruct:=true }),
 (118,{ ok:=true,agg:=true,size:=6,small:=true,zero:=[.int .i64 0, .int .i64 0, .int .i64 0, .nil, .int .i64 0, .int .i64 0],offs:=[(0,1),(1,1),(2,1),(3,1),(4,2)],flds:=[(0,3),(1,3),(2,3),(3,22),(4,52)],isStruct:=true }),
 (119,{ ok:=true,size:=1,small:=true,word:=true,zero:=[.undef] }),
 (120,{ ok:=true,size:=1,small:=true,word:=true,zero:=[.undef] }),
 (121,{ ok:=true,size:=1,small:=true,word:=true,zero:=[.undef] }),
 (122,{ ok:=true,size:=1,small:=true,word:=true,zero:=[.undef] }),
 (123,{ ok:=true,size:=1,small:=true,word:=true,zero:=[.undef] }),
 (124,{ ok:=true,size:=1,small:=true,word:=true,zero:=[.undef] }),
 (125,{ ok:=true,size:=1,small:=true,word:=true,zero:=[.undef] }),
 (126,{ ok:=true,size:=1,small:=true,word:=true,zero:=[.undef] }),
 (127,{ ok:=true,size:=1,small:=true,word:=true,zero:=[.undef] }),
 (129,{ ok:=true,size:=1,small:=true,word:=true,zero:=[.undef] }),
 (130,{ ok:=true,size:=1,small:=true,word:=true,zero:=[.undef] }),
 (132,{ ok:=true,size:=1,small:=true,word:=true,zero:=[.undef] }),
 (133,{ ok:=true,size:=1,small:=true,word:=true,zero:=[.undef] }),
 (134,{ ok:=true,agg:=true,size:=7,small:=true,zero:=[.int .i64 0, .int .i64 0, .int .i64 0, .int .i64 0, .int .i64 0, .int .i64 0, .int .i64 0],arr:=some (3,7) }),
 (136,{ ok:=true,size:=1,small:=true,word:=true,zero:=[.undef] }),
 (137,{ ok:=true,size:=1,small:=true,word:=true,zero:=[.undef] }),
 (138,{ ok:=true,size:=1,small:=true,word:=true,zero:=[.undef] }),
 (139,{ ok:=true,size:=1,small:=true,word:=true,zero:=[.undef] }),
 (140,{ ok:=true,size:=1,small:=true,word:=true,zero:=[.undef] }),
 (141,{ ok:=true,size:=1,small:=true,word:=true,zero:=[.undef] }),
 (142,{ ok:=true,size:=1,small:=true,word:=true,zero:=[.undef] }),
 (143,{ ok:=true,size:=1,small:=true,word:=true,zero:=[.undef] }),
 (144,{ ok:=true,size:=1,small:=true,word:=true,zero:=[.undef] }),
 (145,{ ok:=true,size:=1,small:=true,word:=true,zero:=[.undef] }),
 (147,{ ok:=true,size:=1,small:=true,word:=true,zero:=[.undef] }),
 (149,{ ok:=true,size:=1,small:=true,word:=true,zero:=[.undef] }),
 (150,{ ok:=true,size:=1,small:=true,word:=true,zero:=[.undef] }),
 (151,{ ok:=true,size:=1,small:=true,word:=true,zero:=[.undef] }),
 (152,{ ok:=true,size:=1,small:=true,word:=true,zero:=[.undef] }),
 (153,{ ok:=true,size:=1,small:=true,word:=true,zero:=[.undef] }),
 (154,{ ok:=true,size:=1,small:=true,word:=true,zero:=[.int .u64 0],kind:=some .u64 }),
 (155,{ ok:=true,size:=1,small:=true,word:=true,zero:=[.undef] }),
 (156,{ ok:=true,size:=1,small:=true,word:=true,zero:=[.undef] }),
 (157,{ ok:=true,size:=1,small:=true,word:=true,zero:=[.undef] }),
 (158,{ ok:=true,size:=1,small:=true,word:=true,zero:=[.undef] }),
 (159,{ ok:=true,size:=1,small:=true,word:=true,zero:=[.undef] }),
 (160,{ ok:=true,size:=1,small:=true,word:=true,zero:=[.undef] }),
 (161,{ ok:=true,size:=1,small:=true,word:=true,zero:=[.undef] }),
 (162,{ ok:=true,size:=1,small:=true,word:=true,zero:=[.undef] }),
 (163,{ ok:=true,size:=1,small:=true,word:=true,zero:=[.undef] }),
 (164,{ ok:=true,size:=1,small:=true,word:=true,zero:=[.undef] }),
 (165,{ ok:=true,agg:=true,size:=2,small:=true,zero:=[.int .i64 0, .int .i64 0],offs:=[(0,1),(1,1)],flds:=[(0,3),(1,3)],isStruct:=true }),
 (166,{ ok:=true,agg:=true,size:=2,small:=true,zero:=[.int .i64 0, .int .i64 0],offs:=[(0,1),(1,1)],flds:=[(0,3),(1,3)],isStruct:=true }),
 (167,{ ok:=true,size:=1,small:=true,word:=true,zero:=[.undef] }),
 (168,{ ok:=true,size:=1,small:=true,word:=true,zero:=[.undef] }),
 (169,{ ok:=true,size:=1,small:=true,word:=true,zero:=[.undef] }),
 (170,{ ok:=true,size:=1,small:=true,word:=true,zero:=[.undef] }),
 (171,{ ok:=true,size:=1,small:=true,word:=true,zero:=[.nilp],isPtr:=true }),
 (172,{ ok:=true,size:=1,small:=true,elem:=some 5,zero:=[.nil] }),
 (173,{ ok:=true,agg:=true,size:=2,small:=true,zero:=[.nilp, .nil],offs:=[(0,1),(1,1)],flds:=[(0,171),(1,172)],isStruct:=true }),
 (174,{ ok:=true,agg:=true,size:=2,small:=true,zero:=[.nilp, .nil],offs:=[(0,1),(1,1)],flds:=[(0,171),(1,172)],isStruct:=true }),
 (178,{ ok:=true,size:=1,small:=true,word:=true,zero:=[.undef] }),
 (179,{ ok:=true,size:=1,small:=true,word:=true,zero:=[.undef] }),
 (180,{ ok:=true,size:=1,small:=true,word:=true,zero:=[.undef] }),
 (181,{ ok:=true,size:=1,small:=true,word:=true,zero:=[.undef] }),
 (182,{ ok:=true,size:=1,small:=true,word:=true,zero:=[.undef] }),
 (183,{ ok:=true,size:=1,small:=true,word:=true,zero:=[.undef] }),
 (184,{ ok:=true,size:=1,small:=true,word:=true,zero:=[.undef] }),
 (185,{ ok:=true,size:=1,small:=true,word:=true,zero:=[.undef] }),
 (186,{ ok:=true,size:=1,small:=true,elem:=some 50,zero:=[.nil] }),
 (188,{ ok:=true,size:=1,small:=true,word:=true,zero:=[.undef] }),
 (189,{ ok:=true,size:=1,small:=true,word:=true,zero:=[.undef] }),
 (190,{ ok:=true,size:=1,small:=true,word:=true,zero:=[.undef] }),
 (191,{ ok:=true,size:=1,small:=true,word:=true,zero:=[.undef] }),
 (193,{ ok:=true,size:=1,small:=true,word:=true,zero:=[.undef] }),
 (194,{ ok:=true,size:=1,small:=true,word:=true,zero:=[.undef] }),
 (195,{ ok:=true,size:=1,small:=true,word:=true,zero:=[.undef] }),
 (196,{ ok:=true,size:=1,small:=true,word:=true,zero:=[.int .i64 0],kind:=some .i64 }),
 (198,{ ok:=true,size:=1,small:=true,word:=true,zero:=[.undef] }),
 (199,{ ok:=true,size:=1,small:=true,word:=true,zero:=[.undef] }),
 (200,{ ok:=true,size:=1,small:=true,word:=true,zero:=[.undef] }),
 (201,{ ok:=true,size:=1,small:=true,word:=true,zero:=[.undef] }),
 (202,{ ok:=true,size:=1,small:=true,word:=true,zero:=[.undef] }),
 (203,{ ok:=true,size:=1,small:=true,word:=true,zero:=[.int .u32 0],kind:=some .u32 }),
 (204,{ ok:=true,size:=1,small:=true,word:=true,zero:=[.undef] }),
 (205,{ ok:=true,size:=1,small:=true,word:=true,zero:=[.int .u64 0],kind:=some .u64 }),
 (206,{ ok:=true,size:=1,small:=true,word:=true,zero:=[.undef] }),
 (207,{ ok:=true,size:=1,small:=true,word:=true,zero:=[.undef] }),
 (208,{ ok:=true,size:=1,small:=true,word:=true,zero:=[.undef] }),
 (209,{ ok:=true,size:=1,small:=true,word:=true,zero:=[.undef] }),
 (210,{ ok:=true,size:=1,small:=true,word:=true,zero:=[.undef] }),
 (211,{ ok:=true,size:=1,small:=true,word:=true,zero:=[.undef] }),
 (213,{ ok:=true,size:=1,small:=true,word:=true,zero:=[.undef] }),
 (215,{ ok:=true,size:=1,small:=true,word:=true,zero:=[.undef] }),
 (217,{ ok:=true,size:=1,small:=true,word:=true,zero:=[.undef] }),
 (218,{ ok:=true,size:=1,small:=true,word:=true,zero:=[.undef] }),
 (219,{ ok:=true,size:=1,small:=true,word:=true,zero:=[.undef] }),
 (220,{ ok:=true,agg:=true,size:=6,small:=true,zero:=[.int .i64 0, .int .i64 0, .int .i64 0, .int .i64 0, .int .i64 0, .int .i64 0],arr:=some (3,6) }),
 (221,{ ok:=true,size:=1,small:=true,word:=true,zero:=[.undef] }),
 (222,{ ok:=true,size:=1,small:=true,word:=true,zero:=[.undef] }),
 (223,{ ok:=true,size:=1,small:=true,word:=true,zero:=[.undef] }),
 (224,{ ok:=true,size:=1,small:=true,word:=true,zero:=[.nilp],isPtr:=true }),
 (225,{ ok:=true,size:=1,small:=true,word:=true,zero:=[.undef] }),
 (227,{ ok:=true,size:=1,small:=true,elem:=some 230,zero:=[.nil] }),
 (228,{ ok:=true,size:=1,small:=true,word:=true,zero:=[.undef] }),
 (229,{ ok:=true,agg:=true,size:=2,small:=true,zero:=[.int .i64 0, .bool false],offs:=[(0,1),(1,1)],flds:=[(0,3),(1,4)],isStruct:=true }),
 (230,{ ok:=true,agg:=true,size:=2,small:=true,zero:=[.int .i64 0, .bool false],offs:=[(0,1),(1,1)],flds:=[(0,3),(1,4)],isStruct:=true }),
 (231,{ ok:=true,size:=1,small:=true,word:=true,zero:=[.undef] }),
 (232,{ ok:=true,size:=1,small:=true,word:=true,zero:=[.undef] }),
 (233,{ ok:=true,size:=1,small:=true,word:=true,zero:=[.undef] }),
 (234,{ ok:=true,size:=1,small:=true,word:=true,zero:=[.undef] }),
 (235,{ ok:=true,size:=1,small:=true,word:=true,zero:=[.undef] }),
 (236,{ ok:=true,size:=1,small:=true,word:=true,zero:=[.undef] }),
 (238,{ ok:=true,size:=1,small:=true,word:=true,zero:=[.undef] }),
 (239,{ ok:=true,size:=1,small:=true,word:=true,zero:=[.int .u64 0],kind:=some .u64 }),
 (240,{ ok:=true,size:=1,small:=true,word:=true,zero:=[.undef] }),
 (241,{ ok:=true,size:=1,small:=true,word:=true,zero:=[.undef] }),
 (242,{ ok:=true,size:=1,small:=true,word:=true,zero:=[.undef] }),
 (243,{ ok:=true,size:=1,small:=true,word:=true,zero:=[.nilp],isPtr:=true }),
 (244,{ ok:=true,size:=1,small:=true,word:=true,zero:=[.undef] }),
 (245,{ ok:=true,size:=1,small:=true,word:=true,zero:=[.undef] }),
 (246,{ ok:=true,size:=1,small:=true,word:=true,zero:=[.undef] }),
 (247,{ ok:=true,size:=1,small:=true,word:=true,zero:=[.undef] }),
 (249,{ ok:=true,size:=1,small:=true,word:=true,zero:=[.undef] }),
 (251,{ ok:=true,size:=1,small:=true,word:=true,zero:=[.undef] }),
 (253,{ ok:=true,size:=1,small:=true,word:=true,zero:=[.undef] }),
 (254,{ ok:=true,agg:=true,size:=31,small:=true,zero:=[.int .i64 0, .int .i64 0, .int .i64 0, .int .i64 0, .int .i64 0, .int .i64 0, .int .i64 0, .int .i64 0, .int .i64 0, .int .i64 0, .int .i64 0, .int .i64 0, .int .i64 0, .int .i64 0, .int .i64 0, .int .i64 0, .int .i64 0, .int .i64 0, .int .i64 0, .int .i64 0, .int .i64 0, .int .i64 0, .int .i64 0, .int .i64 0, .int .i64 0, .int .i64 0, .int .i64 0, .int .i64 0, .int .i64 0, .int .i64 0, .int .i64 0],arr:=some (3,31) }),
 (255,{ ok:=true,agg:=true,size:=32,small:=true,zero:=[.int .i64 0, .int .i64 0, .int .i64 0, .int .i64 0, .int .i64 0, .int .i64 0, .int .i64 0, .int .i64 0, .int .i64 0, .int .i64 0, .int .i64 0, .int .i64 0, .int .i64 0, .int .i64 0, .int .i64 0, .int .i64 0, .int .i64 0, .int .i64 0, .int .i64 0, .int .i64 0, .int .i64 0, .int .i64 0, .int .i64 0, .int .i64 0, .int .i64 0, .int .i64 0, .int .i64 0, .int .i64 0, .int .i64 0, .int .i64 0, .int .i64 0, .int .i64 0],arr:=some (3,32) }),
 (257,{ ok:=true,size:=1,small:=true,word:=true,zero:=[.undef] }),
 (258,{ ok:=true,size:=1,small:=true,word:=true,zero:=[.undef] }),
 (259,{ ok:=true,size:=1,small:=true,word:=true,zero:=[.undef] }),
 (260,{ ok:=true,size:=1,small:=true,word:=true,zero:=[.undef] }),
 (261,{ ok:=true,size:=1,small:=true,word:=true,zero:=[.undef] }),
 (262,{ ok:=true,size:=1,small:=true,word:=true,zero:=[.nilp],isPtr:=true }),
 (264,{ ok:=true,size:=1,small:=true,word:=true,zero:=[.undef] }),
 (265,{ ok:=true,size:=1,small:=true,word:=true,zero:=[.undef] }),
 (266,{ ok:=true,size:=1,small:=true,word:=true,zero:=[.undef] }),
 (267,{ ok:=true,size:=1,small:=true,word:=true,zero:=[.undef] }),
 (268,{ ok:=true,size:=1,small:=true,word:=true,zero:=[.undef] }),
 (269,{ ok:=true,size:=1,small:=true,word:=true,zero:=[.undef] }),
 (270,{ ok:=true,size:=1,small:=true,word:=true,zero:=[.undef] }),
 (271,{ ok:=true,size:=1,small:=true,word:=true,zero:=[.undef] }),
 (272,{ ok:=true,size:=1,small:=true,word:=true,zero:=[.undef] }),
 (273,{ ok:=true,size:=1,small:=true,word:=true,zero:=[.undef] }),
 (274,{ ok:=true,size:=1,small:=true,word:=true,zero:=[.undef] }),
 (275,{ ok:=true,size:=1,small:=true,word:=true,zero:=[.undef] }),
 (276,{ ok:=true,size:=1,small:=true,word:=true,zero:=[.undef] }),
 (277,{ ok:=true,size:=1,small:=true,word:=true,zero:=[.undef] }),
 (278,{ ok:=true,size:=1,small:=true,word:=true,zero:=[.undef] }),
 (279,{ ok:=true,size:=1,small:=true,word:=true,zero:=[.undef] }),
 (280,{ ok:=true,size:=1,small:=true,word:=true,zero:=[.undef] }),
 (281,{ ok:=true,size:=1,small:=true,word:=true,zero:=[.undef] }),
 (282,{ ok:=true,size:=1,small:=true,word:=true,zero:=[.undef] }),
 (283,{ ok:=true,size:=1,small:=true,word:=true,zero:=[.undef] }),
 (284,{ ok:=true,size:=1,small:=true,word:=true,zero:=[.undef] }),
 (285,{ ok:=true,size:=1,small:=true,word:=true,zero:=[.undef] }),
 (286,{ ok:=true,agg:=true,size:=4,small:=true,zero:=[.nilp, .nilp, .nilp, .str ⟨#[]⟩],offs:=[(0,1),(1,1),(2,1),(3,1)],flds:=[(0,17),(1,17),(2,17),(3,9)],isStruct:=true }),
 (287,{ ok:=true,agg:=true,size:=4,small:=true,zero:=[.nilp, .nilp, .nilp, .str ⟨#[]⟩],offs:=[(0,1),(1,1),(2,1),(3,1)],flds:=[(0,17),(1,17),(2,17),(3,9)],isStruct:=true }),
 (288,{ ok:=true,agg:=true,size:=0,small:=true,word:=true,zero:=[],arr:=some (16,0) }),
 (289,{ ok:=true,agg:=true,size:=0,small:=true,word:=true,zero:=[],offs:=[(0,0)],flds:=[(0,288)],isStruct:=true }),
 (290,{ ok:=true,agg:=true,size:=0,small:=true,word:=true,zero:=[],offs:=[(0,0)],flds:=[(0,288)],isStruct:=true }),
 (291,{ ok:=true,size:=1,small:=true,word:=true,zero:=[.int .u8 0],kind:=some .u8 }),
 (292,{ ok:=true,size:=1,small:=true,word:=true,zero:=[.int .u8 0],kind:=some .u8 }),
 (293,{ ok:=true,size:=1,small:=true,word:=true,zero:=[.undef] }),
 (294,{ ok:=true,size:=1,small:=true,word:=true,zero:=[.int .i32 0],kind:=some .i32 }),
 (295,{ ok:=true,size:=1,small:=true,word:=true,zero:=[.int .i32 0],kind:=some .i32 }),
 (296,{ ok:=true,agg:=true,size:=11,small:=true,zero:=[.int .u64 0, .int .u64 0, .int .u32 0, .int .u8 0, .int .u8 0, .int .u8 0, .int .u8 0, .undef, .nilp, .int .i32 0, .int .i32 0],offs:=[(0,1),(1,1),(2,1),(3,1),(4,1),(5,1),(6,1),(7,1),(8,1),(9,1),(10,1)],flds:=[(0,12),(1,12),(2,203),(3,291),(4,5),(5,5),(6,292),(7,293),(8,224),(9,294),(10,295)],isStruct:=true }),
 (297,{ ok:=true,agg:=true,size:=11,small:=true,zero:=[.int .u64 0, .int .u64 0, .int .u32 0, .int .u8 0, .int .u8 0, .int .u8 0, .int .u8 0, .undef, .nilp, .int .i32 0, .int .i32 0],offs:=[(0,1),(1,1),(2,1),(3,1),(4,1),(5,1),(6,1),(7,1),(8,1),(9,1),(10,1)],flds:=[(0,12),(1,12),(2,203),(3,291),(4,5),(5,5),(6,292),(7,293),(8,224),(9,294),(10,295)],isStruct:=true })]
def lkT:List (Nat×Ty)→Nat→Ty
 |[],_=>{}
 |(j,v)::l,i=>bif Nat.beq i j then v else lkT l i
def tab (t:Nat):Ty:=lkT tabL t
set_option maxRecDepth 100000 in
theorem tabL_eq:tabL=[1,2,3,4,5,6,7,8,9,10,11,12,13,14,15,16,17,18,19,21,22,23,24,25,26,27,28,29,30,31,33,34,35,36,37,38,39,40,41,42,43,45,46,48,49,50,51,52,53,54,55,56,57,58,59,60,61,62,63,64,65,66,67,68,69,70,71,72,74,75,77,78,79,80,81,82,83,84,85,86,87,88,90,91,92,93,94,95,96,97,99,100,101,102,103,104,105,107,110,111,112,113,114,115,116,117,118,119,120,121,122,123,124,125,126,127,129,130,132,133,134,136,137,138,139,140,141,142,143,144,145,147,149,150,151,152,153,154,155,156,157,158,159,160,161,162,163,164,165,166,167,168,169,170,171,172,173,174,178,179,180,181,182,183,184,185,186,188,189,190,191,193,194,195,196,198,199,200,201,202,203,204,205,206,207,208,209,210,211,213,215,217,218,219,220,221,222,223,224,225,227,228,229,230,231,232,233,234,235,236,238,239,240,241,242,243,244,245,246,247,249,251,253,254,255,257,258,259,260,261,262,264,265,266,267,268,269,270,271,272,273,274,275,276,277,278,279,280,281,282,283,284,285,286,287,288,289,290,291,292,293,294,295,296,297].map (fun t=>(t,tyOf Tryz.prog t)):=by kernel_rfl
theorem lkT_ok {P:Program}:∀ {ks:List Nat} {t:Nat},(lkT (ks.map fun t=>(t,tyOf P t)) t).ok=true→lkT (ks.map fun t=>(t,tyOf P t)) t=tyOf P t
 |[],t,h=>by simp [lkT] at h
 |k::ks,t,h=>by
  simp only [List.map_cons,lkT] at h ⊢
  by_cases e:t=k
  ·subst e;simp
  ·rw [beq_ne e] at h ⊢;exact lkT_ok h
theorem tabOk:TabOk Tryz.prog tab:=fun t h=>by
 unfold tab at h ⊢
 rw [tabL_eq] at h ⊢
 exact lkT_ok h
theorem mixed:Tryz.prog.follows .mixedOrders=true:=by kernel_rfl
end Go.Proofs.YtihjphblcohdeaaGreatDoor
namespace Go.Proofs.YtihjphblcohdeaaGreatDoor
open Go.RowKit
def encI (x:Int):List AV:=[.int .i64 x]
def ints (xs:List Int):AV:= .lst 1 (xs.map encI)
abbrev TT:Nat:=95
theorem tt_q:¬Qt TT:=by unfold Qt TT;decide
theorem ints_rep {w:World} {X:Nat→Prop} {A:Option Addr} {n c:Nat} {xs:List Int} (h:Ints w X A n c xs):RepV w X (ints xs) (.slice A n c):=by
 have hl:=h.len
 by_cases h0:xs=[]
 ·subst h0
  have:n=0:=by simpa using hl.symm
  subst this
  exact .nil 1 _ _
 ·have hn:0<n:=by
   rcases Nat.eq_zero_or_pos n with e|e
   ·exact absurd (List.eq_nil_of_length_eq_zero (hl.trans e)) h0
   ·exact e
  obtain ⟨b,off,rfl,hb,hx,hc⟩:=h.int_at hn
  have hlen:(xs.map encI).length=n:=by simp [hl]
  unfold ints
  have:=RepV.lst (w:=w) (X:=X) (z:=1) (es:=xs.map encI) (b:=b) (off:=off) (c:=c) (fun i _=> .int .i64 (nth xs i)) (by simpa using h0) (by rw [hlen];exact h.cap) hb hx (fun cs hcs=>by
   obtain ⟨x,_,rfl⟩:=List.mem_map.1 hcs
   rfl) (fun i j d hd=>?_) (fun i j d hd=>?_)
  ·rwa [hlen] at this
  ·obtain ⟨ds,h1,h2⟩:=at2_some hd
   rw [List.getElem?_map] at h1
   cases hx:xs[i]? with
   |none=>rw [hx] at h1;cases h1
   |some x=>
    rw [hx] at h1
    simp only [Option.map_some,Option.some.injEq] at h1
    subst h1
    have hj:j=0:=by have:=(List.getElem?_eq_some_iff.1 h2).1;simp [encI] at this;exact this
    subst hj
    rw [Nat.mul_one,Nat.add_zero]
    exact hc i (by rw [←hl];exact (List.getElem?_eq_some_iff.1 hx).1)
  ·obtain ⟨ds,h1,h2⟩:=at2_some hd
   rw [List.getElem?_map] at h1
   cases hx:xs[i]? with
   |none=>rw [hx] at h1;cases h1
   |some x=>
    rw [hx] at h1
    simp only [Option.map_some,Option.some.injEq] at h1
    subst h1
    have hj:j=0:=by have:=(List.getElem?_eq_some_iff.1 h2).1;simp [encI] at this;exact this
    subst hj
    simp only [encI,List.getElem?_cons_zero,Option.some.injEq] at h2
    subst h2
    have:=nth_some (xs:=xs) (k:=i) (List.getElem?_eq_some_iff.1 hx).1
    rw [hx] at this
    injection this with this
    rw [←this]
    exact .int _ _
theorem RepV.inv {w:World} {X:Nat→Prop} {z:Nat} {es:List (List AV)} {u:Value} (h:RepV w X (.lst z es) u):(es=[]∧∃A c,u= .slice A 0 c)∨∃(b off c:Nat) (f:Nat→Nat→Value),u= .slice (some ⟨b,off,none⟩) es.length c∧es.length≤c∧b<w.heap.size∧¬X b∧(∀i j d,at2 es i j=some d→w.cell? ⟨b,off+i * z+j,none⟩=some (f i j))∧∀i j d,at2 es i j=some d→RepV w X d (f i j):=by
 cases h with
 |nil A c=>exact .inl ⟨rfl,_,_,rfl⟩
 |lst f hne hc hb hx hz hcell hrep=>exact .inr ⟨_,_,_,f,rfl,hc,hb,hx,hcell,hrep⟩
theorem rep_ints {w:World} {X:Nat→Prop} {xs:List Int} {u:Value} (h:RepV w X (ints xs) u):∃A c,u= .slice A xs.length c∧Ints w X A xs.length c xs:=by
 rcases RepV.inv h with ⟨h0,A,c,rfl⟩|⟨b,off,c,f,rfl,hc,hb,hx,hcell,hrep⟩
 ·obtain rfl:xs=[]:=by simpa using h0
  exact ⟨A,c,rfl,rfl,Nat.zero_le _,fun h=>absurd h (by simp)⟩
 ·rw [List.length_map] at hc
  refine ⟨_,c,by rw [List.length_map],rfl,hc,fun _=>⟨b,off,rfl,hb,hx,fun i x hxi=>⟨[.int .i64 x],fun j u hu=>?_,rfl⟩⟩⟩
  rcases j with _|j
  ·simp at hu
   subst hu
   have h2:at2 (xs.map encI) i 0=some (.int .i64 x):=by simp [at2,hxi,encI]
   have h3:=hrep i 0 _ h2
   have h4:=hcell i 0 _ h2
   generalize f i 0=v at h3 h4
   cases h3
   simpa [Rep.int] using h4
  ·simp at hu
theorem enters_of {f:Nat} {fn:Func} {c:Code} (h:Tryz.prog.funcs[f]? =some fn) (hb:fn.body=some c) (hn:(fn.name== "runtime.NumGoroutine")=false):Enters Tryz.prog f:=⟨fn,c,h,hn,hb⟩
set_option maxHeartbeats 400000 in
theorem raw_ok:Good Tryz.prog TT true 58 [.tape] (fun r=>∃n:Int,r= .int .i64 n):=by
 refine ⟨enters_of Tryz.func58 rfl rfl,fun w X tp us hd hX _hgl htp hA hta=>?_⟩
 obtain ⟨u,us',rfl,⟨p,hp,rfl⟩,h2⟩:=hA.cons_inv
 obtain rfl:=h2.nil_inv
 have hp':tp=some p:=hp
 subst hp'
 obtain ⟨A,n,c⟩:=hd
 obtain ⟨xs,k,hb,hi,hk,hn⟩:=hta p rfl
 simp only at hb hi hk hn
 have key:Calls Tryz.prog 58 #[.pointer (some ⟨p,0,none⟩)] w fun e w'=>∃x:Int,e= .returned (.int .i64 x)∧Chg (fun b=>some p=some b) w w'∧TapeAt TT (fun b=>some p=some b) A n c w' p:=by
  have h0:w.cell? ⟨p,0,none⟩=some (.slice A n c):=by rw [hb.cell];rfl
  have h1:w.cell? ⟨p,1,none⟩=some (.int .i64 k):=by rw [hb.cell];rfl
  have f1:w.frozen? ⟨p,1,none⟩=false:=hb.frozen 1
  have HI:=Lib.hid hi;clear hi
  rcases Nat.lt_or_ge k n with hlt|hge
  ·obtain ⟨b,off,rfl,hbl,hbp,hc⟩:=HI.out.int_at (by omega)
   have hbp':¬b=p:=fun e=>hbp (by rw [e])
   have hck:=hc k hlt
   have HB:=Lib.hid hb;clear hb
   have HC:=Lib.hid hc;clear hc
   clear hbp hta hA hX htp hp
   go_enter Tryz.func58,Tryz.ntmps58
   go_wp2
   go_quiet (fail)
   go_wp2
   go_quiet (fail)
   go_wp2
   go_ret
   have ch:∀i j,Chg (fun b=>some p=some b) w (((w.drewN i).setCell ⟨p,1,none⟩ (.int .i64 (↑k+1))).drewN j):=fun i j=>(((Chg.refl (fun b=>some p=some b) w).drewN i).setCell (.inl rfl) _).drewN j
   refine ⟨_,rfl,ch _ _,xs,k+1,?_,HI.out.chg _ (ch _ _) (fun b _ h=>h),hlt,hn⟩
   have:=HB.out.stored 1 (.int .i64 ((k+1:Nat):Int))
   simp at this
   exact this
  ·have HB:=Lib.hid hb;clear hb
   clear hta hA hX htp hp
   go_enter Tryz.func58,Tryz.ntmps58
   go_wp2
   go_quiet (fail)
   go_wp2
   go_ret
   exact ⟨_,rfl,(Chg.refl _ w).drewN _,xs,k,HB.out,HI.out.keep _ ((Chg.refl No w).drewN _),hk,hn⟩
 refine Calls.mono key fun e w' ⟨x,e1,e2,e3⟩=>⟨_, .int .i64 x,e1,⟨x,rfl⟩,RepV.int _ _,ChgQ.up e2 tt_q,fun p' hp'=>?_⟩
 injection hp' with hp'
 subst hp'
 exact e3
set_option maxHeartbeats 400000 in
theorem new_ok (xs:List Int) (hm:xs.length≤9223372036854775807):Good Tryz.prog TT false 6 [ints xs] (· = .tape):=by
 refine ⟨enters_of Tryz.func6 rfl rfl,fun w X tp us hd hX _hgl htp hA hta=>?_⟩
 obtain ⟨u,us',rfl,hu,h2⟩:=hA.cons_inv
 obtain rfl:=h2.nil_inv
 have htp':tp=none:=Option.not_isSome_iff_eq_none.1 (by rw [htp];nofun)
 subst htp'
 obtain ⟨A,c,rfl,hI⟩:=rep_ints (show RepV w (GX (G0 none X hd)) (ints xs) u from hu)
 have hcap:=hI.cap
 have key:Calls Tryz.prog 6 #[.slice A xs.length c] w fun e w'=>∃p n,e= .returned (.pointer (some ⟨p,0,none⟩))∧w.heap.size≤p∧Chg No w w'∧TapeAt TT (fun b=>X b∨w.heap.size≤b) A n c w' p:=by
  have fin:∀k xs',k≤600→Ints w (GX (G0 none X hd)) A k c xs'→Chg No w (w.alloc (.cells #[.slice A k c, .int .i64 0] TT))∧TapeAt TT (fun b=>X b∨w.heap.size≤b) A k c (w.alloc (.cells #[.slice A k c, .int .i64 0] TT)) w.heap.size:=fun k xs' hk hI=>
   ⟨(Chg.refl _ w).alloc _,xs',0,Blk.made w _ _,hI.move _ (fun b hb _=>((Chg.refl No w).alloc _).block b hb no_) (fun b hb he=>he.elim .inr fun h=>by omega),Nat.zero_le _,hk⟩
  clear hta hA hX htp hu
  by_cases h6:600<xs.length
  ·obtain ⟨b,off,rfl,hbl, -, -⟩:=hI.int_at (by omega)
   have F:=Lib.hid (fin 600 (xs.take 600) (Nat.le_refl _) ⟨by rw [List.length_take];omega,by omega,fun _=>by
    obtain ⟨b',off',h1,h2,h3,h4⟩:=hI.at_ (by omega)
    exact ⟨b',off',h1,h2,h3,fun i x hx=>h4 i x (by rw [List.getElem?_take] at hx;split at hx<;>first|exact hx|cases hx)⟩⟩);clear fin
   have H:=Lib.hid hI;clear hI
   go_enter Tryz.func6,Tryz.ntmps6
   go_wp2
   go_ret
   exact ⟨_,600,rfl,Nat.le_refl _,F.out.1,F.out.2⟩
  ·have F:=Lib.hid (fin xs.length _ (by omega) hI);clear fin
   have H:=Lib.hid hI;clear hI
   go_enter Tryz.func6,Tryz.ntmps6
   go_wp2
   go_ret
   exact ⟨_,xs.length,rfl,Nat.le_refl _,F.out.1,F.out.2⟩
 refine Calls.mono key fun e w' ⟨p,n,e1,e2,e3,e4⟩=>⟨_, .tape,e1,rfl,⟨p,A,n,c,rfl,e2,e4,rfl⟩,ChgQ.up (e3.mono fun b _ h=>h.elim) tt_q,by nofun⟩
theorem spot_of_cell {w:World} {a:Addr} {v:Value} (h:w.cell? a=some v):a.spot=none:=by
 unfold World.cell? at h
 split at h
 ·split at h
  ·cases h
  ·next hs=>simpa using hs
 ·cases h
theorem ofRow {w:World} {a:Option Addr} {len cap:Nat} {zs:List Int}
 (h:(a=none∧len=0∧cap=0∧zs=[])∨∃x,a=some x∧len≤cap∧cap≤maxLen∧zs.length=cap∧(∀i,i<zs.length→w.cell? (x.add i)=some (.int .i64 (zs.getD i 0)))∧∀n∈zs,(Lit.int .i64 n).wf=true):
 Ints w No a len cap (zs.take len)∧cap≤maxLen:=by
 rcases h with ⟨rfl,rfl,rfl,rfl⟩|⟨x,rfl,hl,hm,hz,hc, -⟩
 ·exact ⟨Slc.nil _,Nat.zero_le _⟩
 ·refine ⟨⟨by rw [List.length_take];omega,hl,fun hn=>?_⟩,hm⟩
  have h0:=hc 0 (by omega)
  have hx:(x.add 0)=x:=by simp [Addr.add]
  rw [hx] at h0
  have hs:=spot_of_cell h0
  obtain ⟨b,off,sp⟩:=x
  simp only at hs
  subst hs
  have hb:=World.block_lt_of_cell? w _ h0
  refine ⟨b,off,rfl,hb,no_,fun i y hy=>⟨[.int .i64 y],fun j u hu=>?_,rfl⟩⟩
  rcases j with _|j
  ·have hi:i<len∧zs[i]? =some y:=by
    rw [List.getElem?_take] at hy
    split at hy
    ·next h=>exact ⟨h,hy⟩
    ·cases hy
   have:=hc i (by omega)
   have ha:(⟨b,off,none⟩:Addr).add i=⟨b,off+i,none⟩:=by
    unfold Addr.add
    split
    ·next h=>subst h;rfl
    ·rfl
   rw [ha] at this
   simp only [List.getElem?_cons_zero,Option.some.injEq] at hu
   subst hu
   simpa [Rep.int,List.getD_eq_getElem?_getD,hi.2] using this
  ·simp at hu
end Go.Proofs.YtihjphblcohdeaaGreatDoor
namespace Go.Proofs.YtihjphblcohdeaaGreatDoor
open Go.RowKit
set_option maxRecDepth 10000
def cutG (x n:Int):Int:=if n<1 then 0 else if x.tmod n<0 then x.tmod n+n else x.tmod n
theorem cutG_in (x n:Int) (h:1≤n):0≤cutG x n∧cutG x n<n:=by
 have b1:=Int.tmod_lt_of_pos x (show 0<n by omega)
 have b2:=Int.lt_tmod_of_pos x (show 0<n by omega)
 unfold cutG
 rw [if_neg (by omega)]
 split<;>omega
theorem cutG_low (x n:Int) (h:n<1):cutG x n=0:=by simp [cutG,h]
theorem cut_ok (x n:Int) (hn:n≤1000000000):Good Tryz.prog TT false 16 [.int .i64 x, .int .i64 n] (· = .int .i64 (cutG x n)):=by
 refine good_of mixed tabOk Tryz.func16 rfl rfl Tryz.ntmps16 Tryz.results16 rfl rfl ?_
 (conv=>whnf);(repeat (first|(refine arith_i ⟨by omega,by omega⟩ ?_;conv=>whnf)|(refine need_i (by first|omega|(simp only [List.length_append,List.length_cons,List.length_nil];omega)) ?_;conv=>whnf)|((with_reducible first|refine branch_tt ?_|refine branch_ff ?_);conv=>whnf)|(with_reducible refine branch_not ?_)|((with_reducible first|refine slc_e ?_|refine callS_a ?_|refine bld_a ?_|refine own_e ?_|refine mkmap_b ?_|refine lnk_a ?_);conv=>whnf)))
 unfold cutG
 refine branch_d (fun h=>?_) (fun h=>?_)
 ·(conv=>whnf);(repeat (first|(refine arith_i ⟨by omega,by omega⟩ ?_;conv=>whnf)|(refine need_i (by first|omega|(simp only [List.length_append,List.length_cons,List.length_nil];omega)) ?_;conv=>whnf)|((with_reducible first|refine branch_tt ?_|refine branch_ff ?_);conv=>whnf)|(with_reducible refine branch_not ?_)|((with_reducible first|refine slc_e ?_|refine callS_a ?_|refine bld_a ?_|refine own_e ?_|refine mkmap_b ?_|refine lnk_a ?_);conv=>whnf)))
  exact ret_p rfl (by rw [if_pos h])
 ·rw [if_neg h]
  (conv=>whnf);(repeat (first|(refine arith_i ⟨by omega,by omega⟩ ?_;conv=>whnf)|(refine need_i (by first|omega|(simp only [List.length_append,List.length_cons,List.length_nil];omega)) ?_;conv=>whnf)|((with_reducible first|refine branch_tt ?_|refine branch_ff ?_);conv=>whnf)|(with_reducible refine branch_not ?_)|((with_reducible first|refine slc_e ?_|refine callS_a ?_|refine bld_a ?_|refine own_e ?_|refine mkmap_b ?_|refine lnk_a ?_);conv=>whnf)))
  have b1:=Int.tmod_lt_of_pos x (show 0<n by omega)
  have b2:=Int.lt_tmod_of_pos x (show 0<n by omega)
  refine branch_d (fun h'=>?_) (fun h'=>?_)
  ·(conv=>whnf);(repeat (first|(refine arith_i ⟨by omega,by omega⟩ ?_;conv=>whnf)|(refine need_i (by first|omega|(simp only [List.length_append,List.length_cons,List.length_nil];omega)) ?_;conv=>whnf)|((with_reducible first|refine branch_tt ?_|refine branch_ff ?_);conv=>whnf)|(with_reducible refine branch_not ?_)|((with_reducible first|refine slc_e ?_|refine callS_a ?_|refine bld_a ?_|refine own_e ?_|refine mkmap_b ?_|refine lnk_a ?_);conv=>whnf)))
   exact ret_p rfl (by rw [if_pos h'])
  ·(conv=>whnf);(repeat (first|(refine arith_i ⟨by omega,by omega⟩ ?_;conv=>whnf)|(refine need_i (by first|omega|(simp only [List.length_append,List.length_cons,List.length_nil];omega)) ?_;conv=>whnf)|((with_reducible first|refine branch_tt ?_|refine branch_ff ?_);conv=>whnf)|(with_reducible refine branch_not ?_)|((with_reducible first|refine slc_e ?_|refine callS_a ?_|refine bld_a ?_|refine own_e ?_|refine mkmap_b ?_|refine lnk_a ?_);conv=>whnf)))
   exact ret_p rfl (by rw [if_neg h'])
def UpTo (n:Int) (x:Int):Prop:=(n<1→x=0)∧(1≤n→0≤x∧x<n)
def IntR (p:Int→Prop) (r:AV):Prop:=∃x,r= .int .i64 x∧p x
theorem next_ok (n:Int) (hn:n≤1000000000):Good Tryz.prog TT true 26 [.tape, .int .i64 n] (IntR (UpTo n)):=by
 refine good_of mixed tabOk Tryz.func26 rfl rfl Tryz.ntmps26 Tryz.results26 rfl rfl ?_
 (conv=>whnf);(repeat (first|(refine arith_i ⟨by omega,by omega⟩ ?_;conv=>whnf)|(refine need_i (by first|omega|(simp only [List.length_append,List.length_cons,List.length_nil];omega)) ?_;conv=>whnf)|((with_reducible first|refine branch_tt ?_|refine branch_ff ?_);conv=>whnf)|(with_reducible refine branch_not ?_)|((with_reducible first|refine slc_e ?_|refine callS_a ?_|refine bld_a ?_|refine own_e ?_|refine mkmap_b ?_|refine lnk_a ?_);conv=>whnf)))
 refine call_i raw_ok fun r hr=>?_
 obtain ⟨x,rfl⟩:=hr
 (conv=>whnf);(repeat (first|(refine arith_i ⟨by omega,by omega⟩ ?_;conv=>whnf)|(refine need_i (by first|omega|(simp only [List.length_append,List.length_cons,List.length_nil];omega)) ?_;conv=>whnf)|((with_reducible first|refine branch_tt ?_|refine branch_ff ?_);conv=>whnf)|(with_reducible refine branch_not ?_)|((with_reducible first|refine slc_e ?_|refine callS_a ?_|refine bld_a ?_|refine own_e ?_|refine mkmap_b ?_|refine lnk_a ?_);conv=>whnf)))
 refine call_e (cut_ok x n hn) ?_
 (conv=>whnf);(repeat (first|(refine arith_i ⟨by omega,by omega⟩ ?_;conv=>whnf)|(refine need_i (by first|omega|(simp only [List.length_append,List.length_cons,List.length_nil];omega)) ?_;conv=>whnf)|((with_reducible first|refine branch_tt ?_|refine branch_ff ?_);conv=>whnf)|(with_reducible refine branch_not ?_)|((with_reducible first|refine slc_e ?_|refine callS_a ?_|refine bld_a ?_|refine own_e ?_|refine mkmap_b ?_|refine lnk_a ?_);conv=>whnf)))
 exact ret_p rfl ⟨_,rfl,cutG_low x n,cutG_in x n⟩
def BetW (a b:Int) (x:Int):Prop:=(b<a→x=a)∧(a≤b→a≤x∧x≤b)
theorem range_ok (a b:Int) (ha: -1000000≤a∧a≤1000000) (hb: -1000000≤b∧b≤1000000):Good Tryz.prog TT true 10 [.tape, .int .i64 a, .int .i64 b] (IntR (BetW a b)):=by
 refine good_of mixed tabOk Tryz.func10 rfl rfl Tryz.ntmps10 Tryz.results10 rfl rfl ?_
 (conv=>whnf);(repeat (first|(refine arith_i ⟨by omega,by omega⟩ ?_;conv=>whnf)|(refine need_i (by first|omega|(simp only [List.length_append,List.length_cons,List.length_nil];omega)) ?_;conv=>whnf)|((with_reducible first|refine branch_tt ?_|refine branch_ff ?_);conv=>whnf)|(with_reducible refine branch_not ?_)|((with_reducible first|refine slc_e ?_|refine callS_a ?_|refine bld_a ?_|refine own_e ?_|refine mkmap_b ?_|refine lnk_a ?_);conv=>whnf)))
 refine call_i (next_ok _ (by omega)) fun r hr=>?_
 obtain ⟨x,rfl,h1,h2⟩:=hr
 have hx:0≤x∧x≤2000001:=by omega
 (conv=>whnf);(repeat (first|(refine arith_i ⟨by omega,by omega⟩ ?_;conv=>whnf)|(refine need_i (by first|omega|(simp only [List.length_append,List.length_cons,List.length_nil];omega)) ?_;conv=>whnf)|((with_reducible first|refine branch_tt ?_|refine branch_ff ?_);conv=>whnf)|(with_reducible refine branch_not ?_)|((with_reducible first|refine slc_e ?_|refine callS_a ?_|refine bld_a ?_|refine own_e ?_|refine mkmap_b ?_|refine lnk_a ?_);conv=>whnf)))
 exact ret_p rfl ⟨_,rfl,by omega,by omega⟩
def BoolR (r:AV):Prop:=∃b,r= .bool b
theorem one_ok (n:Int) (hn: -1000000≤n∧n≤1000000):Good Tryz.prog TT true 29 [.tape, .int .i64 n] BoolR:=by
 refine good_of mixed tabOk Tryz.func29 rfl rfl Tryz.ntmps29 Tryz.results29 rfl rfl ?_
 (conv=>whnf);(repeat (first|(refine arith_i ⟨by omega,by omega⟩ ?_;conv=>whnf)|(refine need_i (by first|omega|(simp only [List.length_append,List.length_cons,List.length_nil];omega)) ?_;conv=>whnf)|((with_reducible first|refine branch_tt ?_|refine branch_ff ?_);conv=>whnf)|(with_reducible refine branch_not ?_)|((with_reducible first|refine slc_e ?_|refine callS_a ?_|refine bld_a ?_|refine own_e ?_|refine mkmap_b ?_|refine lnk_a ?_);conv=>whnf)))
 refine call_i (next_ok _ (by omega)) fun r hr=>?_
 obtain ⟨x,rfl,h1,h2⟩:=hr
 (conv=>whnf);(repeat (first|(refine arith_i ⟨by omega,by omega⟩ ?_;conv=>whnf)|(refine need_i (by first|omega|(simp only [List.length_append,List.length_cons,List.length_nil];omega)) ?_;conv=>whnf)|((with_reducible first|refine branch_tt ?_|refine branch_ff ?_);conv=>whnf)|(with_reducible refine branch_not ?_)|((with_reducible first|refine slc_e ?_|refine callS_a ?_|refine bld_a ?_|refine own_e ?_|refine mkmap_b ?_|refine lnk_a ?_);conv=>whnf)))
 exact ret_p rfl ⟨_,rfl⟩
theorem pick_ok (xs:List Int) (h0:0<xs.length) (hn:xs.length≤1000000):Good Tryz.prog TT true 30 [.tape,ints xs] (IntR (· ∈xs)):=by
 have L:(xs.map encI).length=xs.length:=List.length_map ..
 refine good_of mixed tabOk Tryz.func30 rfl rfl Tryz.ntmps30 Tryz.results30 rfl rfl ?_
 (conv=>whnf);(repeat (first|(refine arith_i ⟨by omega,by omega⟩ ?_;conv=>whnf)|(refine need_i (by first|omega|(simp only [List.length_append,List.length_cons,List.length_nil];omega)) ?_;conv=>whnf)|((with_reducible first|refine branch_tt ?_|refine branch_ff ?_);conv=>whnf)|(with_reducible refine branch_not ?_)|((with_reducible first|refine slc_e ?_|refine callS_a ?_|refine bld_a ?_|refine own_e ?_|refine mkmap_b ?_|refine lnk_a ?_);conv=>whnf)))
 refine call_i (next_ok _ (by omega)) fun r hr=>?_
 obtain ⟨x,rfl,h1,h2⟩:=hr
 (conv=>whnf);(repeat (first|(refine arith_i ⟨by omega,by omega⟩ ?_;conv=>whnf)|(refine need_i (by first|omega|(simp only [List.length_append,List.length_cons,List.length_nil];omega)) ?_;conv=>whnf)|((with_reducible first|refine branch_tt ?_|refine branch_ff ?_);conv=>whnf)|(with_reducible refine branch_not ?_)|((with_reducible first|refine slc_e ?_|refine callS_a ?_|refine bld_a ?_|refine own_e ?_|refine mkmap_b ?_|refine lnk_a ?_);conv=>whnf)))
 refine idx_m (by omega) (by omega) fun y hy=>?_
 (conv=>whnf);(repeat (first|(refine arith_i ⟨by omega,by omega⟩ ?_;conv=>whnf)|(refine need_i (by first|omega|(simp only [List.length_append,List.length_cons,List.length_nil];omega)) ?_;conv=>whnf)|((with_reducible first|refine branch_tt ?_|refine branch_ff ?_);conv=>whnf)|(with_reducible refine branch_not ?_)|((with_reducible first|refine slc_e ?_|refine callS_a ?_|refine bld_a ?_|refine own_e ?_|refine mkmap_b ?_|refine lnk_a ?_);conv=>whnf)))
 exact ret_p rfl ⟨_,rfl,List.mem_of_getElem? hy⟩
end Go.Proofs.YtihjphblcohdeaaGreatDoor
namespace Go.Proofs.YtihjphblcohdeaaGreatDoor
set_option maxRecDepth 10000
open Go.RowKit
theorem idx_c {α:Type} {enc:α→List AV} {xs:List α} {k:Nat} {K:List AV→Prop} (h1:k<xs.length) (h:∀x,xs[k]? =some x→K (enc x)):idx (xs.map enc) (k:Int) K:=
 idx_m (by omega) (by omega) fun x hx=>h x (by rwa [Int.toNat_natCast] at hx)
theorem idx_cs {α:Type} {enc:α→List AV} {xs:List α} {k:Nat} {x:α} {K:List AV→Prop} (h1:xs[k]? =some x) (h:K (enc x)):idx (xs.map enc) (k:Int) K:=
 idx_i (by omega) (by rw [Int.toNat_natCast,List.getElem?_map,h1];rfl) h
theorem idx_ms {α:Type} {enc:α→List AV} {xs:List α} {n:Int} {x:α} {K:List AV→Prop} (h0:0≤n) (h1:xs[n.toNat]? =some x) (h:K (enc x)):idx (xs.map enc) n K:=
 idx_i h0 (by rw [List.getElem?_map,h1];rfl) h
theorem drop_at {α:Type} {xs:List α} {k:Nat} {x:α} (h:xs[k]? =some x):xs.drop k=x::xs.drop (k+1):=by
 obtain ⟨h1,h2⟩:=List.getElem?_eq_some_iff.1 h
 rw [List.drop_eq_getElem_cons h1,h2]
theorem drop_end {α:Type} {xs:List α} {k:Nat} (h:xs.length≤k):xs.drop k=[]:=List.drop_eq_nil_of_le h
section
variable {P:Program} {T:Nat→Ty} {tt:Nat}
theorem loop_share {body:(Ex→St→Prop)→St→Prop} {Q:Ex→St→Prop} {s st:St} (h:aloop tt body Q st) (hle:Le tt s st):aloop tt body Q s:=by
 rw [aloop_iff] at h ⊢
 obtain ⟨α,I,f,μ,x0,h1,h2,h3⟩:=h
 exact ⟨α,I,f,μ,x0,h1,hle.trans h2,h3⟩
theorem loop_i2 {α β:Type} {s:St} (I:α→β→Prop) (st:α→β→St) (μ:α→β→Nat) {body:(Ex→St→Prop)→St→Prop} {Q:Ex→St→Prop} (a0:α) (b0:β) (h0:I a0 b0) (hle:Le tt s (st a0 b0))
 (h:∀a b,I a b→body (fun e s'=>match e with| .norm=>∃a' b',I a' b'∧Le tt s' (st a' b')∧μ a' b'<μ a b| .exit i=>Q (.exit i) s'| .ret=>Q .ret s') (st a b)):aloop tt body Q s:=
 loop_i (fun x:α×β=>I x.1 x.2) (fun x=>st x.1 x.2) (fun x=>μ x.1 x.2) (a0,b0) h0 hle fun x hx=>by
  refine Eq.mp (congrArg (fun K=>body K (st x.1 x.2)) (funext fun e=>funext fun s'=>?_)) (h x.1 x.2 hx)
  cases e<;>first|rfl|simp only [Prod.exists]
theorem loop_i3 {α β γ:Type} {s:St} (I:α→β→γ→Prop) (st:α→β→γ→St) (μ:α→β→γ→Nat) {body:(Ex→St→Prop)→St→Prop} {Q:Ex→St→Prop} (a0:α) (b0:β) (c0:γ) (h0:I a0 b0 c0) (hle:Le tt s (st a0 b0 c0))
 (h:∀a b c,I a b c→body (fun e s'=>match e with| .norm=>∃a' b' c',I a' b' c'∧Le tt s' (st a' b' c')∧μ a' b' c'<μ a b c| .exit i=>Q (.exit i) s'| .ret=>Q .ret s') (st a b c)):aloop tt body Q s:=
 loop_i (fun x:α×β×γ=>I x.1 x.2.1 x.2.2) (fun x=>st x.1 x.2.1 x.2.2) (fun x=>μ x.1 x.2.1 x.2.2) (a0,b0,c0) h0 hle fun x hx=>by
  refine Eq.mp (congrArg (fun K=>body K (st x.1 x.2.1 x.2.2)) (funext fun e=>funext fun s'=>?_)) (h x.1 x.2.1 x.2.2 hx)
  cases e<;>first|rfl|simp only [Prod.exists]
end
theorem bool_eq {a b:Bool} (h:a=b):AV.bool a= .bool b:=by rw [h]
theorem int_eq {k:IntKind} {a b:Int} (h:a=b):AV.int k a= .int k b:=by rw [h]
theorem own_eq {t:Tg} {e z:Nat} {a b:List (List AV)} (h:a=b):AV.own t e z a= .own t e z b:=by rw [h]
theorem str_eq {a b:ByteArray} (h:a=b):AV.str a= .str b:=by rw [h]
theorem snoc_at {α:Type} {l:List α} {x y:α} {k:Nat} (h:(l++[x])[k]? =some y):(k<l.length∧l[k]? =some y)∨(k=l.length∧x=y):=by
 rcases Nat.lt_or_ge k l.length with h'|h'
 ·rw [List.getElem?_append_left h'] at h;exact .inl ⟨h',h⟩
 ·have hk:=(List.getElem?_eq_some_iff.1 h).1
  rw [List.length_append,List.length_singleton] at hk
  obtain rfl:k=l.length:=by omega
  simp at h
  exact .inr ⟨rfl,h⟩
end Go.Proofs.YtihjphblcohdeaaGreatDoor
namespace Go.Proofs.YtihjphblcohdeaaGreatDoor
set_option maxRecDepth 10000
open Go.RowKit Go.Shelf Go.Sort
section
variable {P:Program} {tt:Nat} {b:Bool} {f:Nat}
def SortW (w:World) (g len:Nat) (W:World):Prop:=∃(m:Nat) (os:Array Obj) (dk:Array Value),dk.size=len∧W=grow (putRow id (Sort.ahead w m) g 0 dk) os
theorem sortW_block {w W:World} {g len k:Nat} (h:SortW w g len W) (hk:k<w.heap.size) (hne:k≠g):W.heap[k]? =w.heap[k]? :=by
 obtain ⟨m,os,dk, -,rfl⟩:=h
 rw [heap_grow_old _ _ (by simpa [putRow,mapBlock,Sort.ahead] using hk)]
 simp [putRow,mapBlock,Sort.ahead,Array.getElem?_modify,Ne.symm hne]
theorem sortW_size {w W:World} {g len:Nat} (h:SortW w g len W):w.heap.size≤W.heap.size:=by
 obtain ⟨m,os,dk, -,rfl⟩:=h
 simp [grow,putRow,mapBlock,Sort.ahead]
theorem grown_id {w:World} {g n:Nat} {os:Array Obj} (F:Array Value):w.grownBy (grow (putRow id (Sort.ahead w n) g 0 F) os) (some g):=by
 refine ⟨rfl,rfl,rfl,by simp [grow,putRow,mapBlock,Sort.ahead],fun k hk hne=>?_⟩
 rw [heap_grow_old _ _ (by simpa [putRow,mapBlock,Sort.ahead] using hk)]
 have:g≠k:=fun e=>hne (by rw [e])
 simp [putRow,mapBlock,Sort.ahead,Array.getElem?_modify,this]
theorem heap_id {w:World} {g n:Nat} {os:Array Obj} {cur:Array Value} {e:TypeId} {fr:Nat×Nat} (F:Array Value) (hb:w.heap[g]? =some (.cells cur e fr)):
 (grow (putRow id (Sort.ahead w n) g 0 F) os).heap[g]? =some (.cells (putCells id 0 F cur) e fr):=by
 have hg:g<w.heap.size:=(Array.getElem?_eq_some_iff.1 hb).1
 rw [heap_grow_old _ _ (by simpa [putRow,mapBlock,Sort.ahead] using hg)]
 simp [putRow,mapBlock,Sort.ahead,Array.getElem?_modify,hb,onCells]
theorem put_id (cur F:Array Value) (h:F.size≤cur.size):(cur.toList.take 0++F.toList++cur.toList.drop F.toList.length).toArray=putCells id 0 F cur:=by
 apply Array.ext'
 apply List.ext_getElem?
 intro j
 refine Eq.trans ?_ Array.getElem?_toList.symm
 show (F.toList++cur.toList.drop F.toList.length)[j]? =_
 by_cases hj:j<F.size
 ·rw [List.getElem?_append_left (by simpa using hj)]
  simp [putCells,hj,show j<cur.size by omega]
 ·rw [List.getElem?_append_right (by simpa using hj)]
  simp [putCells,hj,List.getElem?_drop,show F.size+(j-F.size)=j by omega]
theorem grown_of {w w':World} (h:ChgQ True No w w'):∃q os,w'=grow (w.drewN q) os:=by
 refine ⟨w'.drawn-w.drawn,w'.heap.extract w.heap.size w'.heap.size,?_⟩
 have hd:=h.drawn trivial
 have hh:w'.heap=w.heap++w'.heap.extract w.heap.size w'.heap.size:=by
  apply Array.ext_getElem?
  intro k
  rcases Nat.lt_or_ge k w.heap.size with hk|hk
  ·rw [Array.getElem?_append_left hk];exact h.block k hk no_
  ·rw [Array.getElem?_append_right hk,Array.getElem?_extract]
   split
   ·rw [show w.heap.size+(k-w.heap.size)=k by omega]
   ·rw [Array.getElem?_eq_none (by omega)]
 cases w with
 |mk heap tape drawn os output=>
  cases w' with
  |mk heap' tape' drawn' os' output'=>
   obtain ⟨h1,h2,h3,h4,h5,h6⟩:=h
   simp only at h1 h2 h3 hh hd
   subst h1 h2 h3
   simp only [grow,World.drewN,World.mk.injEq,true_and,and_true]
   exact ⟨hh,by omega⟩
def argA (ag:Bool) (c:List AV):AV:=bif ag then .agg c else c.headD .undef
def argV (ag:Bool) (c:List Value):Value:=bif ag then .agg c.toArray else c.headD undef
theorem plainCs_at:∀ {cs:List AV},plainCs cs=true→∀v∈cs,plainC v=true
 |[],_,_,h=>by cases h
 |c::cs,hp,v,h=>by
  simp only [plainCs,Bool.and_eq_true] at hp
  rcases List.mem_cons.1 h with rfl|h
  ·exact hp.1
  ·exact plainCs_at hp.2 v h
theorem plain_rc {B:Nat} {G:Gh} {w:World} {v:AV} {u:Value} (hp:plainC v=true):RC B G w v u↔RepV w (GX G) v u:=by
 cases v<;>first|exact Iff.rfl|(simp [plainC] at hp;done)|skip
 exact ⟨fun h=>by rw [show u= .slice none 0 0 from h];exact .nil0,fun h=>by cases h;rfl⟩
theorem plain_copy {T:Tg} {z lo:Nat} {src:List (List AV)}:∀ {cs:List AV},plainCs cs=true→cs.map (copyF T z lo src)=cs
 |[],_=>rfl
 |c::cs,hp=>by
  simp only [plainCs,Bool.and_eq_true] at hp
  rw [List.map_cons,plain_copy hp.2]
  congr 1
  cases c<;>first|rfl|(simp [plainC] at hp)
def CapOk (cap capL:List AV) (bx:List (Nat×List AV)):Prop:=(cap=[]∧capL=[]∧bx=[])∨∃cs,cap=[.ptr 1001 0]∧capL=[.ref cs]∧bx=[(1001,cs)]∧plainCs cs=true
theorem cmp_calls {w0:En} {G:Gh} {s:St} {a:Act} {w W:World} {g gg n c len e0:Nat} {E:Tg} {cur:Array Value} (S:Sim tt w0 G s a w) (hT:G.own E=some (.slice (some ⟨gg,0,none⟩) n c)) (hgc:w.heap[gg]? =some (.cells cur e0 (0,0))) (hW:SortW w gg len W)
 {x y:List AV} {cx cy:List Value} {ag:Bool} (hx:All2 (RepV w (GX G)) x cx) (hy:All2 (RepV w (GX G)) y cy) (px:plainCs x=true) (py:plainCs y=true) (hx1:ag=false→x.length=1) (hy1:ag=false→y.length=1)
 {cap capL:List AV} {bx:List (Nat×List AV)} {cb:List Value} (hcap:CapOk cap capL bx) (hbx:∀t cs,lkB bx t=some cs→s.box t=some cs) (hfn:All2 (RP w0.B G w) cap cb) {k:Int}
 (hG:Good P 1000000 false g ([argA ag x,argA ag y]++capL) (· = .int .i64 k)):
 Calls P g ([argV ag cx,argV ag cy]++cb).toArray W fun e w'=>e= .returned (.int .i64 k)∧∃q os,w'=grow (W.drewN q) os:=by
 have hg:GX G gg:= .inl (.inr (.inl ⟨_,_,hT,rfl⟩))
 have hsz:=sortW_size hW
 have hXlt:∀b,GX G b→b<w.heap.size:=fun b hb=>by
  rcases hb with (⟨t,ht⟩|⟨t,v,ht,hv⟩|ht)|ht
  ·exact (S.boxLt t b ht).2
  ·exact (S.ownLt t v b ht hv).2
  ·cases htp:s.tp with
   |true=>
    obtain ⟨p,h1,h2⟩:=S.tape htp
    rw [ht] at h1;injection h1 with h1;subst h1;exact h2.lt
   |false=>rw [S.noTape htp] at ht;cases ht
  ·exact Nat.lt_of_lt_of_le (S.ext b ht) S.chg.size
 have hne:∀ {b},¬GX G b→b≠gg:=fun h e=>h (e▸hg)
 have mv:∀v u,RepV w (GX G) v u→RepV W (GX (G0 none (GX G) (none,0,0))) v u:=fun v u hr=>hr.move (fun b hb hX=>sortW_block hW hb (hne hX)) fun b hb hX=>by
  rcases hX with (⟨t,ht⟩|⟨t,v,ht,hv⟩|ht)|ht
  ·cases ht
  ·cases ht
  ·cases ht
  ·exact ht
 have harg:∀(z:List AV) (cz:List Value),All2 (RepV w (GX G)) z cz→plainCs z=true→(ag=false→z.length=1)→RA W.heap.size (G0 none (GX G) (none,0,0)) W (argA ag z) (argV ag cz):=fun z cz hz pz h1=>by
  cases ag with
  |true=>
   refine ⟨cz,rfl,?_⟩
   refine All2.of hz.len fun j v u hv hu=>?_
   obtain ⟨u',hu',hr⟩:=hz.get hv
   rw [hu] at hu';injection hu' with hu';subst hu'
   exact (plain_rc (plainCs_at pz v (List.mem_of_getElem? hv))).2 (mv _ _ hr)
  |false=>
   have hl:=h1 rfl
   cases z with
   |nil=>cases hl
   |cons v vs=>
    have hvs:vs=[]:=List.eq_nil_of_length_eq_zero (by simpa using hl)
    subst hvs
    obtain ⟨u,us,rfl,hr,hn⟩:=hz.cons_inv
    obtain rfl:=hn.nil_inv
    have hp:=plainCs_at pz v (by simp)
    have hc:=mv _ _ hr
    show RA W.heap.size (G0 none (GX G) (none,0,0)) W v u
    cases v<;>first|exact hc|(simp [plainC] at hp;done)|skip
    cases hc;rfl
 have hgl:GlobAt W (GX G) none:=fun q xs h=>by
  obtain ⟨h1,h2,h3,h4⟩:=(S.globAt (X:=GX G) (tp:=none) (fun _ h=>h) nofun) q xs h
  exact ⟨Nat.lt_of_lt_of_le h1 hsz,h2,nofun,fun j x hx=>(World.cell?_of_block (a:=⟨q,j,none⟩) (sortW_block hW h1 (hne h2))).trans (h4 j x hx)⟩
 have hcaps:All2 (RA W.heap.size (G0 none (GX G) (none,0,0)) W) capL cb:=by
  rcases hcap with ⟨rfl,rfl,rfl⟩|⟨cs,rfl,rfl,rfl,hp⟩
  ·obtain rfl:=hfn.nil_inv;trivial
  ·obtain ⟨u,us,rfl,⟨bb,hb,rfl⟩,hn⟩:=hfn.cons_inv
   obtain rfl:=hn.nil_inv
   obtain ⟨bb',e,us,k1,k2,k3⟩:=S.box 1001 cs (hbx 1001 cs rfl)
   rw [hb] at k1;injection k1 with k1;subst k1
   have hblt:=(S.boxLt 1001 bb hb).2
   have hbne:bb≠gg:=fun e=>S.boxOwn 1001 _ _ gg (e▸hb) hT rfl
   refine ⟨⟨bb,0,us,rfl,Nat.lt_of_lt_of_le hblt hsz,fun hm=>?_,?_,fun j v hv=>?_⟩,trivial⟩
   ·rcases hm with ⟨t,ht⟩|⟨t,v,ht,hv⟩|ht
    ·cases ht
    ·cases ht
    ·cases ht
   ·refine All2.of k3.len fun j v u hv hu=> .inr ?_
    obtain ⟨u',hu',hr⟩:=k3.get hv
    rw [hu] at hu';injection hu' with hu';subst hu'
    exact mv _ _ ((plain_rc (plainCs_at hp v (List.mem_of_getElem? hv))).1 hr)
   ·rw [World.cell?_of_block (a:=⟨bb,0+j,none⟩) (sortW_block hW hblt hbne),Blk.cell k2]
    simpa using hv
 have hA:All2 (RA W.heap.size (G0 none (GX G) (none,0,0)) W) ([argA ag x,argA ag y]++capL) ([argV ag cx,argV ag cy]++cb):=⟨harg x cx hx px hx1,harg y cy hy py hy1,hcaps⟩
 refine (hG.2 W (GX G) none _ (none,0,0) (fun b hb=>Nat.lt_of_lt_of_le (hXlt b hb) hsz) hgl rfl hA nofun).mono ?_
 rintro e w' ⟨u,r,rfl,rfl,hr,hc, -⟩
 have hu:RepV w' (GX (G0 none (GX G) (none,0,0))) (.int .i64 k) u:=hr
 cases hu
 refine ⟨rfl,grown_of ⟨hc.os,hc.tape,hc.output,hc.size,fun b hb hx=>hc.block b hb nofun,fun _=>hc.drawn (Nat.le_refl _)⟩⟩
theorem holds_id {w:World} {g:Nat} {cur:Array Value} {e:TypeId} {F:List Value} (hb:w.heap[g]? =some (.cells cur e (0,0))) (ht:cur.toList.take F.length=F):Holds id w g 0 F.toArray:=by
 intro j hj
 have hj':j<F.length:=by simpa using hj
 refine ⟨?_,by simp [World.frozen?,hb]⟩
 have h1:(cur.toList.take F.length)[j]? =F[j]? :=by rw [ht]
 rw [List.getElem?_take_of_lt hj'] at h1
 simp only [World.cell?,hb,Nat.zero_add]
 simp only [Option.isSome_none,Bool.false_eq_true,if_false]
 rw [←Array.getElem?_toList,h1]
 simp [hj']
set_option maxHeartbeats 1000000 in
theorem sortF_core (hent:Enters P f) (E z g:Nat) (ag:Bool) (cf:List AV→List AV→Int) (es:List (List AV)) {cap capL:List AV} {bx:List (Nat×List AV)}
 (hz:∀c∈es,c.length=z∧plainCs c=true) (hag:ag=false→z=1) (hcap:CapOk cap capL bx)
 (hcmp:∀x∈es,∀y∈es,Good P 1000000 false g ([argA ag x,argA ag y]++capL) (· = .int .i64 (cf x y)))
 (hcall:∀(w:World) (blk c:Nat) (cb:List Value) (css:List (List Value)),css.length=es.length→0<es.length→(∀d∈css,d.length=z∧∀v∈d,v.oneCell'=true)→Holds id w blk 0 css.flatten.toArray→blk<w.heap.size→
   (∀W,SortW w blk css.flatten.length W→∀(i j:Nat) x y cx cy,es[i]? =some x→es[j]? =some y→css[i]? =some cx→css[j]? =some cy→Calls P g ([argV ag cx,argV ag cy]++cb).toArray W fun e w'=>e= .returned (.int .i64 (cf x y))∧∃q os,w'=grow (W.drewN q) os)→
   Calls P f #[.slice (some ⟨blk,0,none⟩) es.length c, .func (.func g) #[] cb.toArray] w fun e w'=>e= .returned (.tuple #[])∧∃(p:List Nat) (n:Nat) (os:Array Obj),p.Perm (List.range es.length)∧(p.Pairwise fun i j=>∀x y,es[i]? =some x→es[j]? =some y→¬cf y x<0)∧w'=grow (putRow id (Sort.ahead w n) blk 0 ((p.map fun i=>css.getD i []).flatten.toArray)) os)
 (hnil:∀(w:World) (cb:Array Value),Calls P f #[.slice none 0 0, .func (.func g) #[] cb] w fun e w'=>e= .returned (.tuple #[])∧w'=w)
 (hnil2:∀(w:World) (cb:Array Value) (A:Option Addr) (c:Nat),Calls P f #[.slice A 0 c, .func (.func g) #[] cb] w fun e w'=>e= .returned (.tuple #[])∧w'=w):
 GoodM P tt b f [.own 0 E z es, .fn g cap] bx (fun r ov bx'=>r= .tup []∧bx'=bx∧∃es':List (List AV),es'.Perm es∧es'.Pairwise (fun x y=>¬cf y x<0)∧ov=[(1000, .own 0 E z es')]):=by
 refine ⟨hent,fun w0 G us S hA=>?_⟩
 obtain ⟨u,us',rfl,h1,h2⟩:=hA.cons_inv
 obtain ⟨uf,us2,rfl,h3,h4⟩:=h2.cons_inv
 obtain rfl:=h4.nil_inv
 obtain ⟨hT,css,ho,hcs⟩:=(show RC w0.B G w0.toWorld (.own 0 E z es) u from h1)
 obtain ⟨cb,rfl,hfn⟩:=(show ∃us:List Value,uf= .func (.func g) #[] us.toArray∧All2 (RP w0.B G w0.toWorld) cap us from h3)
 have hbxS:∀t cs,lkB bx t=some cs→(mkSt (ovOf 1000 [AV.own 0 E z es, .fn g cap]) bx b).box t=some cs:=fun t cs h=>h
 have hlen:=hcs.len
 rcases ho.2 with ⟨rfl,h0⟩|⟨gg,c,cur,rfl,hg,hh,hc,hm,hsz,ht⟩
 ·have hx:es=[]:=List.eq_nil_of_length_eq_zero h0
  subst hx
  refine (hnil _ _).mono ?_
  rintro e w' ⟨rfl,rfl⟩
  exact ⟨_, .tup [],_,_,G,rfl,⟨rfl,rfl,[],List.Perm.refl _,List.Pairwise.nil,rfl⟩,S,⟨[],rfl,trivial⟩⟩
 ·by_cases h0:es.length=0
  ·have hx:es=[]:=List.eq_nil_of_length_eq_zero h0
   subst hx
   refine (hnil2 _ _ _ _).mono ?_
   rintro e w' ⟨rfl,rfl⟩
   exact ⟨_, .tup [],_,_,G,rfl,⟨rfl,rfl,[],List.Perm.refl _,List.Pairwise.nil,rfl⟩,S,⟨[],rfl,trivial⟩⟩
  have hlt:gg<w0.toWorld.heap.size:=(Array.getElem?_eq_some_iff.1 hh).1
  obtain ⟨hl1,hl2⟩:=OwnRep.lens hcs
  have hflen:css.flatten.length=es.length * z:=by rw [flat_len hl1,←hlen]
  have hsz':es.length * z≤cur.size:=by rw [hsz];exact Nat.mul_le_mul_right z hc
  rw [←hflen] at ht
  have hone:∀d∈css,d.length=z∧∀v∈d,v.oneCell'=true:=fun d hd=>by
   refine ⟨hl1 d hd,fun v hv=>?_⟩
   obtain ⟨j,hj⟩:=List.getElem?_of_mem hd
   obtain ⟨x,hx,hr⟩:=hcs.get' hj
   obtain ⟨k,hk⟩:=List.getElem?_of_mem hv
   obtain ⟨a,ha,hr2⟩:=hr.2.get' hk
   exact hr2.one
  refine (hcall _ gg c cb css hlen.symm (by omega) hone (holds_id hh ht) hlt fun W hW i j x y cx cy hx hy hcx hcy=>?_).mono ?_
  ·obtain ⟨cx',e1,r1⟩:=hcs.get hx
   rw [hcx] at e1;injection e1 with e1;subst e1
   obtain ⟨cy',e2,r2⟩:=hcs.get hy
   rw [hcy] at e2;injection e2 with e2;subst e2
   have mx:=hz x (List.mem_of_getElem? hx)
   have my:=hz y (List.mem_of_getElem? hy)
   exact cmp_calls S hT hh hW r1.2 r2.2 mx.2 my.2 (fun h=>mx.1.trans (hag h)) (fun h=>my.1.trans (hag h)) hcap hbxS hfn (hcmp x (List.mem_of_getElem? hx) y (List.mem_of_getElem? hy))
  ·rintro e w' ⟨rfl,p,n,os,hp,hsort,rfl⟩
   have hpl:p.length=es.length:=by rw [hp.length_eq,List.length_range]
   have hpm:∀i∈p,i<es.length:=fun i hi=>List.mem_range.1 ((hp.mem_iff).1 hi)
   have hA2:All2 (fun ds cs=>ds.length=z∧All2 (RepV w0.toWorld (GX G)) ds cs) (p.map fun i=>es.getD i []) (p.map fun i=>css.getD i []):=All2.of (by simp) fun j x y hx hy=>by
    rw [List.getElem?_map] at hx hy
    obtain ⟨i,hi,rfl⟩:=Option.map_eq_some_iff.1 hx
    rw [hi] at hy
    simp only [Option.map_some,Option.some.injEq] at hy
    subst hy
    have hil:=hpm i (List.mem_of_getElem? hi)
    have e1:es[i]? =some es[i]:=List.getElem?_eq_getElem hil
    obtain ⟨c',e2,r⟩:=hcs.get e1
    rw [List.getD_eq_getElem?_getD,List.getD_eq_getElem?_getD,e1,e2]
    exact r
   have hfl2:(p.map fun i=>css.getD i []).flatten.length=css.flatten.length:=by
    rw [flat_len (OwnRep.lens hA2).1,List.length_map,hpl,hflen]
   have S1:=S.copyOwn (src:=p.map fun i=>es.getD i []) (dss:=p.map fun i=>css.getD i []) (lo:=0) (z:=z) (T:=0) (n:=es.length) hT hh (by simp [hpl]) hsz' hA2
   rw [Nat.zero_mul,Nat.zero_add,show (p.map fun i=>css.getD i []).flatten=(p.map fun i=>css.getD i []).flatten.toArray.toList from rfl,put_id cur _ (by rw [List.size_toArray,hfl2,hflen];exact hsz')] at S1
   have S2:=S1.world (w':=grow (putRow id (Sort.ahead w0.toWorld n) gg 0 ((p.map fun i=>css.getD i []).flatten.toArray)) os) ?sz ?bl ?ch
   case sz=>simp [World.setRow,grow,putRow,mapBlock,Sort.ahead]
   case bl=>
    intro k hk
    by_cases hkg:k=gg
    ·subst hkg
     rw [heap_id _ hh,setRow_heap _ _ _ _ _ _ hh]
    ·rw [setRow_other _ _ _ _ hkg]
     exact (grown_id (w:=w0.toWorld) (g:=gg) (n:=n) (os:=os) _).block k (by simpa [World.setRow] using hk) (by simpa using hkg)
   case ch=>
    refine S.chg.grown (row:=some gg) (grown_id _) (fun k hk=>?_) fun _=>by simp [grow,putRow,mapBlock,Sort.ahead]
    injection hk with hk
    subst hk
    rcases (S.ownLt 0 _ gg hT rfl).1 with h|h
    ·exact .inr h
    ·exact .inl (.inr h)
   have hres:(p.map fun i=>es.getD i []).Perm es:=by
    have h1:=hp.map fun i=>es.getD i []
    have h2:(List.range es.length).map (fun i=>es.getD i [])=es:=by
     refine List.ext_getElem? fun k=>?_
     rw [List.getElem?_map]
     by_cases hk:k<es.length
     ·rw [List.getElem?_range hk];simp [List.getD_eq_getElem?_getD,hk]
     ·rw [List.getElem?_eq_none (by rw [List.length_range];omega),List.getElem?_eq_none (by omega)];rfl
    rwa [h2] at h1
   refine ⟨_, .tup [],[(1000, .own 0 E z (p.map fun i=>es.getD i []))],bx,G,rfl,⟨rfl,rfl,_,hres,?_,rfl⟩,?_,⟨[],rfl,trivial⟩⟩
   ·rw [List.pairwise_map]
    refine hsort.imp_of_mem fun {i j} hi hj h=>?_
    have hii:=hpm i hi
    have hjj:=hpm j hj
    have e1:es[i]? =some es[i]:=List.getElem?_eq_getElem hii
    have e2:es[j]? =some es[j]:=List.getElem?_eq_getElem hjj
    rw [List.getD_eq_getElem?_getD,List.getD_eq_getElem?_getD,e1,e2]
    exact h _ _ e1 e2
   ·have e:spl es 0 (p.map fun i=>es.getD i [])=p.map fun i=>es.getD i []:=by simp [spl,hpl]
    refine { S2 with slot:=fun i=>?_,box:=fun t cs h=>?_ }
    ·by_cases hi:i=1000
     ·subst hi
      have:=S2.slot 1000
      rw [show ((mkSt (ovOf 1000 [AV.own 0 E z es, .fn g cap]) bx b).map (copyF 0 z 0 (p.map fun i=>es.getD i []))).slot 1000= .own 0 E z (spl es 0 (p.map fun i=>es.getD i [])) from by
       show AV.mapT (copyF 0 z 0 (p.map fun i=>es.getD i [])) (AV.own 0 E z es)=_
       simp [AV.mapT,AV.mapG,copyF,Tg.eqb_self,beq_self],e] at this
      exact this
     ·rw [show (mkSt [(1000,AV.own 0 E z (p.map fun i=>es.getD i []))] bx b).slot i= .undef from by simp [mkSt,lk,beq_ne hi]]
      trivial
    ·refine S2.box t cs ?_
     show (lkB bx t).map (List.map (copyF 0 z 0 (p.map fun i=>es.getD i [])))=some cs
     rw [show lkB bx t=some cs from h]
     rcases hcap with ⟨rfl,rfl,rfl⟩|⟨cs0,rfl,rfl,rfl,hp0⟩
     ·cases h
     ·have h':lkB [(1001,cs0)] t=some cs:=h
      simp only [lkB] at h'
      cases hb:Nat.beq t 1001 with
      |true=>
       rw [hb] at h'
       injection h' with h'
       subst h'
       exact congrArg some (plain_copy hp0)
      |false=>rw [hb] at h';cases h'
theorem flatK_eq {α:Type} [Inhabited α] (enc:α→List Value) (k:Nat) (hk:∀x,(enc x).length=k) (h0:0<k) (d:Array α):flatK enc k d=((d.toList.map enc).flatten).toArray:=by
 have hl:∀c∈d.toList.map enc,c.length=k:=fun c hc=>by
  obtain ⟨x,_,rfl⟩:=List.mem_map.1 hc
  exact hk x
 refine ext_get! (by simp only [size_flatK,List.size_toArray];rw [flat_len hl];simp) fun t ht=>?_
 have ht':t<d.size * k:=by simpa using ht
 rw [get_flatK _ _ _ t ht']
 have hd:t / k<d.size:=Nat.div_lt_of_lt_mul (by rwa [Nat.mul_comm] at ht')
 have hm:t % k<k:=Nat.mod_lt _ h0
 have e1:(d.toList.map enc)[t / k]? =some (enc d[t / k]!):=by simp [hd]
 have e2:(enc d[t / k]!)[t % k]? =some ((enc d[t / k]!)[t % k]!):=by
  rw [List.getElem?_eq_getElem (by rw [hk];exact hm)]
  simp [hk,hm]
 have:=flatten_at hl e1 e2
 rw [show t / k * k+t % k=t from by rw [Nat.mul_comm];exact Nat.div_add_mod t k] at this
 simp only [getElem!_def,List.getElem?_toArray,this]
theorem range_fin (n:Nat):(List.finRange n).map (fun i=>i.val)=List.range n:=by
 refine List.ext_getElem? fun k=>?_
 rw [List.getElem?_map]
 by_cases hk:k<n
 ·rw [List.getElem?_range hk,List.getElem?_eq_getElem (by simpa using hk)]
  simp
 ·rw [List.getElem?_eq_none (by simp;omega),List.getElem?_eq_none (by simp;omega)];rfl
theorem perm_fin {n:Nat} {d':Array (_root_.Fin n)} [Inhabited (_root_.Fin n)] (h:PermIn 0 n (List.finRange n).toArray d'):(d'.toList.map fun i=>i.val).Perm (List.range n):=by
 obtain ⟨h1,h2,h3⟩:=h
 rw [Array.extract_eq_self_of_le (by rw [h1];simp),Array.extract_eq_self_of_le (by simp)] at h3
 have:=h3.map fun i=>i.val
 rwa [List.toList_toArray,range_fin] at this
theorem sorted_fin {n:Nat} {d':Array (_root_.Fin n)} [Inhabited (_root_.Fin n)] {cf:List AV→List AV→Int} {es:List (List AV)} (he:es.length=n) (hs:d'.size=n) (h:SortedIn (ltOf fun i j:_root_.Fin n=>cf (es.getD i.val []) (es.getD j.val [])) 0 n d'):
 (d'.toList.map fun i=>i.val).Pairwise fun i j=>∀x y,es[i]? =some x→es[j]? =some y→¬cf y x<0:=by
 rw [List.pairwise_map,List.pairwise_iff_getElem]
 intro i j hi hj hij x y hx hy
 have:=h i j (Nat.zero_le _) hij (by simpa [hs] using hj)
 simp only [Array.length_toList] at hi hj
 rw [getElem!_pos d' i hi,getElem!_pos d' j hj] at this
 simp only [Array.getElem_toList] at hx hy
 rw [ltOf,List.getD_eq_getElem?_getD,List.getD_eq_getElem?_getD,hx,hy] at this
 exact of_decide_eq_false this
theorem sortK_ok {ρ:Ren} (L:SlLaysF0.n6 P ρ) (hf:ρ.f 6=f) (hent:Enters P f) (E z g:Nat) (hz0:0<z) (aE:∀w,(isAgg (ρ.t 24)).run P w= .ok true w) (zE:∀w,(Go.sizeOf (ρ.t 24)).run P w= .ok z w)
 (eg:∀args w,(callFunc g args).run P w= .ok (.enter g args) w) (cf:List AV→List AV→Int) (es:List (List AV)) (hn:es.length≤1000000) {cap capL:List AV} {bx:List (Nat×List AV)}
 (hz:∀c∈es,c.length=z∧plainCs c=true) (hcap:CapOk cap capL bx)
 (hO:SWO (ltOf fun i j:_root_.Fin es.length=>cf (es.getD i.val []) (es.getD j.val [])))
 (hcmp:∀x∈es,∀y∈es,Good P 1000000 false g ([.agg x, .agg y]++capL) (· = .int .i64 (cf x y))):
 GoodM P tt b f [.own 0 E z es, .fn g cap] bx (fun r ov bx'=>r= .tup []∧bx'=bx∧∃es':List (List AV),es'.Perm es∧es'.Pairwise (fun x y=>¬cf y x<0)∧ov=[(1000, .own 0 E z es')]):=by
 subst hf
 refine sortF_core hent E z g true cf es hz nofun hcap hcmp (fun w blk c cb css hl h0 hone hH hblk hC=>?_) (fun w cb=>AnyF.slices_SortFunc_none L none 0 _ w) (fun w cb A c=>AnyF.slices_SortFunc_none L A c _ w)
 have inst:Inhabited (_root_.Fin es.length):=⟨⟨0,h0⟩⟩
 let enc:_root_.Fin es.length→List Value:=fun i=>css.getD i.val []
 have hmem:∀i:_root_.Fin es.length,css.getD i.val []∈css:=fun i=>by
  have hi:i.val<css.length:=by rw [hl];exact i.2
  rw [List.getD_eq_getElem?_getD,List.getElem?_eq_getElem hi]
  exact List.getElem_mem hi
 have hk:∀i,(enc i).length=z:=fun i=>(hone _ (hmem i)).1
 have hd:((List.finRange es.length).toArray.toList.map enc)=css:=by
  rw [List.toList_toArray]
  refine List.ext_getElem? fun k=>?_
  rw [List.getElem?_map]
  by_cases hk:k<es.length
  ·rw [List.getElem?_eq_getElem (by simpa using hk)]
   simp [enc,List.getD_eq_getElem?_getD,hl,hk]
  ·rw [List.getElem?_eq_none (by simp;omega),List.getElem?_eq_none (by omega)];rfl
 have hsz:(List.finRange es.length).toArray.size=es.length:=by simp
 have hlen:css.flatten.length=es.length * z:=by rw [flat_len (fun c hc=>(hone c hc).1),hl]
 have key:=AnyQ.slices_SortFunc L z aE zE enc hk (fun i v hv=>(hone _ (hmem i)).2 v hv) (fun i j:_root_.Fin es.length=>cf (es.getD i.val []) (es.getD j.val [])) hO g cb.toArray blk 0 c (List.finRange es.length).toArray w eg
  (fun m os dk hdk i j=>by
    have hi:es[i.val]? =some es[i.val]:=List.getElem?_eq_getElem i.2
    have hj:es[j.val]? =some es[j.val]:=List.getElem?_eq_getElem j.2
    have hW:SortW w blk css.flatten.length (sortWorldK enc z w blk 0 m dk os):=⟨m,os,flatK enc z dk,by rw [size_flatK,hdk,hsz,hlen],rfl⟩
    have:=hC _ hW i.val j.val _ _ (css.getD i.val []) (css.getD j.val []) hi hj (by rw [List.getD_eq_getElem?_getD,List.getElem?_eq_getElem (by rw [hl];exact i.2)];rfl) (by rw [List.getD_eq_getElem?_getD,List.getElem?_eq_getElem (by rw [hl];exact j.2)];rfl)
    simp only []
    rw [List.getD_eq_getElem?_getD (l:=es),List.getD_eq_getElem?_getD (l:=es),hi,hj]
    simpa [argV,enc] using this)
  (by rw [HoldsK,flatK_eq enc z hk hz0,hd];exact hH) hblk (by rw [hsz];omega)
 rw [hsz] at key
 refine key.mono ?_
 rintro e w' ⟨rfl,d',n,os,hp,hs,rfl⟩
 have hds:d'.size=es.length:=by rw [hp.1,hsz]
 refine ⟨rfl,d'.toList.map (fun i=>i.val),n,os,perm_fin hp,sorted_fin rfl hds hs,?_⟩
 rw [sortWorldK,putRowK,flatK_eq enc z hk hz0,List.map_map]
 rfl
theorem putRow_map {α:Type} [Inhabited α] (enc:α→Value) (w:World) (blk:Nat) (d:Array α):putRow enc w blk 0 d=putRow id w blk 0 (d.map enc):=by
 unfold putRow
 congr 1
 funext c
 unfold putCells
 congr 1
 funext k x
 rw [Array.size_map]
 split
 ·next h=>
  have:k<d.size:=by omega
  simp [this]
 ·rfl
theorem sort1_ok {ρ:Ren} (L:SlLaysF.n6 P ρ) (L0:SlLaysF0.n6 P ρ) (hf:ρ.f 6=f) (hent:Enters P f) (E g:Nat)
 (eg:∀args w,(callFunc g args).run P w= .ok (.enter g args) w) (cf:List AV→List AV→Int) (es:List (List AV)) (hn:es.length≤1000000) {cap capL:List AV} {bx:List (Nat×List AV)}
 (hz:∀c∈es,c.length=1∧plainCs c=true) (hcap:CapOk cap capL bx)
 (hO:SWO (ltOf fun i j:_root_.Fin es.length=>cf (es.getD i.val []) (es.getD j.val [])))
 (hcmp:∀x∈es,∀y∈es,Good P 1000000 false g ([x.headD .undef,y.headD .undef]++capL) (· = .int .i64 (cf x y))):
 GoodM P tt b f [.own 0 E 1 es, .fn g cap] bx (fun r ov bx'=>r= .tup []∧bx'=bx∧∃es':List (List AV),es'.Perm es∧es'.Pairwise (fun x y=>¬cf y x<0)∧ov=[(1000, .own 0 E 1 es')]):=by
 subst hf
 refine sortF_core hent E 1 g false cf es hz (fun _=>rfl) hcap hcmp (fun w blk c cb css hl h0 hone hH hblk hC=>?_) (fun w cb=>AnyF.slices_SortFunc_none L0 none 0 _ w) (fun w cb A c=>AnyF.slices_SortFunc_none L0 A c _ w)
 have inst:Inhabited (_root_.Fin es.length):=⟨⟨0,h0⟩⟩
 let enc:_root_.Fin es.length→Value:=fun i=>(css.getD i.val []).headD undef
 have hmem:∀i:_root_.Fin es.length,css.getD i.val []∈css:=fun i=>by
  have hi:i.val<css.length:=by rw [hl];exact i.2
  rw [List.getD_eq_getElem?_getD,List.getElem?_eq_getElem hi]
  exact List.getElem_mem hi
 have hcell:∀i:_root_.Fin es.length,css.getD i.val []=[enc i]:=fun i=>by
  have:=(hone _ (hmem i)).1
  show css.getD i.val []=[(css.getD i.val []).headD undef]
  generalize css.getD i.val []=l at this
  match l,this with
  |[x],_=>rfl
 have hfl:css.flatten=(List.finRange es.length).map enc:=by
  have hd:css=(List.finRange es.length).map fun i=>[enc i]:=by
   refine List.ext_getElem? fun k=>?_
   rw [List.getElem?_map]
   by_cases hk:k<es.length
   ·rw [List.getElem?_eq_getElem (l:=List.finRange es.length) (by simpa using hk)]
    have:=hcell ⟨k,hk⟩
    rw [List.getElem_finRange]
    show css[k]? =some [enc ⟨k,hk⟩]
    rw [←show css.getD k []=_ from this,List.getD_eq_getElem?_getD,List.getElem?_eq_getElem (by omega)]
    rfl
   ·rw [List.getElem?_eq_none (by omega),List.getElem?_eq_none (by simp;omega)];rfl
  rw [hd]
  generalize List.finRange es.length=l
  induction l with
  |nil=>rfl
  |cons x l ih=>simp [ih]
 have hsz:(List.finRange es.length).toArray.size=es.length:=by simp
 have hlen:css.flatten.length=es.length:=by rw [hfl];simp
 have key:=Any.slices_SortFunc L enc (fun i=>by
  have:=(hone _ (hmem i)).2 (enc i) (by rw [hcell];simp)
  exact this) (fun i j:_root_.Fin es.length=>cf (es.getD i.val []) (es.getD j.val [])) hO g cb.toArray blk 0 c (List.finRange es.length).toArray w eg
  (fun m os dk hdk i j=>by
    have hi:es[i.val]? =some es[i.val]:=List.getElem?_eq_getElem i.2
    have hj:es[j.val]? =some es[j.val]:=List.getElem?_eq_getElem j.2
    have hW:SortW w blk css.flatten.length (sortWorld enc w blk 0 m dk os):=⟨m,os,dk.map enc,by rw [Array.size_map,hdk,hsz,hlen],by rw [sortWorld,putRow_map]⟩
    have:=hC _ hW i.val j.val _ _ (css.getD i.val []) (css.getD j.val []) hi hj (by rw [List.getD_eq_getElem?_getD,List.getElem?_eq_getElem (by rw [hl];exact i.2)];rfl) (by rw [List.getD_eq_getElem?_getD,List.getElem?_eq_getElem (by rw [hl];exact j.2)];rfl)
    simp only []
    rw [List.getD_eq_getElem?_getD (l:=es),List.getD_eq_getElem?_getD (l:=es),hi,hj]
    simpa [argV,enc] using this)
  (fun j hj=>by
    rw [hsz] at hj
    have:=hH j (by rw [List.size_toArray,hlen];exact hj)
    rw [hfl] at this
    simpa [hj] using this) hblk (by rw [hsz];omega)
 rw [hsz] at key
 refine key.mono ?_
 rintro e w' ⟨rfl,d',n,os,hp,hs,rfl⟩
 have hds:d'.size=es.length:=by rw [hp.1,hsz]
 refine ⟨rfl,d'.toList.map (fun i=>i.val),n,os,perm_fin hp,sorted_fin rfl hds hs,?_⟩
 rw [sortWorld,putRow_map,List.map_map]
 congr 2
 apply Array.ext'
 rw [Array.toList_map,List.toList_toArray]
 clear hds hp hs
 generalize d'.toList=l
 induction l with
 |nil=>rfl
 |cons x l ih=>
  rw [List.map_cons,List.map_cons,List.flatten_cons,ih,Function.comp_apply,hcell];rfl
end
end Go.Proofs.YtihjphblcohdeaaGreatDoor
namespace Go.Proofs.YtihjphblcohdeaaGreatDoor
set_option maxRecDepth 100000
open Go.Shelf Go.Sort Go.RowKit
def laysSI_ren:Go.Shelf.Ren:=⟨fun|6=>147|15=>74|14=>178|28=>118|29=>119|20=>194|21=>195|22=>196|23=>197|24=>198|25=>199|26=>200|27=>201|46=>209|47=>157|48=>158|49=>210|50=>211|57=>214|n=>n,fun|22=>22|24=>3|25=>36|3=>3|39=>154|0=>0|53=>203|55=>205|4=>4|46=>197|45=>196|50=>148|5=>5|9=>9|66=>239|70=>243|76=>262|77=>263|n=>n,fun|n=>n⟩
theorem laysSI:SlLaysF.n6 Tryz.prog laysSI_ren:={
 mixed:=by kernel_rfl,
 f6:=⟨Tryz.f147.name,by kernel_rfl,Tryz.func147.trans (congrArg some (by kernel_rfl))⟩,
 f14:=⟨Tryz.f178.name,by kernel_rfl,Tryz.func178.trans (congrArg some (by kernel_rfl))⟩,
 f15:=Tryz.func74.trans (congrArg some (by kernel_rfl)),
 f20:=⟨Tryz.f194.name,by kernel_rfl,Tryz.func194.trans (congrArg some (by kernel_rfl))⟩,
 f21:=⟨Tryz.f195.name,by kernel_rfl,Tryz.func195.trans (congrArg some (by kernel_rfl))⟩,
 f22:=⟨Tryz.f196.name,by kernel_rfl,Tryz.func196.trans (congrArg some (by kernel_rfl))⟩,
 f23:=⟨Tryz.f197.name,by kernel_rfl,Tryz.func197.trans (congrArg some (by kernel_rfl))⟩,
 f24:=⟨Tryz.f198.name,by kernel_rfl,Tryz.func198.trans (congrArg some (by kernel_rfl))⟩,
 f25:=⟨Tryz.f199.name,by kernel_rfl,Tryz.func199.trans (congrArg some (by kernel_rfl))⟩,
 f26:=⟨Tryz.f200.name,by kernel_rfl,Tryz.func200.trans (congrArg some (by kernel_rfl))⟩,
 f27:=⟨Tryz.f201.name,by kernel_rfl,Tryz.func201.trans (congrArg some (by kernel_rfl))⟩,
 f28:=Tryz.func118.trans (congrArg some (by kernel_rfl)),
 f29:=Tryz.func119.trans (congrArg some (by kernel_rfl)),
 f46:=⟨Tryz.f209.name,by kernel_rfl,Tryz.func209.trans (congrArg some (by kernel_rfl))⟩,
 f47:=Tryz.func157.trans (congrArg some (by kernel_rfl)),
 f48:=Tryz.func158.trans (congrArg some (by kernel_rfl)),
 f49:=⟨Tryz.f210.name,by kernel_rfl,Tryz.func210.trans (congrArg some (by kernel_rfl))⟩,
 f50:=⟨Tryz.f211.name,by kernel_rfl,Tryz.func211.trans (congrArg some (by kernel_rfl))⟩,
 f57:=⟨Tryz.f214.name,by kernel_rfl,Tryz.func214.trans (congrArg some (by kernel_rfl))⟩,
 t0:=Tryz.underlying0,
 a0:=Tryz.isAgg0,
 z0:=Tryz.sizeOf0,
 v0:=Tryz.zeroValue0,
 t3:=Tryz.underlying3,
 a3:=Tryz.isAgg3,
 z3:=Tryz.sizeOf3,
 v3:=Tryz.zeroValue3,
 t4:=Tryz.underlying4,
 a4:=Tryz.isAgg4,
 z4:=Tryz.sizeOf4,
 v4:=Tryz.zeroValue4,
 t5:=Tryz.underlying5,
 a5:=Tryz.isAgg5,
 z5:=Tryz.sizeOf5,
 v5:=Tryz.zeroValue5,
 t9:=Tryz.underlying9,
 a9:=Tryz.isAgg9,
 z9:=Tryz.sizeOf9,
 v9:=Tryz.zeroValue9,
 t22:=Tryz.underlying22,
 a22:=Tryz.isAgg22,
 z22:=Tryz.sizeOf22,
 v22:=Tryz.zeroValue22,
 a24:=Tryz.isAgg3,
 z24:=Tryz.sizeOf3,
 t25:=Tryz.underlying36,
 a25:=Tryz.isAgg36,
 z25:=Tryz.sizeOf36,
 v25:=Tryz.zeroValue36,
 t39:=Tryz.underlying154,
 a39:=Tryz.isAgg154,
 z39:=Tryz.sizeOf154,
 v39:=Tryz.zeroValue154,
 t45:=Tryz.underlying196,
 a45:=Tryz.isAgg196,
 z45:=Tryz.sizeOf196,
 v45:=Tryz.zeroValue196,
 t46:=Tryz.underlying197,
 a46:=Tryz.isAgg197,
 z46:=Tryz.sizeOf197,
 v46:=Tryz.zeroValue197,
 t50:=Tryz.underlying148,
 a50:=Tryz.isAgg148,
 z50:=Tryz.sizeOf148,
 v50:=Tryz.zeroValue148,
 t53:=Tryz.underlying203,
 a53:=Tryz.isAgg203,
 z53:=Tryz.sizeOf203,
 v53:=Tryz.zeroValue203,
 t55:=Tryz.underlying205,
 a55:=Tryz.isAgg205,
 z55:=Tryz.sizeOf205,
 v55:=Tryz.zeroValue205,
 t66:=Tryz.underlying239,
 a66:=Tryz.isAgg239,
 z66:=Tryz.sizeOf239,
 v66:=Tryz.zeroValue239,
 t70:=Tryz.underlying243,
 a70:=Tryz.isAgg243,
 z70:=Tryz.sizeOf243,
 v70:=Tryz.zeroValue243,
 t76:=Tryz.underlying262,
 a76:=Tryz.isAgg262,
 z76:=Tryz.sizeOf262,
 v76:=Tryz.zeroValue262,
 t77:=Tryz.underlying263,
 a77:=Tryz.isAgg263,
 z77:=Tryz.sizeOf263,
 v77:=Tryz.zeroValue263 }
def laysSS_ren:Go.Shelf.Ren:=⟨fun|6=>39|15=>74|14=>73|28=>118|29=>119|20=>110|21=>111|22=>112|23=>113|24=>114|25=>115|26=>116|27=>117|46=>156|47=>157|48=>158|49=>159|50=>160|57=>182|n=>n,fun|22=>39|24=>65|25=>121|3=>3|39=>154|0=>0|53=>203|55=>205|4=>4|46=>197|45=>196|50=>148|5=>5|9=>9|66=>239|70=>243|76=>262|77=>263|n=>n,fun|n=>n⟩
theorem laysSS:SlLaysF0.n6 Tryz.prog laysSS_ren:={
 mixed:=by kernel_rfl,
 f6:=⟨Tryz.f39.name,by kernel_rfl,Tryz.func39.trans (congrArg some (by kernel_rfl))⟩,
 f14:=⟨Tryz.f73.name,by kernel_rfl,Tryz.func73.trans (congrArg some (by kernel_rfl))⟩,
 f15:=Tryz.func74.trans (congrArg some (by kernel_rfl)),
 f20:=⟨Tryz.f110.name,by kernel_rfl,Tryz.func110.trans (congrArg some (by kernel_rfl))⟩,
 f21:=⟨Tryz.f111.name,by kernel_rfl,Tryz.func111.trans (congrArg some (by kernel_rfl))⟩,
 f22:=⟨Tryz.f112.name,by kernel_rfl,Tryz.func112.trans (congrArg some (by kernel_rfl))⟩,
 f23:=⟨Tryz.f113.name,by kernel_rfl,Tryz.func113.trans (congrArg some (by kernel_rfl))⟩,
 f24:=⟨Tryz.f114.name,by kernel_rfl,Tryz.func114.trans (congrArg some (by kernel_rfl))⟩,
 f25:=⟨Tryz.f115.name,by kernel_rfl,Tryz.func115.trans (congrArg some (by kernel_rfl))⟩,
 f26:=⟨Tryz.f116.name,by kernel_rfl,Tryz.func116.trans (congrArg some (by kernel_rfl))⟩,
 f27:=⟨Tryz.f117.name,by kernel_rfl,Tryz.func117.trans (congrArg some (by kernel_rfl))⟩,
 f28:=Tryz.func118.trans (congrArg some (by kernel_rfl)),
 f29:=Tryz.func119.trans (congrArg some (by kernel_rfl)),
 f46:=⟨Tryz.f156.name,by kernel_rfl,Tryz.func156.trans (congrArg some (by kernel_rfl))⟩,
 f47:=Tryz.func157.trans (congrArg some (by kernel_rfl)),
 f48:=Tryz.func158.trans (congrArg some (by kernel_rfl)),
 f49:=⟨Tryz.f159.name,by kernel_rfl,Tryz.func159.trans (congrArg some (by kernel_rfl))⟩,
 f50:=⟨Tryz.f160.name,by kernel_rfl,Tryz.func160.trans (congrArg some (by kernel_rfl))⟩,
 f57:=⟨Tryz.f182.name,by kernel_rfl,Tryz.func182.trans (congrArg some (by kernel_rfl))⟩,
 t0:=Tryz.underlying0,
 a0:=Tryz.isAgg0,
 z0:=Tryz.sizeOf0,
 v0:=Tryz.zeroValue0,
 t3:=Tryz.underlying3,
 a3:=Tryz.isAgg3,
 z3:=Tryz.sizeOf3,
 v3:=Tryz.zeroValue3,
 t4:=Tryz.underlying4,
 a4:=Tryz.isAgg4,
 z4:=Tryz.sizeOf4,
 v4:=Tryz.zeroValue4,
 t5:=Tryz.underlying5,
 a5:=Tryz.isAgg5,
 z5:=Tryz.sizeOf5,
 v5:=Tryz.zeroValue5,
 t9:=Tryz.underlying9,
 a9:=Tryz.isAgg9,
 z9:=Tryz.sizeOf9,
 v9:=Tryz.zeroValue9,
 t22:=Tryz.underlying39,
 a22:=Tryz.isAgg39,
 z22:=Tryz.sizeOf39,
 v22:=Tryz.zeroValue39,
 t25:=Tryz.underlying121,
 a25:=Tryz.isAgg121,
 z25:=Tryz.sizeOf121,
 v25:=Tryz.zeroValue121,
 t39:=Tryz.underlying154,
 a39:=Tryz.isAgg154,
 z39:=Tryz.sizeOf154,
 v39:=Tryz.zeroValue154,
 t45:=Tryz.underlying196,
 a45:=Tryz.isAgg196,
 z45:=Tryz.sizeOf196,
 v45:=Tryz.zeroValue196,
 t46:=Tryz.underlying197,
 a46:=Tryz.isAgg197,
 z46:=Tryz.sizeOf197,
 v46:=Tryz.zeroValue197,
 t50:=Tryz.underlying148,
 a50:=Tryz.isAgg148,
 z50:=Tryz.sizeOf148,
 v50:=Tryz.zeroValue148,
 t53:=Tryz.underlying203,
 a53:=Tryz.isAgg203,
 z53:=Tryz.sizeOf203,
 v53:=Tryz.zeroValue203,
 t55:=Tryz.underlying205,
 a55:=Tryz.isAgg205,
 z55:=Tryz.sizeOf205,
 v55:=Tryz.zeroValue205,
 t66:=Tryz.underlying239,
 a66:=Tryz.isAgg239,
 z66:=Tryz.sizeOf239,
 v66:=Tryz.zeroValue239,
 t70:=Tryz.underlying243,
 a70:=Tryz.isAgg243,
 z70:=Tryz.sizeOf243,
 v70:=Tryz.zeroValue243,
 t76:=Tryz.underlying262,
 a76:=Tryz.isAgg262,
 z76:=Tryz.sizeOf262,
 v76:=Tryz.zeroValue262,
 t77:=Tryz.underlying263,
 a77:=Tryz.isAgg263,
 z77:=Tryz.sizeOf263,
 v77:=Tryz.zeroValue263 }
def laysSP_ren:Go.Shelf.Ren:=⟨fun|6=>43|15=>74|14=>76|28=>118|29=>119|20=>120|21=>121|22=>122|23=>123|24=>124|25=>125|26=>126|27=>127|46=>161|47=>157|48=>158|49=>162|50=>163|57=>183|n=>n,fun|22=>40|24=>118|25=>123|3=>3|39=>154|0=>0|53=>203|55=>205|4=>4|46=>197|45=>196|50=>148|5=>5|9=>9|66=>239|70=>243|76=>262|77=>263|n=>n,fun|n=>n⟩
theorem laysSP:SlLaysF0.n6 Tryz.prog laysSP_ren:={
 mixed:=by kernel_rfl,
 f6:=⟨Tryz.f43.name,by kernel_rfl,Tryz.func43.trans (congrArg some (by kernel_rfl))⟩,
 f14:=⟨Tryz.f76.name,by kernel_rfl,Tryz.func76.trans (congrArg some (by kernel_rfl))⟩,
 f15:=Tryz.func74.trans (congrArg some (by kernel_rfl)),
 f20:=⟨Tryz.f120.name,by kernel_rfl,Tryz.func120.trans (congrArg some (by kernel_rfl))⟩,
 f21:=⟨Tryz.f121.name,by kernel_rfl,Tryz.func121.trans (congrArg some (by kernel_rfl))⟩,
 f22:=⟨Tryz.f122.name,by kernel_rfl,Tryz.func122.trans (congrArg some (by kernel_rfl))⟩,
 f23:=⟨Tryz.f123.name,by kernel_rfl,Tryz.func123.trans (congrArg some (by kernel_rfl))⟩,
 f24:=⟨Tryz.f124.name,by kernel_rfl,Tryz.func124.trans (congrArg some (by kernel_rfl))⟩,
 f25:=⟨Tryz.f125.name,by kernel_rfl,Tryz.func125.trans (congrArg some (by kernel_rfl))⟩,
 f26:=⟨Tryz.f126.name,by kernel_rfl,Tryz.func126.trans (congrArg some (by kernel_rfl))⟩,
 f27:=⟨Tryz.f127.name,by kernel_rfl,Tryz.func127.trans (congrArg some (by kernel_rfl))⟩,
 f28:=Tryz.func118.trans (congrArg some (by kernel_rfl)),
 f29:=Tryz.func119.trans (congrArg some (by kernel_rfl)),
 f46:=⟨Tryz.f161.name,by kernel_rfl,Tryz.func161.trans (congrArg some (by kernel_rfl))⟩,
 f47:=Tryz.func157.trans (congrArg some (by kernel_rfl)),
 f48:=Tryz.func158.trans (congrArg some (by kernel_rfl)),
 f49:=⟨Tryz.f162.name,by kernel_rfl,Tryz.func162.trans (congrArg some (by kernel_rfl))⟩,
 f50:=⟨Tryz.f163.name,by kernel_rfl,Tryz.func163.trans (congrArg some (by kernel_rfl))⟩,
 f57:=⟨Tryz.f183.name,by kernel_rfl,Tryz.func183.trans (congrArg some (by kernel_rfl))⟩,
 t0:=Tryz.underlying0,
 a0:=Tryz.isAgg0,
 z0:=Tryz.sizeOf0,
 v0:=Tryz.zeroValue0,
 t3:=Tryz.underlying3,
 a3:=Tryz.isAgg3,
 z3:=Tryz.sizeOf3,
 v3:=Tryz.zeroValue3,
 t4:=Tryz.underlying4,
 a4:=Tryz.isAgg4,
 z4:=Tryz.sizeOf4,
 v4:=Tryz.zeroValue4,
 t5:=Tryz.underlying5,
 a5:=Tryz.isAgg5,
 z5:=Tryz.sizeOf5,
 v5:=Tryz.zeroValue5,
 t9:=Tryz.underlying9,
 a9:=Tryz.isAgg9,
 z9:=Tryz.sizeOf9,
 v9:=Tryz.zeroValue9,
 t22:=Tryz.underlying40,
 a22:=Tryz.isAgg40,
 z22:=Tryz.sizeOf40,
 v22:=Tryz.zeroValue40,
 t25:=Tryz.underlying123,
 a25:=Tryz.isAgg123,
 z25:=Tryz.sizeOf123,
 v25:=Tryz.zeroValue123,
 t39:=Tryz.underlying154,
 a39:=Tryz.isAgg154,
 z39:=Tryz.sizeOf154,
 v39:=Tryz.zeroValue154,
 t45:=Tryz.underlying196,
 a45:=Tryz.isAgg196,
 z45:=Tryz.sizeOf196,
 v45:=Tryz.zeroValue196,
 t46:=Tryz.underlying197,
 a46:=Tryz.isAgg197,
 z46:=Tryz.sizeOf197,
 v46:=Tryz.zeroValue197,
 t50:=Tryz.underlying148,
 a50:=Tryz.isAgg148,
 z50:=Tryz.sizeOf148,
 v50:=Tryz.zeroValue148,
 t53:=Tryz.underlying203,
 a53:=Tryz.isAgg203,
 z53:=Tryz.sizeOf203,
 v53:=Tryz.zeroValue203,
 t55:=Tryz.underlying205,
 a55:=Tryz.isAgg205,
 z55:=Tryz.sizeOf205,
 v55:=Tryz.zeroValue205,
 t66:=Tryz.underlying239,
 a66:=Tryz.isAgg239,
 z66:=Tryz.sizeOf239,
 v66:=Tryz.zeroValue239,
 t70:=Tryz.underlying243,
 a70:=Tryz.isAgg243,
 z70:=Tryz.sizeOf243,
 v70:=Tryz.zeroValue243,
 t76:=Tryz.underlying262,
 a76:=Tryz.isAgg262,
 z76:=Tryz.sizeOf262,
 v76:=Tryz.zeroValue262,
 t77:=Tryz.underlying263,
 a77:=Tryz.isAgg263,
 z77:=Tryz.sizeOf263,
 v77:=Tryz.zeroValue263 }
def laysRep_ren:Go.Shelf.Ren:=⟨fun|105=>94|212=>130|99=>142|165=>143|166=>93|170=>144|169=>96|263=>165|264=>166|206=>173|240=>141|241=>174|276=>172|277=>193|n=>n,fun|9=>9|3=>3|4=>4|20=>20|0=>0|46=>154|109=>212|5=>5|72=>174|76=>177|51=>203|146=>248|53=>205|148=>250|70=>171|37=>172|75=>176|127=>224|164=>256|80=>181|n=>n,fun|n=>n⟩
theorem laysRep:Lays.n105 Tryz.prog laysRep_ren:={
 mixed:=by kernel_rfl,
 f99:=Tryz.func142.trans (congrArg some (by kernel_rfl)),
 f105:=Tryz.func94.trans (congrArg some (by kernel_rfl)),
 f165:=Tryz.func143.trans (congrArg some (by kernel_rfl)),
 f166:=Tryz.func93.trans (congrArg some (by kernel_rfl)),
 f169:=Tryz.func96.trans (congrArg some (by kernel_rfl)),
 f170:=Tryz.func144.trans (congrArg some (by kernel_rfl)),
 f206:=Tryz.func173.trans (congrArg some (by kernel_rfl)),
 f212:=Tryz.func130.trans (congrArg some (by kernel_rfl)),
 f240:=Tryz.func141.trans (congrArg some (by kernel_rfl)),
 f241:=Tryz.func174.trans (congrArg some (by kernel_rfl)),
 f263:=Tryz.func165.trans (congrArg some (by kernel_rfl)),
 f264:=Tryz.func166.trans (congrArg some (by kernel_rfl)),
 f276:=Tryz.func172.trans (congrArg some (by kernel_rfl)),
 f277:=Tryz.func193.trans (congrArg some (by kernel_rfl)),
 t0:=Tryz.underlying0,
 a0:=Tryz.isAgg0,
 z0:=Tryz.sizeOf0,
 v0:=Tryz.zeroValue0,
 t3:=Tryz.underlying3,
 a3:=Tryz.isAgg3,
 z3:=Tryz.sizeOf3,
 v3:=Tryz.zeroValue3,
 t4:=Tryz.underlying4,
 a4:=Tryz.isAgg4,
 z4:=Tryz.sizeOf4,
 v4:=Tryz.zeroValue4,
 t5:=Tryz.underlying5,
 a5:=Tryz.isAgg5,
 z5:=Tryz.sizeOf5,
 v5:=Tryz.zeroValue5,
 t9:=Tryz.underlying9,
 a9:=Tryz.isAgg9,
 z9:=Tryz.sizeOf9,
 v9:=Tryz.zeroValue9,
 t20:=Tryz.underlying20,
 a20:=Tryz.isAgg20,
 z20:=Tryz.sizeOf20,
 v20:=Tryz.zeroValue20,
 t37:=Tryz.underlying172,
 a37:=Tryz.isAgg172,
 z37:=Tryz.sizeOf172,
 v37:=Tryz.zeroValue172,
 t46:=Tryz.underlying154,
 a46:=Tryz.isAgg154,
 z46:=Tryz.sizeOf154,
 v46:=Tryz.zeroValue154,
 t51:=Tryz.underlying203,
 a51:=Tryz.isAgg203,
 z51:=Tryz.sizeOf203,
 v51:=Tryz.zeroValue203,
 t53:=Tryz.underlying205,
 a53:=Tryz.isAgg205,
 z53:=Tryz.sizeOf205,
 v53:=Tryz.zeroValue205,
 t70:=Tryz.underlying171,
 a70:=Tryz.isAgg171,
 z70:=Tryz.sizeOf171,
 v70:=Tryz.zeroValue171,
 t72:=Tryz.underlying174,
 a72:=Tryz.isAgg174,
 z72:=Tryz.sizeOf174,
 v72:=Tryz.zeroValue174,
 t75:=Tryz.underlying176,
 a75:=Tryz.isAgg176,
 z75:=Tryz.sizeOf176,
 v75:=Tryz.zeroValue176,
 t76:=Tryz.underlying177,
 a76:=Tryz.isAgg177,
 z76:=Tryz.sizeOf177,
 v76:=Tryz.zeroValue177,
 t109:=Tryz.underlying212,
 a109:=Tryz.isAgg212,
 z109:=Tryz.sizeOf212,
 v109:=Tryz.zeroValue212,
 t127:=Tryz.underlying224,
 a127:=Tryz.isAgg224,
 z127:=Tryz.sizeOf224,
 v127:=Tryz.zeroValue224,
 t146:=Tryz.underlying248,
 a146:=Tryz.isAgg248,
 z146:=Tryz.sizeOf248,
 v146:=Tryz.zeroValue248,
 t148:=Tryz.underlying250,
 a148:=Tryz.isAgg250,
 z148:=Tryz.sizeOf250,
 v148:=Tryz.zeroValue250,
 t164:=Tryz.underlying256,
 a164:=Tryz.isAgg256,
 z164:=Tryz.sizeOf256,
 v164:=Tryz.zeroValue256 }
def laysBS_ren:Go.Shelf.Ren:=⟨fun|169=>96|n=>n,fun|70=>171|9=>9|0=>0|72=>174|37=>172|127=>224|3=>3|5=>5|n=>n,fun|n=>n⟩
theorem laysBS:Lays.n169 Tryz.prog laysBS_ren:={
 mixed:=by kernel_rfl,
 f169:=Tryz.func96.trans (congrArg some (by kernel_rfl)),
 t0:=Tryz.underlying0,
 a0:=Tryz.isAgg0,
 z0:=Tryz.sizeOf0,
 v0:=Tryz.zeroValue0,
 t3:=Tryz.underlying3,
 a3:=Tryz.isAgg3,
 z3:=Tryz.sizeOf3,
 v3:=Tryz.zeroValue3,
 t9:=Tryz.underlying9,
 a9:=Tryz.isAgg9,
 z9:=Tryz.sizeOf9,
 v9:=Tryz.zeroValue9,
 t37:=Tryz.underlying172,
 a37:=Tryz.isAgg172,
 z37:=Tryz.sizeOf172,
 v37:=Tryz.zeroValue172,
 t70:=Tryz.underlying171,
 a70:=Tryz.isAgg171,
 z70:=Tryz.sizeOf171,
 v70:=Tryz.zeroValue171,
 t72:=Tryz.underlying174,
 a72:=Tryz.isAgg174,
 z72:=Tryz.sizeOf174,
 v72:=Tryz.zeroValue174,
 t127:=Tryz.underlying224,
 a127:=Tryz.isAgg224,
 z127:=Tryz.sizeOf224,
 v127:=Tryz.zeroValue224 }
def laysCnt_ren:Go.Shelf.Ren:=⟨fun|138=>179|195=>202|218=>203|143=>204|219=>212|217=>215|225=>216|224=>217|267=>218|266=>219|314=>220|n=>n,fun|9=>9|3=>3|4=>4|5=>5|0=>0|46=>154|146=>248|51=>203|n=>n,fun|1=>2|n=>n⟩
theorem laysCnt:Lays.n138 Tryz.prog laysCnt_ren:={
 mixed:=by kernel_rfl,
 f138:=Tryz.func179.trans (congrArg some (by kernel_rfl)),
 f143:=Tryz.func204.trans (congrArg some (by kernel_rfl)),
 f195:=Tryz.func202.trans (congrArg some (by kernel_rfl)),
 f217:=Tryz.func215.trans (congrArg some (by kernel_rfl)),
 f218:=Tryz.func203.trans (congrArg some (by kernel_rfl)),
 f219:=Tryz.func212.trans (congrArg some (by kernel_rfl)),
 f224:=Tryz.func217.trans (congrArg some (by kernel_rfl)),
 f225:=Tryz.func216.trans (congrArg some (by kernel_rfl)),
 f266:=Tryz.func219.trans (congrArg some (by kernel_rfl)),
 f267:=Tryz.func218.trans (congrArg some (by kernel_rfl)),
 f314:=Tryz.func220.trans (congrArg some (by kernel_rfl)),
 t0:=Tryz.underlying0,
 a0:=Tryz.isAgg0,
 z0:=Tryz.sizeOf0,
 v0:=Tryz.zeroValue0,
 t3:=Tryz.underlying3,
 a3:=Tryz.isAgg3,
 z3:=Tryz.sizeOf3,
 v3:=Tryz.zeroValue3,
 t4:=Tryz.underlying4,
 a4:=Tryz.isAgg4,
 z4:=Tryz.sizeOf4,
 v4:=Tryz.zeroValue4,
 t5:=Tryz.underlying5,
 a5:=Tryz.isAgg5,
 z5:=Tryz.sizeOf5,
 v5:=Tryz.zeroValue5,
 t9:=Tryz.underlying9,
 a9:=Tryz.isAgg9,
 z9:=Tryz.sizeOf9,
 v9:=Tryz.zeroValue9,
 t46:=Tryz.underlying154,
 a46:=Tryz.isAgg154,
 z46:=Tryz.sizeOf154,
 v46:=Tryz.zeroValue154,
 t51:=Tryz.underlying203,
 a51:=Tryz.isAgg203,
 z51:=Tryz.sizeOf203,
 v51:=Tryz.zeroValue203,
 t146:=Tryz.underlying248,
 a146:=Tryz.isAgg248,
 z146:=Tryz.sizeOf248,
 v146:=Tryz.zeroValue248,
 g1:=by kernel_rfl }
def laysSrt_ren:Go.Shelf.Ren:=⟨fun|189=>128|125=>74|257=>164|128=>118|129=>119|294=>184|295=>185|296=>186|297=>187|298=>188|299=>189|216=>190|300=>191|301=>192|328=>206|329=>157|330=>158|331=>207|332=>208|215=>75|343=>213|n=>n,fun|28=>22|3=>3|46=>154|0=>0|51=>203|53=>205|4=>4|183=>197|182=>196|131=>148|5=>5|9=>9|218=>239|222=>243|228=>262|229=>263|n=>n,fun|n=>n⟩
theorem laysSrt:Lays.n189 Tryz.prog laysSrt_ren:={
 mixed:=by kernel_rfl,
 f125:=Tryz.func74.trans (congrArg some (by kernel_rfl)),
 f128:=Tryz.func118.trans (congrArg some (by kernel_rfl)),
 f129:=Tryz.func119.trans (congrArg some (by kernel_rfl)),
 f189:=Tryz.func128.trans (congrArg some (by kernel_rfl)),
 f215:=Tryz.func75.trans (congrArg some (by kernel_rfl)),
 f216:=Tryz.func190.trans (congrArg some (by kernel_rfl)),
 f257:=Tryz.func164.trans (congrArg some (by kernel_rfl)),
 f294:=Tryz.func184.trans (congrArg some (by kernel_rfl)),
 f295:=Tryz.func185.trans (congrArg some (by kernel_rfl)),
 f296:=Tryz.func186.trans (congrArg some (by kernel_rfl)),
 f297:=Tryz.func187.trans (congrArg some (by kernel_rfl)),
 f298:=Tryz.func188.trans (congrArg some (by kernel_rfl)),
 f299:=Tryz.func189.trans (congrArg some (by kernel_rfl)),
 f300:=Tryz.func191.trans (congrArg some (by kernel_rfl)),
 f301:=Tryz.func192.trans (congrArg some (by kernel_rfl)),
 f328:=Tryz.func206.trans (congrArg some (by kernel_rfl)),
 f329:=Tryz.func157.trans (congrArg some (by kernel_rfl)),
 f330:=Tryz.func158.trans (congrArg some (by kernel_rfl)),
 f331:=Tryz.func207.trans (congrArg some (by kernel_rfl)),
 f332:=Tryz.func208.trans (congrArg some (by kernel_rfl)),
 f343:=Tryz.func213.trans (congrArg some (by kernel_rfl)),
 t0:=Tryz.underlying0,
 a0:=Tryz.isAgg0,
 z0:=Tryz.sizeOf0,
 v0:=Tryz.zeroValue0,
 t3:=Tryz.underlying3,
 a3:=Tryz.isAgg3,
 z3:=Tryz.sizeOf3,
 v3:=Tryz.zeroValue3,
 t4:=Tryz.underlying4,
 a4:=Tryz.isAgg4,
 z4:=Tryz.sizeOf4,
 v4:=Tryz.zeroValue4,
 t5:=Tryz.underlying5,
 a5:=Tryz.isAgg5,
 z5:=Tryz.sizeOf5,
 v5:=Tryz.zeroValue5,
 t9:=Tryz.underlying9,
 a9:=Tryz.isAgg9,
 z9:=Tryz.sizeOf9,
 v9:=Tryz.zeroValue9,
 t28:=Tryz.underlying22,
 a28:=Tryz.isAgg22,
 z28:=Tryz.sizeOf22,
 v28:=Tryz.zeroValue22,
 t46:=Tryz.underlying154,
 a46:=Tryz.isAgg154,
 z46:=Tryz.sizeOf154,
 v46:=Tryz.zeroValue154,
 t51:=Tryz.underlying203,
 a51:=Tryz.isAgg203,
 z51:=Tryz.sizeOf203,
 v51:=Tryz.zeroValue203,
 t53:=Tryz.underlying205,
 a53:=Tryz.isAgg205,
 z53:=Tryz.sizeOf205,
 v53:=Tryz.zeroValue205,
 t131:=Tryz.underlying148,
 a131:=Tryz.isAgg148,
 z131:=Tryz.sizeOf148,
 v131:=Tryz.zeroValue148,
 t182:=Tryz.underlying196,
 a182:=Tryz.isAgg196,
 z182:=Tryz.sizeOf196,
 v182:=Tryz.zeroValue196,
 t183:=Tryz.underlying197,
 a183:=Tryz.isAgg197,
 z183:=Tryz.sizeOf197,
 v183:=Tryz.zeroValue197,
 t218:=Tryz.underlying239,
 a218:=Tryz.isAgg239,
 z218:=Tryz.sizeOf239,
 v218:=Tryz.zeroValue239,
 t222:=Tryz.underlying243,
 a222:=Tryz.isAgg243,
 z222:=Tryz.sizeOf243,
 v222:=Tryz.zeroValue243,
 t228:=Tryz.underlying262,
 a228:=Tryz.isAgg262,
 z228:=Tryz.sizeOf262,
 v228:=Tryz.zeroValue262,
 t229:=Tryz.underlying263,
 a229:=Tryz.isAgg263,
 z229:=Tryz.sizeOf263,
 v229:=Tryz.zeroValue263 }
def laysCpt_ren:Go.Shelf.Ren:=⟨fun|20=>129|n=>n,fun|22=>22|3=>3|4=>4|0=>0|n=>n,fun|n=>n⟩
theorem laysCpt:Lays2.n20 Tryz.prog laysCpt_ren:={
 mixed:=by kernel_rfl,
 f20:=Tryz.func129.trans (congrArg some (by kernel_rfl)),
 t0:=Tryz.underlying0,
 a0:=Tryz.isAgg0,
 z0:=Tryz.sizeOf0,
 v0:=Tryz.zeroValue0,
 t3:=Tryz.underlying3,
 a3:=Tryz.isAgg3,
 z3:=Tryz.sizeOf3,
 v3:=Tryz.zeroValue3,
 t4:=Tryz.underlying4,
 a4:=Tryz.isAgg4,
 z4:=Tryz.sizeOf4,
 v4:=Tryz.zeroValue4,
 t22:=Tryz.underlying22,
 a22:=Tryz.isAgg22,
 z22:=Tryz.sizeOf22,
 v22:=Tryz.zeroValue22,
 i3:=by kernel_rfl }
def laysWB_ren:Go.Shelf.Ren:=⟨fun|105=>94|212=>130|99=>142|165=>143|166=>93|170=>144|169=>96|263=>165|264=>166|206=>173|240=>141|241=>174|276=>172|277=>193|167=>95|n=>n,fun|9=>9|3=>3|4=>4|20=>20|0=>0|46=>154|109=>212|5=>5|72=>174|76=>177|51=>203|146=>248|53=>205|148=>250|70=>171|37=>172|75=>176|127=>224|164=>256|80=>181|n=>n,fun|n=>n⟩
theorem laysWB:Lays.n167 Tryz.prog laysWB_ren:={
 mixed:=by kernel_rfl,
 f167:=Tryz.func95.trans (congrArg some (by kernel_rfl)),
 f240:=Tryz.func141.trans (congrArg some (by kernel_rfl)),
 f276:=Tryz.func172.trans (congrArg some (by kernel_rfl)),
 t0:=Tryz.underlying0,
 a0:=Tryz.isAgg0,
 z0:=Tryz.sizeOf0,
 v0:=Tryz.zeroValue0,
 t4:=Tryz.underlying4,
 a4:=Tryz.isAgg4,
 z4:=Tryz.sizeOf4,
 v4:=Tryz.zeroValue4,
 t5:=Tryz.underlying5,
 a5:=Tryz.isAgg5,
 z5:=Tryz.sizeOf5,
 v5:=Tryz.zeroValue5,
 t9:=Tryz.underlying9,
 a9:=Tryz.isAgg9,
 z9:=Tryz.sizeOf9,
 v9:=Tryz.zeroValue9,
 t20:=Tryz.underlying20,
 a20:=Tryz.isAgg20,
 z20:=Tryz.sizeOf20,
 v20:=Tryz.zeroValue20,
 t37:=Tryz.underlying172,
 a37:=Tryz.isAgg172,
 z37:=Tryz.sizeOf172,
 v37:=Tryz.zeroValue172,
 t70:=Tryz.underlying171,
 a70:=Tryz.isAgg171,
 z70:=Tryz.sizeOf171,
 v70:=Tryz.zeroValue171,
 t72:=Tryz.underlying174,
 a72:=Tryz.isAgg174,
 z72:=Tryz.sizeOf174,
 v72:=Tryz.zeroValue174,
 t75:=Tryz.underlying176,
 a75:=Tryz.isAgg176,
 z75:=Tryz.sizeOf176,
 v75:=Tryz.zeroValue176,
 t164:=Tryz.underlying256,
 a164:=Tryz.isAgg256,
 z164:=Tryz.sizeOf256,
 v164:=Tryz.zeroValue256 }
def laysWS_ren:Go.Shelf.Ren:=⟨fun|105=>94|212=>130|99=>142|165=>143|166=>93|170=>144|169=>96|263=>165|264=>166|206=>173|240=>141|241=>174|276=>172|277=>193|n=>n,fun|9=>9|3=>3|4=>4|20=>20|0=>0|46=>154|109=>212|5=>5|72=>174|76=>177|51=>203|146=>248|53=>205|148=>250|70=>171|37=>172|75=>176|127=>224|164=>256|80=>181|n=>n,fun|n=>n⟩
theorem laysWS:Lays.n166 Tryz.prog laysWS_ren:={
 mixed:=by kernel_rfl,
 f166:=Tryz.func93.trans (congrArg some (by kernel_rfl)),
 f240:=Tryz.func141.trans (congrArg some (by kernel_rfl)),
 f276:=Tryz.func172.trans (congrArg some (by kernel_rfl)),
 t0:=Tryz.underlying0,
 a0:=Tryz.isAgg0,
 z0:=Tryz.sizeOf0,
 v0:=Tryz.zeroValue0,
 t3:=Tryz.underlying3,
 a3:=Tryz.isAgg3,
 z3:=Tryz.sizeOf3,
 v3:=Tryz.zeroValue3,
 t4:=Tryz.underlying4,
 a4:=Tryz.isAgg4,
 z4:=Tryz.sizeOf4,
 v4:=Tryz.zeroValue4,
 t9:=Tryz.underlying9,
 a9:=Tryz.isAgg9,
 z9:=Tryz.sizeOf9,
 v9:=Tryz.zeroValue9,
 t20:=Tryz.underlying20,
 a20:=Tryz.isAgg20,
 z20:=Tryz.sizeOf20,
 v20:=Tryz.zeroValue20,
 t37:=Tryz.underlying172,
 a37:=Tryz.isAgg172,
 z37:=Tryz.sizeOf172,
 v37:=Tryz.zeroValue172,
 t70:=Tryz.underlying171,
 a70:=Tryz.isAgg171,
 z70:=Tryz.sizeOf171,
 v70:=Tryz.zeroValue171,
 t72:=Tryz.underlying174,
 a72:=Tryz.isAgg174,
 z72:=Tryz.sizeOf174,
 v72:=Tryz.zeroValue174,
 t75:=Tryz.underlying176,
 a75:=Tryz.isAgg176,
 z75:=Tryz.sizeOf176,
 v75:=Tryz.zeroValue176,
 t164:=Tryz.underlying256,
 a164:=Tryz.isAgg256,
 z164:=Tryz.sizeOf256,
 v164:=Tryz.zeroValue256 }
theorem extraWB:Builder.Extra Tryz.prog laysWB_ren where
 sizeBuilder:=by kernel_rfl
 liesBuilder:=by kernel_rfl
 t5:=Tryz.underlying5
 a5:=Tryz.isAgg5
 z5:=Tryz.sizeOf5
 v5:=Tryz.zeroValue5
 infoByte:=by kernel_rfl
 cellsByte:=by kernel_rfl
 sizeByte:=by kernel_rfl
 neB5:=by decide
theorem extraWS:Builder.Extra Tryz.prog laysWS_ren where
 sizeBuilder:=by kernel_rfl
 liesBuilder:=by kernel_rfl
 t5:=Tryz.underlying5
 a5:=Tryz.isAgg5
 z5:=Tryz.sizeOf5
 v5:=Tryz.zeroValue5
 infoByte:=by kernel_rfl
 cellsByte:=by kernel_rfl
 sizeByte:=by kernel_rfl
 neB5:=by decide
theorem extraBS:Builder.Extra Tryz.prog laysBS_ren where
 sizeBuilder:=by kernel_rfl
 liesBuilder:=by kernel_rfl
 t5:=Tryz.underlying5
 a5:=Tryz.isAgg5
 z5:=Tryz.sizeOf5
 v5:=Tryz.zeroValue5
 infoByte:=by kernel_rfl
 cellsByte:=by kernel_rfl
 sizeByte:=by kernel_rfl
 neB5:=by decide
theorem extraRep:Builder.Extra Tryz.prog laysRep_ren where
 sizeBuilder:=by kernel_rfl
 liesBuilder:=by kernel_rfl
 t5:=Tryz.underlying5
 a5:=Tryz.isAgg5
 z5:=Tryz.sizeOf5
 v5:=Tryz.zeroValue5
 infoByte:=by kernel_rfl
 cellsByte:=by kernel_rfl
 sizeByte:=by kernel_rfl
 neB5:=by decide
theorem laysSI0:SlLaysF0.n6 Tryz.prog laysSI_ren:={ laysSI with }
end Go.Proofs.YtihjphblcohdeaaGreatDoor
namespace Go.Proofs.YtihjphblcohdeaaGreatDoor
set_option maxRecDepth 10000
open Go.RowKit
theorem good_str {f:Nat} {args:List AV} {us0:List Value} {s:ByteArray} (hent:Enters Tryz.prog f) (hargs:∀ {B:Nat} {G:Gh} {w:World} {us:List Value},All2 (RA B G w) args us→us=us0)
 (h:∀w,Calls Tryz.prog f us0.toArray w fun e w'=>e= .returned (.string s)∧Below w.heap.size w w'):Good Tryz.prog TT false f args (· = .str s):=by
 refine ⟨hent,fun w X tp us hd hX hgl htp hA hta=>?_⟩
 obtain rfl:=hargs hA
 have htp':tp=none:=Option.not_isSome_iff_eq_none.1 (by rw [htp];nofun)
 subst htp'
 refine (h w).mono ?_
 rintro e w' ⟨rfl,hb⟩
 exact ⟨_, .str s,rfl,rfl,RepV.str _,ChgQ.up ((Chg.of_below hb rfl).mono fun b _ h=>h.elim) tt_q,nofun⟩
theorem arg_str {B:Nat} {G:Gh} {w:World} {s:ByteArray} {u:Value} (h:RA B G w (.str s) u):u= .string s:=by
 have h':RepV w (GX G) (.str s) u:=h
 cases h';rfl
theorem arg_int {B:Nat} {G:Gh} {w:World} {k:IntKind} {n:Int} {u:Value} (h:RA B G w (.int k n) u):u= .int k n:=by
 have h':RepV w (GX G) (.int k n) u:=h
 cases h';rfl
theorem countS_ok (s:ByteArray) (c:UInt8):Good Tryz.prog TT false 179 [.str s, .str ⟨#[c]⟩] (· = .int .i64 (s.data.toList.count c:Nat)):=by
 refine ⟨enters_of Tryz.func179 rfl rfl,fun w X tp us hd hX hgl htp hA hta=>?_⟩
 obtain ⟨u,us,rfl,h1,h2⟩:=hA.cons_inv
 obtain ⟨u2,us2,rfl,h3,h4⟩:=h2.cons_inv
 obtain rfl:=h4.nil_inv
 rw [arg_str h1,arg_str h3]
 have htp':tp=none:=Option.not_isSome_iff_eq_none.1 (by rw [htp];nofun)
 subst htp'
 refine (Any.strings_Count_one laysCnt s c w).mono ?_
 rintro e w' ⟨rfl,rfl⟩
 exact ⟨_, .int .i64 (s.data.toList.count c:Nat),rfl,rfl,RepV.int _ _,ChgQ.refl _ _,nofun⟩
set_option maxHeartbeats 4000000 in
set_option maxRecDepth 1000000 in
theorem flip_walk (s:ByteArray) (w:World) (hs:s.size≤1000):Calls Tryz.prog 97 #[.string s] w fun e w'=>e= .returned (.string ⟨s.data.toList.reverse.toArray⟩)∧Below w.heap.size w w':=by
 have hWB:∀(bs:List Value) (c:Int) (W:World),Lib.IsBuilderF 174 5 w.heap.size w.heap.size bs W→bs.length+1≤140737488355328→w.heap.size≤W.heap.size→Calls Tryz.prog 95 #[.pointer (some ⟨w.heap.size,0,none⟩), .int .u8 c] W fun e w'=>e= .returned .nilIface∧Lib.IsBuilderF 174 5 w.heap.size w.heap.size (bs++[.int .u8 c]) w'∧Below w.heap.size W w':=
  fun bs c W h1 h2 h3=>(Any.Builder_WriteByte_k laysWB extraWB w.heap.size w.heap.size bs c W h1 h2 h3).mono fun e w' h=>⟨h.1, .inr h.2.1,h.2.2.1⟩
 have hBS:∀(l:List UInt8) (W:World),Lib.IsBuilderF 174 5 w.heap.size w.heap.size (Lib.byteCells l) W→w.heap.size≤W.heap.size→Calls Tryz.prog 96 #[.pointer (some ⟨w.heap.size,0,none⟩)] W fun e w'=>e= .returned (.string ⟨l.toArray⟩)∧Below w.heap.size W w':=
  fun l W h1 h2=>(Any.Builder_String_any_k laysBS extraBS w.heap.size w.heap.size l W h1 h2).mono fun e w' h=>⟨h.1,h.2.2.1⟩
 go_enter Tryz.func97,Tryz.ntmps97
 go_wp2
 go_loopw [4] (fun v wr=>∃k:Nat,k≤s.size∧v= .int .i64 ((k:Int)-1)∧Lib.IsBuilderF 174 5 w.heap.size w.heap.size (Lib.byteCells (s.data.toList.drop k).reverse) wr∧Below w.heap.size w wr) (fun v _=>(Lib.intOf v+1).toNat)
 case atStart=>
  refine ⟨s.size,Nat.le_refl _,rfl,?_,(Below.refl _ w).alloc (Nat.le_refl _) _⟩
  rw [List.drop_of_length_le (by simp)]
  exact Lib.IsBuilderF.of (Lib.fresh_isBuilder _ _ w)
 case round=>
  obtain ⟨k,hk,rfl,hI,hb⟩:=hrel
  rcases Nat.eq_zero_or_pos k with h0|h0
  ·subst h0
   go_wp2_with (go_at_call 96;refine (hBS s.data.toList.reverse wr (by simpa using hI) hb.size).mono ?_)
   rintro e W1 ⟨rfl,b1⟩
   go_wp2
   go_ret
   exact ⟨rfl,hb.trans b1⟩
  ·have hk1:k-1<s.size:=by omega
   have hlen:(Lib.byteCells (s.data.toList.drop k).reverse).length+1≤140737488355328:=by simp [Lib.byteCells];omega
   go_wp2_with (go_at_call 95;refine (hWB _ _ wr hI hlen hb.size).mono ?_)
   rintro e W1 ⟨rfl,h1,b1⟩
   go_wp2
   go_roundw
   case rel=>
    refine ⟨k-1,by omega,by rw [show ((k-1:Nat):Int)=(k:Int)-1 by omega],?_,hb.trans b1⟩
    have e1:s.data.toList.drop (k-1)=s[k-1]::s.data.toList.drop k:=by
     have hl:k-1<s.data.toList.length:=by simpa using hk1
     rw [List.drop_eq_getElem_cons hl,show k-1+1=k by omega]
     rfl
    rw [e1,List.reverse_cons,Lib.byteCells_append]
    exact h1
   case measure=>
    simp only [Lib.intOf]
    omega
theorem flip_ok (s:ByteArray) (hs:s.size≤1000):Good Tryz.prog TT false 97 [.str s] (· = .str ⟨s.data.toList.reverse.toArray⟩):=
 good_str (us0:=[.string s]) (enters_of Tryz.func97 rfl rfl) (fun hA=>by
  obtain ⟨u,us,rfl,h1,h2⟩:=hA.cons_inv
  obtain rfl:=h2.nil_inv
  rw [arg_str h1]) fun w=>flip_walk s w hs
end Go.Proofs.YtihjphblcohdeaaGreatDoor
namespace Go.Proofs.YtihjphblcohdeaaGreatDoor
namespace F32
def pw:List Nat:=[1,2,4,8,16,5,10,20,13,26,17,7,14,28,29,31,27,19,3,6,12,24,21,15,30,25,23,11,22,9,18]
def lg:List Nat:=[0,0,1,18,2,5,19,11,3,29,6,27,20,8,12,23,4,10,30,17,7,22,28,26,21,25,9,16,13,14,24,15]
def gm (a b:Nat):Nat:=bif Nat.beq a 0||Nat.beq b 0 then 0 else pw.getD ((lg.getD a 0+lg.getD b 0) % 31) 0
def gi (a:Nat):Nat:=bif Nat.beq a 0 then 0 else pw.getD ((31-lg.getD a 0) % 31) 0
def all1 (n:Nat) (p:Nat→Bool):Bool:=match n with
 |0=>true
 |n+1=>p n&&all1 n p
theorem all1_at {p:Nat→Bool}:∀ {n:Nat},all1 n p=true→∀a,a<n→p a=true
 |n+1,h,a,ha=>by
  rw [all1,Bool.and_eq_true] at h
  rcases Nat.lt_or_ge a n with h'|h'
  ·exact all1_at h.2 a h'
  ·obtain rfl:a=n:=by omega
   exact h.1
theorem chk2:(all1 32 fun a=>all1 32 fun b=>Nat.blt (gm a b) 32&&Nat.beq (gm a b) (gm b a)&&(Nat.beq a 0||Nat.beq b 0||Nat.blt 0 (gm a b))&&Nat.blt (a ^^^ b) 32)=true:=by decide+kernel
theorem chk1:(all1 32 fun a=>Nat.beq (gm 1 a) a&&Nat.blt (gi a) 32&&(Nat.beq a 0||Nat.beq (gm a (gi a)) 1))=true:=by decide+kernel
theorem chk3:(all1 32 fun a=>all1 32 fun b=>all1 32 fun c=>Nat.beq (gm a (b ^^^ c)) (gm a b ^^^ gm a c)&&Nat.beq (gm a (gm b c)) (gm (gm a b) c))=true:=by decide+kernel
theorem at2 {a b:Nat} (ha:a<32) (hb:b<32):gm a b<32∧gm a b=gm b a∧(a=0∨b=0∨0<gm a b)∧a ^^^ b<32:=by
 have h:=all1_at (all1_at chk2 a ha) b hb
 simpa [and_assoc,or_assoc] using h
theorem at1 {a:Nat} (ha:a<32):gm 1 a=a∧gi a<32∧(a=0∨gm a (gi a)=1):=by
 have h:=all1_at chk1 a ha
 simpa [and_assoc] using h
theorem at3 {a b c:Nat} (ha:a<32) (hb:b<32) (hc:c<32):gm a (b ^^^ c)=gm a b ^^^ gm a c∧gm a (gm b c)=gm (gm a b) c:=by
 have h:=all1_at (all1_at (all1_at chk3 a ha) b hb) c hc
 simpa using h
abbrev G:=_root_.Fin 32
def mul (a b:G):G:=⟨gm a.1 b.1,(at2 a.2 b.2).1⟩
def add (a b:G):G:=⟨a.1 ^^^ b.1,(at2 a.2 b.2).2.2.2⟩
def inv (a:G):G:=⟨gi a.1,(at1 a.2).2.1⟩
theorem add_comm (a b:G):add a b=add b a:=Fin.ext (Nat.xor_comm _ _)
theorem add_assoc (a b c:G):add (add a b) c=add a (add b c):=Fin.ext (Nat.xor_assoc _ _ _)
theorem add_self (a:G):add a a=0:=Fin.ext (Nat.xor_self _)
theorem add_zero (a:G):add a 0=a:=Fin.ext (Nat.xor_zero _)
theorem zero_add (a:G):add 0 a=a:=Fin.ext (Nat.zero_xor _)
theorem add_left (a b:G):add a (add a b)=b:=by rw [←add_assoc,add_self,zero_add]
theorem add_lc (a b c:G):add a (add b c)=add b (add a c):=by rw [←add_assoc,add_comm a b,add_assoc]
theorem add_eq0 {a b:G} (h:add a b=0):a=b:=by
 have:=add_left a b
 rw [h,add_zero] at this
 exact this
theorem mul_comm (a b:G):mul a b=mul b a:=Fin.ext (at2 a.2 b.2).2.1
theorem mul_assoc (a b c:G):mul (mul a b) c=mul a (mul b c):=Fin.ext (at3 a.2 b.2 c.2).2.symm
theorem mul_add (a b c:G):mul a (add b c)=add (mul a b) (mul a c):=Fin.ext (at3 a.2 b.2 c.2).1
theorem add_mul (a b c:G):mul (add a b) c=add (mul a c) (mul b c):=by rw [mul_comm,mul_add,mul_comm c,mul_comm c]
theorem one_mul (a:G):mul 1 a=a:=Fin.ext (at1 a.2).1
theorem mul_one (a:G):mul a 1=a:=by rw [mul_comm,one_mul]
theorem zero_mul (a:G):mul 0 a=0:=rfl
theorem mul_zero (a:G):mul a 0=0:=by rw [mul_comm];rfl
theorem mul_eq0 {a b:G} (h:mul a b=0):a=0∨b=0:=by
 rcases (at2 a.2 b.2).2.2.1 with h'|h'|h'
 ·exact .inl (Fin.ext h')
 ·exact .inr (Fin.ext h')
 ·have:gm a.1 b.1=0:=congrArg Fin.val h
  omega
theorem mul_inv {a:G} (h:a≠0):mul a (inv a)=1:=by
 rcases (at1 a.2).2.2 with h'|h'
 ·exact absurd (Fin.ext h') h
 ·exact Fin.ext h'
theorem mul_lc (a b c:G):mul a (mul b c)=mul b (mul a c):=by rw [←mul_assoc,mul_comm a b,mul_assoc]
end F32
end Go.Proofs.YtihjphblcohdeaaGreatDoor
