/- Ty -/
import Derived.Test.YthgenmkengbmmaaGreatDoorCX2
import Derived.Test.YthgenmkengbmmaaGreatDoorProg
set_option linter.all false
namespace Go.Proofs.YthgenmkengbmmaaGreatDoor.AM
open Go Go.Proofs
structure bS where
 Name:Str
 Value:Str
 Not:Bool
 deriving DecidableEq,Inhabited,Repr
def aH (p:bS):List D:=[.v (.string (bs p.Name)),.v (.string (bs p.Value)),.v (.bool p.Not)]
structure cT where
 Name:Str
 M:List bS
 deriving DecidableEq,Inhabited,Repr
def rI (p:cT):List D:=[.v (.string (bs p.Name)),.sl (p.M.map aH)]
structure cG where
 S:cT
 Op:Int
 V:Int
 deriving DecidableEq,Inhabited,Repr
def wC (p:cG):List D:=[.v (.string (bs p.S.Name)),.sl (p.S.M.map aH),.v (.int .i64 p.Op),.v (.int .i64 p.V)]
structure aY where
 Name:Str
 Value:Str
 deriving DecidableEq,Inhabited,Repr
def aK (p:aY):List D:=[.v (.string (bs p.Name)),.v (.string (bs p.Value))]
structure a6 where
 Name:Str
 E:cG
 For:Int
 Keep:Int
 Labels:List aY
 deriving DecidableEq,Inhabited,Repr
def bL (p:a6):List D:=[.v (.string (bs p.Name)),.v (.string (bs p.E.S.Name)),.sl (p.E.S.M.map aH),.v (.int .i64 p.E.Op),.v (.int .i64 p.E.V),.v (.int .i64 p.For),.v (.int .i64 p.Keep),.sl (p.Labels.map aK)]
structure aI where
 Name:Str
 Interval:Int
 Offset:Int
 Rules:List a6
 deriving DecidableEq,Inhabited,Repr
def aD (p:aI):List D:=[.v (.string (bs p.Name)),.v (.int .i64 p.Interval),.v (.int .i64 p.Offset),.sl (p.Rules.map bL)]
structure bE where
 Group:Str
 Rule:Str
 deriving DecidableEq,Inhabited,Repr
def a7 (p:bE):List D:=[.v (.string (bs p.Group)),.v (.string (bs p.Rule))]
structure aN where
 K:Int
 At:Int
 S:Str
 deriving DecidableEq,Inhabited,Repr
def aB (p:aN):List D:=[.v (.int .i64 p.K),.v (.int .i64 p.At),.v (.string (bs p.S))]
structure bK where
 text:Str
 interval:Int
 offset:Int
 deriving DecidableEq,Inhabited,Repr
def bB (p:bK):List D:=[.v (.string (bs p.text)),.v (.int .i64 p.interval),.v (.int .i64 p.offset)]
structure JL where
 letters:Str
 size:Int
 deriving DecidableEq,Inhabited,Repr
def C3 (p:JL):List D:=[.v (.string (bs p.letters)),.v (.int .i64 p.size)]
structure iK where
 Name:Str
 Size:Int
 deriving DecidableEq,Inhabited,Repr
def pF (p:iK):List D:=[.v (.string (bs p.Name)),.v (.int .i64 p.Size)]
structure bD where
 l:List aN
 i:Int
 r:a6
 deriving DecidableEq,Inhabited,Repr
structure cF where
 l:List aN
 i:Int
 deriving DecidableEq,Inhabited,Repr
def tiL:List (Nat × TI):=[(1,⟨.func #[] #[] false,1,8,[.nilFunc]⟩),
 (2,⟨.int .i64,1,8,[.int .i64 0]⟩),
 (3,⟨.int .i64,1,8,[.int .i64 0]⟩),
 (4,⟨.bool,1,1,[.bool false]⟩),
 (5,⟨.int .u8,1,1,[.int .u8 0]⟩),
 (9,⟨.string,1,16,[.string ByteArray.empty]⟩),
 (12,⟨.int .u64,1,8,[.int .u64 0]⟩),
 (20,⟨.interface #[],1,16,[.nilIface]⟩),
 (21,⟨.int .i32,1,4,[.int .i32 0]⟩),
 (22,⟨.slice 34,1,24,[.slice none 0 0]⟩),
 (23,⟨.func #[] #[4] false,1,8,[.nilFunc]⟩),
 (24,⟨.func #[22] #[4] false,1,8,[.nilFunc]⟩),
 (25,⟨.func #[22] #[9] false,1,8,[.nilFunc]⟩),
 (26,⟨.int .i64,1,8,[.int .i64 0]⟩),
 (28,⟨.func #[9] #[22,3,26] false,1,8,[.nilFunc]⟩),
 (29,⟨.func #[22,22] #[4] false,1,8,[.nilFunc]⟩),
 (30,⟨.func #[9] #[4] false,1,8,[.nilFunc]⟩),
 (31,⟨.func #[9,9] #[4] false,1,8,[.nilFunc]⟩),
 (32,⟨.slice 42,1,24,[.slice none 0 0]⟩),
 (33,⟨.struct #[⟨ "Name", 9,0,false, "", "", 0⟩,⟨ "Interval", 3,1,false, "", "", 16⟩,⟨ "Offset", 3,2,false, "", "", 24⟩,⟨ "Rules", 32,3,false, "", "", 32⟩],4,56,[.string ByteArray.empty,.int .i64 0,.int .i64 0,.slice none 0 0]⟩),
 (34,⟨.struct #[⟨ "Name", 9,0,false, "", "", 0⟩,⟨ "Interval", 3,1,false, "", "", 16⟩,⟨ "Offset", 3,2,false, "", "", 24⟩,⟨ "Rules", 32,3,false, "", "", 32⟩],4,56,[.string ByteArray.empty,.int .i64 0,.int .i64 0,.slice none 0 0]⟩),
 (35,⟨.slice 117,1,24,[.slice none 0 0]⟩),
 (36,⟨.struct #[⟨ "Name", 9,0,false, "", "", 0⟩,⟨ "M", 35,1,false, "", "", 16⟩],2,40,[.string ByteArray.empty,.slice none 0 0]⟩),
 (37,⟨.struct #[⟨ "Name", 9,0,false, "", "", 0⟩,⟨ "M", 35,1,false, "", "", 16⟩],2,40,[.string ByteArray.empty,.slice none 0 0]⟩),
 (38,⟨.struct #[⟨ "S", 37,0,false, "", "", 0⟩,⟨ "Op", 3,2,false, "", "", 40⟩,⟨ "V", 3,3,false, "", "", 48⟩],4,56,[.string ByteArray.empty,.slice none 0 0,.int .i64 0,.int .i64 0]⟩),
 (39,⟨.struct #[⟨ "S", 37,0,false, "", "", 0⟩,⟨ "Op", 3,2,false, "", "", 40⟩,⟨ "V", 3,3,false, "", "", 48⟩],4,56,[.string ByteArray.empty,.slice none 0 0,.int .i64 0,.int .i64 0]⟩),
 (40,⟨.slice 87,1,24,[.slice none 0 0]⟩),
 (41,⟨.struct #[⟨ "Name", 9,0,false, "", "", 0⟩,⟨ "E", 39,1,false, "", "", 16⟩,⟨ "For", 3,5,false, "", "", 72⟩,⟨ "Keep", 3,6,false, "", "", 80⟩,⟨ "Labels", 40,7,false, "", "", 88⟩],8,112,[.string ByteArray.empty,.string ByteArray.empty,.slice none 0 0,.int .i64 0,.int .i64 0,.int .i64 0,.int .i64 0,.slice none 0 0]⟩),
 (42,⟨.struct #[⟨ "Name", 9,0,false, "", "", 0⟩,⟨ "E", 39,1,false, "", "", 16⟩,⟨ "For", 3,5,false, "", "", 72⟩,⟨ "Keep", 3,6,false, "", "", 80⟩,⟨ "Labels", 40,7,false, "", "", 88⟩],8,112,[.string ByteArray.empty,.string ByteArray.empty,.slice none 0 0,.int .i64 0,.int .i64 0,.int .i64 0,.int .i64 0,.slice none 0 0]⟩),
 (43,⟨.func #[42] #[4] false,1,8,[.nilFunc]⟩),
 (44,⟨.func #[42] #[9] false,1,8,[.nilFunc]⟩),
 (45,⟨.func #[22,3,3,3] #[4] false,1,8,[.nilFunc]⟩),
 (46,⟨.struct #[⟨ "Group", 9,0,false, "", "", 0⟩,⟨ "Rule", 9,1,false, "", "", 16⟩],2,32,[.string ByteArray.empty,.string ByteArray.empty]⟩),
 (47,⟨.struct #[⟨ "Group", 9,0,false, "", "", 0⟩,⟨ "Rule", 9,1,false, "", "", 16⟩],2,32,[.string ByteArray.empty,.string ByteArray.empty]⟩),
 (49,⟨.func #[22,47] #[3,3,4] false,1,8,[.nilFunc]⟩),
 (50,⟨.slice 47,1,24,[.slice none 0 0]⟩),
 (52,⟨.func #[22,22] #[50,50,50] false,1,8,[.nilFunc]⟩),
 (53,⟨.func #[50,50] #[4] false,1,8,[.nilFunc]⟩),
 (54,⟨.func #[22] #[50] false,1,8,[.nilFunc]⟩),
 (55,⟨.func #[22,22,47] #[4] false,1,8,[.nilFunc]⟩),
 (56,⟨.func #[22,47] #[4] false,1,8,[.nilFunc]⟩),
 (57,⟨.func #[22,22,22,47] #[4] false,1,8,[.nilFunc]⟩),
 (58,⟨.pointer 61,1,8,[.pointer none]⟩),
 (59,⟨.slice 5,1,24,[.slice none 0 0]⟩),
 (60,⟨.struct #[⟨ "addr", 58,0,false, "", "strings", 0⟩,⟨ "buf", 59,1,false, "", "strings", 8⟩],2,32,[.pointer none,.slice none 0 0]⟩),
 (61,⟨.struct #[⟨ "addr", 58,0,false, "", "strings", 0⟩,⟨ "buf", 59,1,false, "", "strings", 8⟩],2,32,[.pointer none,.slice none 0 0]⟩),
 (65,⟨.func #[9] #[3,63] false,1,8,[.nilFunc]⟩),
 (66,⟨.func #[3] #[9] false,1,8,[.nilFunc]⟩),
 (67,⟨.func #[] #[9] false,1,8,[.nilFunc]⟩),
 (68,⟨.slice 74,1,24,[.slice none 0 0]⟩),
 (70,⟨.func #[9] #[68,3,26] false,1,8,[.nilFunc]⟩),
 (71,⟨.struct #[⟨ "i", 3,0,false, "", "watchtower/file", 0⟩,⟨ "e", 26,1,false, "", "watchtower/file", 8⟩],2,16,[.int .i64 0,.int .i64 0]⟩),
 (72,⟨.struct #[⟨ "i", 3,0,false, "", "watchtower/file", 0⟩,⟨ "e", 26,1,false, "", "watchtower/file", 8⟩],2,16,[.int .i64 0,.int .i64 0]⟩),
 (73,⟨.struct #[⟨ "K", 3,0,false, "", "", 0⟩,⟨ "At", 3,1,false, "", "", 8⟩,⟨ "S", 9,2,false, "", "", 16⟩],3,32,[.int .i64 0,.int .i64 0,.string ByteArray.empty]⟩),
 (74,⟨.struct #[⟨ "K", 3,0,false, "", "", 0⟩,⟨ "At", 3,1,false, "", "", 8⟩,⟨ "S", 9,2,false, "", "", 16⟩],3,32,[.int .i64 0,.int .i64 0,.string ByteArray.empty]⟩),
 (75,⟨.pointer 77,1,8,[.pointer none]⟩),
 (76,⟨.struct #[⟨ "l", 68,0,false, "", "watchtower/file", 0⟩,⟨ "i", 3,1,false, "", "watchtower/file", 24⟩,⟨ "f", 22,2,false, "", "watchtower/file", 32⟩],3,56,[.slice none 0 0,.int .i64 0,.slice none 0 0]⟩),
 (77,⟨.struct #[⟨ "l", 68,0,false, "", "watchtower/file", 0⟩,⟨ "i", 3,1,false, "", "watchtower/file", 24⟩,⟨ "f", 22,2,false, "", "watchtower/file", 32⟩],3,56,[.slice none 0 0,.int .i64 0,.slice none 0 0]⟩),
 (78,⟨.func #[] #[34] false,1,8,[.nilFunc]⟩),
 (79,⟨.func #[34] #[4] false,1,8,[.nilFunc]⟩),
 (80,⟨.func #[22,9] #[4] false,1,8,[.nilFunc]⟩),
 (81,⟨.func #[42,42] #[4] false,1,8,[.nilFunc]⟩),
 (82,⟨.func #[39] #[4] false,1,8,[.nilFunc]⟩),
 (83,⟨.func #[3] #[4] false,1,8,[.nilFunc]⟩),
 (84,⟨.func #[40] #[4] false,1,8,[.nilFunc]⟩),
 (85,⟨.func #[39] #[9] false,1,8,[.nilFunc]⟩),
 (86,⟨.struct #[⟨ "Name", 9,0,false, "", "", 0⟩,⟨ "Value", 9,1,false, "", "", 16⟩],2,32,[.string ByteArray.empty,.string ByteArray.empty]⟩),
 (87,⟨.struct #[⟨ "Name", 9,0,false, "", "", 0⟩,⟨ "Value", 9,1,false, "", "", 16⟩],2,32,[.string ByteArray.empty,.string ByteArray.empty]⟩),
 (88,⟨.func #[9] #[9] false,1,8,[.nilFunc]⟩),
 (89,⟨.func #[22] #[22] false,1,8,[.nilFunc]⟩),
 (90,⟨.map 47 114,1,8,[.map none]⟩),
 (91,⟨.func #[22] #[90] false,1,8,[.nilFunc]⟩),
 (92,⟨.func #[90,90,47] #[4] false,1,8,[.nilFunc]⟩),
 (93,⟨.func #[37] #[4] false,1,8,[.nilFunc]⟩),
 (94,⟨.struct #[⟨ "letters", 9,0,false, "", "watchtower/dur", 0⟩,⟨ "size", 3,1,false, "", "watchtower/dur", 16⟩],2,24,[.string ByteArray.empty,.int .i64 0]⟩),
 (95,⟨.struct #[⟨ "letters", 9,0,false, "", "watchtower/dur", 0⟩,⟨ "size", 3,1,false, "", "watchtower/dur", 16⟩],2,24,[.string ByteArray.empty,.int .i64 0]⟩),
 (96,⟨.array 5 95,10,120,[.string ByteArray.empty,.int .i64 0,.string ByteArray.empty,.int .i64 0,.string ByteArray.empty,.int .i64 0,.string ByteArray.empty,.int .i64 0,.string ByteArray.empty,.int .i64 0]⟩),
 (97,⟨.pointer 5,1,8,[.pointer none]⟩),
 (98,⟨.func #[9,3] #[3] false,1,8,[.nilFunc]⟩),
 (100,⟨.func #[9] #[3,3] false,1,8,[.nilFunc]⟩),
 (102,⟨.func #[9] #[9,3,26] false,1,8,[.nilFunc]⟩),
 (103,⟨.func #[9,4] #[3] false,1,8,[.nilFunc]⟩),
 (104,⟨.func #[3,9] #[] false,1,8,[.nilFunc]⟩),
 (105,⟨.func #[] #[3] false,1,8,[.nilFunc]⟩),
 (106,⟨.func #[3,9] #[4] false,1,8,[.nilFunc]⟩),
 (107,⟨.func #[32] #[42] false,1,8,[.nilFunc]⟩),
 (108,⟨.func #[32,9] #[4] false,1,8,[.nilFunc]⟩),
 (109,⟨.func #[39,39] #[4] false,1,8,[.nilFunc]⟩),
 (110,⟨.func #[40,40] #[4] false,1,8,[.nilFunc]⟩),
 (111,⟨.func #[37] #[9] false,1,8,[.nilFunc]⟩),
 (112,⟨.array 7 9,7,112,[.string ByteArray.empty,.string ByteArray.empty,.string ByteArray.empty,.string ByteArray.empty,.string ByteArray.empty,.string ByteArray.empty,.string ByteArray.empty]⟩),
 (113,⟨.struct #[⟨ "text", 9,0,false, "", "watchtower/check", 0⟩,⟨ "interval", 3,1,false, "", "watchtower/check", 16⟩,⟨ "offset", 3,2,false, "", "watchtower/check", 24⟩],3,32,[.string ByteArray.empty,.int .i64 0,.int .i64 0]⟩),
 (114,⟨.struct #[⟨ "text", 9,0,false, "", "watchtower/check", 0⟩,⟨ "interval", 3,1,false, "", "watchtower/check", 16⟩,⟨ "offset", 3,2,false, "", "watchtower/check", 24⟩],3,32,[.string ByteArray.empty,.int .i64 0,.int .i64 0]⟩),
 (116,⟨.struct #[⟨ "Name", 9,0,false, "", "", 0⟩,⟨ "Value", 9,1,false, "", "", 16⟩,⟨ "Not", 4,2,false, "", "", 32⟩],3,40,[.string ByteArray.empty,.string ByteArray.empty,.bool false]⟩),
 (117,⟨.struct #[⟨ "Name", 9,0,false, "", "", 0⟩,⟨ "Value", 9,1,false, "", "", 16⟩,⟨ "Not", 4,2,false, "", "", 32⟩],3,40,[.string ByteArray.empty,.string ByteArray.empty,.bool false]⟩),
 (119,⟨.func #[118] #[118] false,1,8,[.nilFunc]⟩),
 (120,⟨.func #[5] #[4] false,1,8,[.nilFunc]⟩),
 (121,⟨.func #[9,5] #[3] false,1,8,[.nilFunc]⟩),
 (123,⟨.func #[9] #[3,26] false,1,8,[.nilFunc]⟩),
 (125,⟨.func #[68,3] #[42,3,26] false,1,8,[.nilFunc]⟩),
 (126,⟨.func #[37,37] #[4] false,1,8,[.nilFunc]⟩),
 (127,⟨.func #[9,9] #[9] false,1,8,[.nilFunc]⟩),
 (128,⟨.slice 9,1,24,[.slice none 0 0]⟩),
 (129,⟨.func #[] #[128] false,1,8,[.nilFunc]⟩),
 (130,⟨.slice 133,1,24,[.slice none 0 0]⟩),
 (131,⟨.func #[] #[130] false,1,8,[.nilFunc]⟩),
 (132,⟨.struct #[⟨ "Name", 9,0,false, "", "", 0⟩,⟨ "Size", 3,1,false, "", "", 16⟩],2,24,[.string ByteArray.empty,.int .i64 0]⟩),
 (133,⟨.struct #[⟨ "Name", 9,0,false, "", "", 0⟩,⟨ "Size", 3,1,false, "", "", 16⟩],2,24,[.string ByteArray.empty,.int .i64 0]⟩),
 (134,⟨.func #[2,3] #[9] false,1,8,[.nilFunc]⟩),
 (135,⟨.func #[3,3,3] #[3] false,1,8,[.nilFunc]⟩),
 (136,⟨.pointer 138,1,8,[.pointer none]⟩),
 (137,⟨.struct #[⟨ "l", 68,0,false, "", "watchtower/rule", 0⟩,⟨ "i", 3,1,false, "", "watchtower/rule", 24⟩,⟨ "r", 42,2,false, "", "watchtower/rule", 32⟩],10,144,[.slice none 0 0,.int .i64 0,.string ByteArray.empty,.string ByteArray.empty,.slice none 0 0,.int .i64 0,.int .i64 0,.int .i64 0,.int .i64 0,.slice none 0 0]⟩),
 (138,⟨.struct #[⟨ "l", 68,0,false, "", "watchtower/rule", 0⟩,⟨ "i", 3,1,false, "", "watchtower/rule", 24⟩,⟨ "r", 42,2,false, "", "watchtower/rule", 32⟩],10,144,[.slice none 0 0,.int .i64 0,.string ByteArray.empty,.string ByteArray.empty,.slice none 0 0,.int .i64 0,.int .i64 0,.int .i64 0,.int .i64 0,.slice none 0 0]⟩),
 (139,⟨.func #[] #[26] false,1,8,[.nilFunc]⟩),
 (140,⟨.func #[9,5] #[9] false,1,8,[.nilFunc]⟩),
 (141,⟨.array 256 4,256,256,[.bool false,.bool false,.bool false,.bool false,.bool false,.bool false,.bool false,.bool false,.bool false,.bool false,.bool false,.bool false,.bool false,.bool false,.bool false,.bool false,.bool false,.bool false,.bool false,.bool false,.bool false,.bool false,.bool false,.bool false,.bool false,.bool false,.bool false,.bool false,.bool false,.bool false,.bool false,.bool false,.bool false,.bool false,.bool false,.bool false,.bool false,.bool false,.bool false,.bool false,.bool false,.bool false,.bool false,.bool false,.bool false,.bool false,.bool false,.bool false,.bool false,.bool false,.bool false,.bool false,.bool false,.bool false,.bool false,.bool false,.bool false,.bool false,.bool false,.bool false,.bool false,.bool false,.bool false,.bool false,.bool false,.bool false,.bool false,.bool false,.bool false,.bool false,.bool false,.bool false,.bool false,.bool false,.bool false,.bool false,.bool false,.bool false,.bool false,.bool false,.bool false,.bool false,.bool false,.bool false,.bool false,.bool false,.bool false,.bool false,.bool false,.bool false,.bool false,.bool false,.bool false,.bool false,.bool false,.bool false,.bool false,.bool false,.bool false,.bool false,.bool false,.bool false,.bool false,.bool false,.bool false,.bool false,.bool false,.bool false,.bool false,.bool false,.bool false,.bool false,.bool false,.bool false,.bool false,.bool false,.bool false,.bool false,.bool false,.bool false,.bool false,.bool false,.bool false,.bool false,.bool false,.bool false,.bool false,.bool false,.bool false,.bool false,.bool false,.bool false,.bool false,.bool false,.bool false,.bool false,.bool false,.bool false,.bool false,.bool false,.bool false,.bool false,.bool false,.bool false,.bool false,.bool false,.bool false,.bool false,.bool false,.bool false,.bool false,.bool false,.bool false,.bool false,.bool false,.bool false,.bool false,.bool false,.bool false,.bool false,.bool false,.bool false,.bool false,.bool false,.bool false,.bool false,.bool false,.bool false,.bool false,.bool false,.bool false,.bool false,.bool false,.bool false,.bool false,.bool false,.bool false,.bool false,.bool false,.bool false,.bool false,.bool false,.bool false,.bool false,.bool false,.bool false,.bool false,.bool false,.bool false,.bool false,.bool false,.bool false,.bool false,.bool false,.bool false,.bool false,.bool false,.bool false,.bool false,.bool false,.bool false,.bool false,.bool false,.bool false,.bool false,.bool false,.bool false,.bool false,.bool false,.bool false,.bool false,.bool false,.bool false,.bool false,.bool false,.bool false,.bool false,.bool false,.bool false,.bool false,.bool false,.bool false,.bool false,.bool false,.bool false,.bool false,.bool false,.bool false,.bool false,.bool false,.bool false,.bool false,.bool false,.bool false,.bool false,.bool false,.bool false,.bool false,.bool false,.bool false,.bool false,.bool false,.bool false,.bool false,.bool false,.bool false,.bool false,.bool false,.bool false,.bool false,.bool false,.bool false,.bool false,.bool false,.bool false,.bool false]⟩),
 (142,⟨.array 256 4,256,256,[.bool false,.bool false,.bool false,.bool false,.bool false,.bool false,.bool false,.bool false,.bool false,.bool false,.bool false,.bool false,.bool false,.bool false,.bool false,.bool false,.bool false,.bool false,.bool false,.bool false,.bool false,.bool false,.bool false,.bool false,.bool false,.bool false,.bool false,.bool false,.bool false,.bool false,.bool false,.bool false,.bool false,.bool false,.bool false,.bool false,.bool false,.bool false,.bool false,.bool false,.bool false,.bool false,.bool false,.bool false,.bool false,.bool false,.bool false,.bool false,.bool false,.bool false,.bool false,.bool false,.bool false,.bool false,.bool false,.bool false,.bool false,.bool false,.bool false,.bool false,.bool false,.bool false,.bool false,.bool false,.bool false,.bool false,.bool false,.bool false,.bool false,.bool false,.bool false,.bool false,.bool false,.bool false,.bool false,.bool false,.bool false,.bool false,.bool false,.bool false,.bool false,.bool false,.bool false,.bool false,.bool false,.bool false,.bool false,.bool false,.bool false,.bool false,.bool false,.bool false,.bool false,.bool false,.bool false,.bool false,.bool false,.bool false,.bool false,.bool false,.bool false,.bool false,.bool false,.bool false,.bool false,.bool false,.bool false,.bool false,.bool false,.bool false,.bool false,.bool false,.bool false,.bool false,.bool false,.bool false,.bool false,.bool false,.bool false,.bool false,.bool false,.bool false,.bool false,.bool false,.bool false,.bool false,.bool false,.bool false,.bool false,.bool false,.bool false,.bool false,.bool false,.bool false,.bool false,.bool false,.bool false,.bool false,.bool false,.bool false,.bool false,.bool false,.bool false,.bool false,.bool false,.bool false,.bool false,.bool false,.bool false,.bool false,.bool false,.bool false,.bool false,.bool false,.bool false,.bool false,.bool false,.bool false,.bool false,.bool false,.bool false,.bool false,.bool false,.bool false,.bool false,.bool false,.bool false,.bool false,.bool false,.bool false,.bool false,.bool false,.bool false,.bool false,.bool false,.bool false,.bool false,.bool false,.bool false,.bool false,.bool false,.bool false,.bool false,.bool false,.bool false,.bool false,.bool false,.bool false,.bool false,.bool false,.bool false,.bool false,.bool false,.bool false,.bool false,.bool false,.bool false,.bool false,.bool false,.bool false,.bool false,.bool false,.bool false,.bool false,.bool false,.bool false,.bool false,.bool false,.bool false,.bool false,.bool false,.bool false,.bool false,.bool false,.bool false,.bool false,.bool false,.bool false,.bool false,.bool false,.bool false,.bool false,.bool false,.bool false,.bool false,.bool false,.bool false,.bool false,.bool false,.bool false,.bool false,.bool false,.bool false,.bool false,.bool false,.bool false,.bool false,.bool false,.bool false,.bool false,.bool false,.bool false,.bool false,.bool false,.bool false,.bool false,.bool false,.bool false,.bool false,.bool false,.bool false,.bool false,.bool false,.bool false,.bool false,.bool false]⟩),
 (144,⟨.func #[9] #[142,4] false,1,8,[.nilFunc]⟩),
 (145,⟨.func #[9,146] #[9] false,1,8,[.nilFunc]⟩),
 (146,⟨.pointer 142,1,8,[.pointer none]⟩),
 (147,⟨.array 24 5,24,24,[.int .u8 0,.int .u8 0,.int .u8 0,.int .u8 0,.int .u8 0,.int .u8 0,.int .u8 0,.int .u8 0,.int .u8 0,.int .u8 0,.int .u8 0,.int .u8 0,.int .u8 0,.int .u8 0,.int .u8 0,.int .u8 0,.int .u8 0,.int .u8 0,.int .u8 0,.int .u8 0,.int .u8 0,.int .u8 0,.int .u8 0,.int .u8 0]⟩),
 (148,⟨.int .u64,1,8,[.int .u64 0]⟩),
 (149,⟨.func #[148] #[3] false,1,8,[.nilFunc]⟩),
 (150,⟨.func #[59,148] #[] false,1,8,[.nilFunc]⟩),
 (152,⟨.func #[59,148,3,4,4] #[59,9] false,1,8,[.nilFunc]⟩),
 (154,⟨.func #[68,3] #[39,3,26] false,1,8,[.nilFunc]⟩),
 (155,⟨.func #[156] #[26] false,1,8,[.nilFunc]⟩),
 (156,⟨.pointer 3,1,8,[.pointer none]⟩),
 (157,⟨.struct #[⟨ "word", 9,0,false, "", "watchtower/rule", 0⟩,⟨ "read", 139,1,false, "", "watchtower/rule", 16⟩],2,24,[.string ByteArray.empty,.nilFunc]⟩),
 (158,⟨.struct #[⟨ "word", 9,0,false, "", "watchtower/rule", 0⟩,⟨ "read", 139,1,false, "", "watchtower/rule", 16⟩],2,24,[.string ByteArray.empty,.nilFunc]⟩),
 (159,⟨.array 3 158,6,72,[.string ByteArray.empty,.nilFunc,.string ByteArray.empty,.nilFunc,.string ByteArray.empty,.nilFunc]⟩),
 (161,⟨.func #[9] #[21,3] false,1,8,[.nilFunc]⟩),
 (162,⟨.func #[9,21] #[4] false,1,8,[.nilFunc]⟩),
 (163,⟨.func #[3] #[3] false,1,8,[.nilFunc]⟩),
 (164,⟨.func #[4] #[3] false,1,8,[.nilFunc]⟩),
 (165,⟨.array 20 148,20,160,[.int .u64 0,.int .u64 0,.int .u64 0,.int .u64 0,.int .u64 0,.int .u64 0,.int .u64 0,.int .u64 0,.int .u64 0,.int .u64 0,.int .u64 0,.int .u64 0,.int .u64 0,.int .u64 0,.int .u64 0,.int .u64 0,.int .u64 0,.int .u64 0,.int .u64 0,.int .u64 0]⟩),
 (166,⟨.int .u32,1,4,[.int .u32 0]⟩),
 (167,⟨.array 65 5,65,65,[.int .u8 0,.int .u8 0,.int .u8 0,.int .u8 0,.int .u8 0,.int .u8 0,.int .u8 0,.int .u8 0,.int .u8 0,.int .u8 0,.int .u8 0,.int .u8 0,.int .u8 0,.int .u8 0,.int .u8 0,.int .u8 0,.int .u8 0,.int .u8 0,.int .u8 0,.int .u8 0,.int .u8 0,.int .u8 0,.int .u8 0,.int .u8 0,.int .u8 0,.int .u8 0,.int .u8 0,.int .u8 0,.int .u8 0,.int .u8 0,.int .u8 0,.int .u8 0,.int .u8 0,.int .u8 0,.int .u8 0,.int .u8 0,.int .u8 0,.int .u8 0,.int .u8 0,.int .u8 0,.int .u8 0,.int .u8 0,.int .u8 0,.int .u8 0,.int .u8 0,.int .u8 0,.int .u8 0,.int .u8 0,.int .u8 0,.int .u8 0,.int .u8 0,.int .u8 0,.int .u8 0,.int .u8 0,.int .u8 0,.int .u8 0,.int .u8 0,.int .u8 0,.int .u8 0,.int .u8 0,.int .u8 0,.int .u8 0,.int .u8 0,.int .u8 0,.int .u8 0]⟩),
 (168,⟨.int .u64,1,8,[.int .u64 0]⟩),
 (169,⟨.func #[168] #[3] false,1,8,[.nilFunc]⟩),
 (170,⟨.func #[68,3,9] #[4] false,1,8,[.nilFunc]⟩),
 (172,⟨.func #[68,3] #[37,3,26] false,1,8,[.nilFunc]⟩),
 (173,⟨.func #[68,3] #[26] false,1,8,[.nilFunc]⟩),
 (175,⟨.func #[] #[87,26] false,1,8,[.nilFunc]⟩),
 (177,⟨.func #[40] #[40,26] false,1,8,[.nilFunc]⟩),
 (178,⟨.func #[9,21] #[3] false,1,8,[.nilFunc]⟩),
 (179,⟨.func #[166] #[3] false,1,8,[.nilFunc]⟩),
 (180,⟨.pointer 182,1,8,[.pointer none]⟩),
 (181,⟨.struct #[⟨ "l", 68,0,false, "", "watchtower/sel", 0⟩,⟨ "i", 3,1,false, "", "watchtower/sel", 24⟩],2,32,[.slice none 0 0,.int .i64 0]⟩),
 (182,⟨.struct #[⟨ "l", 68,0,false, "", "watchtower/sel", 0⟩,⟨ "i", 3,1,false, "", "watchtower/sel", 24⟩],2,32,[.slice none 0 0,.int .i64 0]⟩),
 (184,⟨.func #[] #[37,26] false,1,8,[.nilFunc]⟩),
 (186,⟨.func #[9,9] #[9,4] false,1,8,[.nilFunc]⟩),
 (187,⟨.func #[3,3] #[3] false,1,8,[.nilFunc]⟩),
 (188,⟨.map 9 4,1,8,[.map none]⟩),
 (189,⟨.func #[40] #[40] false,1,8,[.nilFunc]⟩),
 (190,⟨.func #[40,192] #[] false,1,8,[.nilFunc]⟩),
 (191,⟨.func #[9,9] #[3] false,1,8,[.nilFunc]⟩),
 (192,⟨.func #[87,87] #[3] false,1,8,[.nilFunc]⟩),
 (193,⟨.func #[21] #[4] false,1,8,[.nilFunc]⟩),
 (194,⟨.array 32 5,32,32,[.int .u8 0,.int .u8 0,.int .u8 0,.int .u8 0,.int .u8 0,.int .u8 0,.int .u8 0,.int .u8 0,.int .u8 0,.int .u8 0,.int .u8 0,.int .u8 0,.int .u8 0,.int .u8 0,.int .u8 0,.int .u8 0,.int .u8 0,.int .u8 0,.int .u8 0,.int .u8 0,.int .u8 0,.int .u8 0,.int .u8 0,.int .u8 0,.int .u8 0,.int .u8 0,.int .u8 0,.int .u8 0,.int .u8 0,.int .u8 0,.int .u8 0,.int .u8 0]⟩),
 (195,⟨.array 64 5,64,64,[.int .u8 0,.int .u8 0,.int .u8 0,.int .u8 0,.int .u8 0,.int .u8 0,.int .u8 0,.int .u8 0,.int .u8 0,.int .u8 0,.int .u8 0,.int .u8 0,.int .u8 0,.int .u8 0,.int .u8 0,.int .u8 0,.int .u8 0,.int .u8 0,.int .u8 0,.int .u8 0,.int .u8 0,.int .u8 0,.int .u8 0,.int .u8 0,.int .u8 0,.int .u8 0,.int .u8 0,.int .u8 0,.int .u8 0,.int .u8 0,.int .u8 0,.int .u8 0,.int .u8 0,.int .u8 0,.int .u8 0,.int .u8 0,.int .u8 0,.int .u8 0,.int .u8 0,.int .u8 0,.int .u8 0,.int .u8 0,.int .u8 0,.int .u8 0,.int .u8 0,.int .u8 0,.int .u8 0,.int .u8 0,.int .u8 0,.int .u8 0,.int .u8 0,.int .u8 0,.int .u8 0,.int .u8 0,.int .u8 0,.int .u8 0,.int .u8 0,.int .u8 0,.int .u8 0,.int .u8 0,.int .u8 0,.int .u8 0,.int .u8 0,.int .u8 0]⟩),
 (197,⟨.func #[] #[9,26] false,1,8,[.nilFunc]⟩),
 (199,⟨.func #[3] #[117,26] false,1,8,[.nilFunc]⟩),
 (200,⟨.func #[40,3,3,3,192] #[] false,1,8,[.nilFunc]⟩),
 (201,⟨.array 256 5,256,256,[.int .u8 0,.int .u8 0,.int .u8 0,.int .u8 0,.int .u8 0,.int .u8 0,.int .u8 0,.int .u8 0,.int .u8 0,.int .u8 0,.int .u8 0,.int .u8 0,.int .u8 0,.int .u8 0,.int .u8 0,.int .u8 0,.int .u8 0,.int .u8 0,.int .u8 0,.int .u8 0,.int .u8 0,.int .u8 0,.int .u8 0,.int .u8 0,.int .u8 0,.int .u8 0,.int .u8 0,.int .u8 0,.int .u8 0,.int .u8 0,.int .u8 0,.int .u8 0,.int .u8 0,.int .u8 0,.int .u8 0,.int .u8 0,.int .u8 0,.int .u8 0,.int .u8 0,.int .u8 0,.int .u8 0,.int .u8 0,.int .u8 0,.int .u8 0,.int .u8 0,.int .u8 0,.int .u8 0,.int .u8 0,.int .u8 0,.int .u8 0,.int .u8 0,.int .u8 0,.int .u8 0,.int .u8 0,.int .u8 0,.int .u8 0,.int .u8 0,.int .u8 0,.int .u8 0,.int .u8 0,.int .u8 0,.int .u8 0,.int .u8 0,.int .u8 0,.int .u8 0,.int .u8 0,.int .u8 0,.int .u8 0,.int .u8 0,.int .u8 0,.int .u8 0,.int .u8 0,.int .u8 0,.int .u8 0,.int .u8 0,.int .u8 0,.int .u8 0,.int .u8 0,.int .u8 0,.int .u8 0,.int .u8 0,.int .u8 0,.int .u8 0,.int .u8 0,.int .u8 0,.int .u8 0,.int .u8 0,.int .u8 0,.int .u8 0,.int .u8 0,.int .u8 0,.int .u8 0,.int .u8 0,.int .u8 0,.int .u8 0,.int .u8 0,.int .u8 0,.int .u8 0,.int .u8 0,.int .u8 0,.int .u8 0,.int .u8 0,.int .u8 0,.int .u8 0,.int .u8 0,.int .u8 0,.int .u8 0,.int .u8 0,.int .u8 0,.int .u8 0,.int .u8 0,.int .u8 0,.int .u8 0,.int .u8 0,.int .u8 0,.int .u8 0,.int .u8 0,.int .u8 0,.int .u8 0,.int .u8 0,.int .u8 0,.int .u8 0,.int .u8 0,.int .u8 0,.int .u8 0,.int .u8 0,.int .u8 0,.int .u8 0,.int .u8 0,.int .u8 0,.int .u8 0,.int .u8 0,.int .u8 0,.int .u8 0,.int .u8 0,.int .u8 0,.int .u8 0,.int .u8 0,.int .u8 0,.int .u8 0,.int .u8 0,.int .u8 0,.int .u8 0,.int .u8 0,.int .u8 0,.int .u8 0,.int .u8 0,.int .u8 0,.int .u8 0,.int .u8 0,.int .u8 0,.int .u8 0,.int .u8 0,.int .u8 0,.int .u8 0,.int .u8 0,.int .u8 0,.int .u8 0,.int .u8 0,.int .u8 0,.int .u8 0,.int .u8 0,.int .u8 0,.int .u8 0,.int .u8 0,.int .u8 0,.int .u8 0,.int .u8 0,.int .u8 0,.int .u8 0,.int .u8 0,.int .u8 0,.int .u8 0,.int .u8 0,.int .u8 0,.int .u8 0,.int .u8 0,.int .u8 0,.int .u8 0,.int .u8 0,.int .u8 0,.int .u8 0,.int .u8 0,.int .u8 0,.int .u8 0,.int .u8 0,.int .u8 0,.int .u8 0,.int .u8 0,.int .u8 0,.int .u8 0,.int .u8 0,.int .u8 0,.int .u8 0,.int .u8 0,.int .u8 0,.int .u8 0,.int .u8 0,.int .u8 0,.int .u8 0,.int .u8 0,.int .u8 0,.int .u8 0,.int .u8 0,.int .u8 0,.int .u8 0,.int .u8 0,.int .u8 0,.int .u8 0,.int .u8 0,.int .u8 0,.int .u8 0,.int .u8 0,.int .u8 0,.int .u8 0,.int .u8 0,.int .u8 0,.int .u8 0,.int .u8 0,.int .u8 0,.int .u8 0,.int .u8 0,.int .u8 0,.int .u8 0,.int .u8 0,.int .u8 0,.int .u8 0,.int .u8 0,.int .u8 0,.int .u8 0,.int .u8 0,.int .u8 0,.int .u8 0,.int .u8 0,.int .u8 0,.int .u8 0,.int .u8 0,.int .u8 0,.int .u8 0,.int .u8 0,.int .u8 0,.int .u8 0,.int .u8 0,.int .u8 0,.int .u8 0,.int .u8 0,.int .u8 0,.int .u8 0,.int .u8 0,.int .u8 0,.int .u8 0,.int .u8 0,.int .u8 0,.int .u8 0,.int .u8 0,.int .u8 0]⟩),
 (204,⟨.array 16 203,32,32,[.int .u8 0,.int .u8 0,.int .u8 0,.int .u8 0,.int .u8 0,.int .u8 0,.int .u8 0,.int .u8 0,.int .u8 0,.int .u8 0,.int .u8 0,.int .u8 0,.int .u8 0,.int .u8 0,.int .u8 0,.int .u8 0,.int .u8 0,.int .u8 0,.int .u8 0,.int .u8 0,.int .u8 0,.int .u8 0,.int .u8 0,.int .u8 0,.int .u8 0,.int .u8 0,.int .u8 0,.int .u8 0,.int .u8 0,.int .u8 0,.int .u8 0,.int .u8 0]⟩),
 (205,⟨.func #[40,3,3,192] #[] false,1,8,[.nilFunc]⟩),
 (206,⟨.int .i64,1,8,[.int .i64 0]⟩),
 (208,⟨.func #[40,3,3,192] #[3,206] false,1,8,[.nilFunc]⟩),
 (209,⟨.func #[40,3,3,192] #[4] false,1,8,[.nilFunc]⟩),
 (210,⟨.func #[40,3,3,3,192] #[3] false,1,8,[.nilFunc]⟩),
 (212,⟨.func #[40,3,3,3,192] #[3,4] false,1,8,[.nilFunc]⟩),
 (214,⟨.func #[3] #[168] false,1,8,[.nilFunc]⟩),
 (215,⟨.func #[] #[148] false,1,8,[.nilFunc]⟩),
 (216,⟨.func #[40,3,156,192] #[3] false,1,8,[.nilFunc]⟩),
 (217,⟨.func #[40,3,3,3,156,192] #[3] false,1,8,[.nilFunc]⟩),
 (219,⟨.func #[40,3,3,156,192] #[3,3] false,1,8,[.nilFunc]⟩),
 (227,⟨.func #[118,118] #[4] false,1,8,[.nilFunc]⟩)]
set_option maxRecDepth 100000 in
theorem D9:∀ e ∈ tiL,ti Tryz.prog e.1=some e.2:=by
 intro e he
 simp only [tiL,List.mem_cons,List.not_mem_nil,or_false] at he
 repeat' (rcases he with rfl | he)
 all_goals (first | (subst he; kernel_rfl) | kernel_rfl)
theorem aP {t:Nat}{i:TI} (h:lV tiL t=some i):ti Tryz.prog t=some i:=D6 D9 h
theorem C6 {t:Nat}{i:TI} (h:lV tiL t=some i) (hb:i.desc=.bool:=by rfl):Tryz.prog.underlying t=some .bool:=by rw [(b5 (aP h)).1,hb]
theorem Lt (a0:Str) (a1:Str) (b0:Str) (b1:Str):aeq Tryz.prog 9 47 (.agg [vS a0,vS a1]) (.agg [vS b0,vS b1])=some (decide (a0=b0) && (decide (a1=b1) && true)):=by
 (try simp only [← yR]); kernel_rfl
theorem LB:Tryz.prog.eqGuardType Tryz.prog.depth 47=false:=by kernel_rfl
theorem Ut (a0:Str) (a1:Int) (a2:Int) (b0:Str) (b1:Int) (b2:Int):aeq Tryz.prog 9 114 (.agg [vS a0,vI a1,vI a2]) (.agg [vS b0,vI b1,vI b2])=some (decide (a0=b0) && (decide (a1=b1) && (decide (a2=b2) && true))):=by
 (try simp only [← yR]); kernel_rfl
theorem TH:Tryz.prog.eqGuardType Tryz.prog.depth 114=false:=by kernel_rfl
theorem YL:(Tryz.prog.info? 4).bind (·.zero)=some (.bool false):=by kernel_rfl
theorem Vu:(Tryz.prog.info? 114).bind (·.zero)=some (.agg #[.string ByteArray.empty,.int .i64 0,.int .i64 0]):=by kernel_rfl
theorem O3 (p q:aY) (h:aK p=aK q):p=q:=by
 obtain ⟨a0,a1⟩:=p
 obtain ⟨b0,b1⟩:=q
 simp only [aK,List.cons.injEq,D.v.injEq,D.sl.injEq,Value.int.injEq,Value.bool.injEq,Value.string.injEq,Nc,true_and,and_true] at h
 obtain ⟨h0,h1⟩:=h
 subst h0; subst h1; rfl
theorem QZ (p q:bE) (h:a7 p=a7 q):p=q:=by
 obtain ⟨a0,a1⟩:=p
 obtain ⟨b0,b1⟩:=q
 simp only [a7,List.cons.injEq,D.v.injEq,D.sl.injEq,Value.int.injEq,Value.bool.injEq,Value.string.injEq,Nc,true_and,and_true] at h
 obtain ⟨h0,h1⟩:=h
 subst h0; subst h1; rfl
theorem LU:∀ a:bE,∃ l:List ByteArray,a7 a=l.map (fun s=>D.v (.string s))∧l.length=2:=fun a=>⟨[bs a.Group,bs a.Rule],rfl,rfl⟩
theorem QM (a:bE):s8 (.agg ((a7 a).map .ofD))=some (kC a7 a):=Tu LU a
theorem RY:uR Tryz.prog 47 (kC a7) (⟨.struct #[⟨ "Group", 9,0,false, "", "", 0⟩,⟨ "Rule", 9,1,false, "", "", 16⟩],2,32,[.string ByteArray.empty,.string ByteArray.empty]⟩:TI).desc:=uR.of_c LU QZ (by kernel_rfl)
def gl0:List JL:=[⟨([100]:Str),(86400000:Int)⟩,⟨([104]:Str),(3600000:Int)⟩,⟨([109]:Str),(60000:Int)⟩,⟨([115]:Str),(1000:Int)⟩,⟨([109,115]:Str),(1:Int)⟩]
theorem Ot:Cd 0=some (gl0.map C3):=by kernel_rfl
def gl1:List Str:=[([]:Str),([62]:Str),([62,61]:Str),([60]:Str),([60,61]:Str),([61,61]:Str),([33,61]:Str)]
theorem Ok:Cd 1=some (gl1.map cS):=by kernel_rfl
end Go.Proofs.YthgenmkengbmmaaGreatDoor.AM
