/- A part of the proof: Ty. -/
import Derived.Test.YtgkmbhllcekagaaGreatDoorX2
import Derived.Test.YtgkmbhllcekagaaGreatDoorProg
set_option linter.all false
/- The types, as plain Lean. -/
namespace Go.Proofs.YtgkmbhllcekagaaGreatDoor.AM
open Go Go.Proofs
structure a8 where
  Name:Str
  Value:Str
  Not:Bool
  deriving DecidableEq,Inhabited,Repr
def aB (p:a8):List D:=[.v (.string (bs p.Name)),.v (.string (bs p.Value)),.v (.bool p.Not)]
structure bM where
  Name:Str
  M:List a8
  deriving DecidableEq,Inhabited,Repr
def kX (p:bM):List D:=[.v (.string (bs p.Name)),.sl (p.M.map aB)]
structure bF where
  S:bM
  Op:Int
  V:Int
  deriving DecidableEq,Inhabited,Repr
def fX (p:bF):List D:=[.v (.string (bs p.S.Name)),.sl (p.S.M.map aB),.v (.int .i64 p.Op),.v (.int .i64 p.V)]
structure aJ where
  Name:Str
  Value:Str
  deriving DecidableEq,Inhabited,Repr
def aD (p:aJ):List D:=[.v (.string (bs p.Name)),.v (.string (bs p.Value))]
structure aZ where
  Name:Str
  E:bF
  For:Int
  Keep:Int
  Labels:List aJ
  deriving DecidableEq,Inhabited,Repr
def d9 (p:aZ):List D:=[.v (.string (bs p.Name)),.v (.string (bs p.E.S.Name)),.sl (p.E.S.M.map aB),.v (.int .i64 p.E.Op),.v (.int .i64 p.E.V),.v (.int .i64 p.For),.v (.int .i64 p.Keep),.sl (p.Labels.map aD)]
structure aK where
  K:Int
  At:Int
  S:Str
  deriving DecidableEq,Inhabited,Repr
def aF (p:aK):List D:=[.v (.int .i64 p.K),.v (.int .i64 p.At),.v (.string (bs p.S))]
structure a6 where
  l:List aK
  i:Int
  r:aZ
  deriving DecidableEq,Inhabited,Repr
structure GZ where
  letters:Str
  size:Int
  deriving DecidableEq,Inhabited,Repr
def Ay (p:GZ):List D:=[.v (.string (bs p.letters)),.v (.int .i64 p.size)]
structure gS where
  Name:Str
  Size:Int
  deriving DecidableEq,Inhabited,Repr
def f0 (p:gS):List D:=[.v (.string (bs p.Name)),.v (.int .i64 p.Size)]
structure bW where
  l:List aK
  i:Int
  deriving DecidableEq,Inhabited,Repr
def tiL:List (Nat × TI):=[(1,⟨.func #[] #[] false,1,8,[.nilFunc]⟩),
  (2,⟨.int .i64,1,8,[.int .i64 0]⟩),
  (3,⟨.int .i64,1,8,[.int .i64 0]⟩),
  (4,⟨.bool,1,1,[.bool false]⟩),
  (5,⟨.int .u8,1,1,[.int .u8 0]⟩),
  (9,⟨.string,1,16,[.string ByteArray.empty]⟩),
  (12,⟨.int .u64,1,8,[.int .u64 0]⟩),
  (21,⟨.int .i32,1,4,[.int .i32 0]⟩),
  (22,⟨.slice 81,1,24,[.slice none 0 0]⟩),
  (23,⟨.struct #[⟨ "Name", 9,0,false, "", "", 0⟩,⟨ "M", 22,1,false, "", "", 16⟩],2,40,[.string ByteArray.empty,.slice none 0 0]⟩),
  (24,⟨.struct #[⟨ "Name", 9,0,false, "", "", 0⟩,⟨ "M", 22,1,false, "", "", 16⟩],2,40,[.string ByteArray.empty,.slice none 0 0]⟩),
  (25,⟨.struct #[⟨ "S", 24,0,false, "", "", 0⟩,⟨ "Op", 3,2,false, "", "", 40⟩,⟨ "V", 3,3,false, "", "", 48⟩],4,56,[.string ByteArray.empty,.slice none 0 0,.int .i64 0,.int .i64 0]⟩),
  (26,⟨.struct #[⟨ "S", 24,0,false, "", "", 0⟩,⟨ "Op", 3,2,false, "", "", 40⟩,⟨ "V", 3,3,false, "", "", 48⟩],4,56,[.string ByteArray.empty,.slice none 0 0,.int .i64 0,.int .i64 0]⟩),
  (27,⟨.slice 47,1,24,[.slice none 0 0]⟩),
  (28,⟨.struct #[⟨ "Name", 9,0,false, "", "", 0⟩,⟨ "E", 26,1,false, "", "", 16⟩,⟨ "For", 3,5,false, "", "", 72⟩,⟨ "Keep", 3,6,false, "", "", 80⟩,⟨ "Labels", 27,7,false, "", "", 88⟩],8,112,[.string ByteArray.empty,.string ByteArray.empty,.slice none 0 0,.int .i64 0,.int .i64 0,.int .i64 0,.int .i64 0,.slice none 0 0]⟩),
  (29,⟨.struct #[⟨ "Name", 9,0,false, "", "", 0⟩,⟨ "E", 26,1,false, "", "", 16⟩,⟨ "For", 3,5,false, "", "", 72⟩,⟨ "Keep", 3,6,false, "", "", 80⟩,⟨ "Labels", 27,7,false, "", "", 88⟩],8,112,[.string ByteArray.empty,.string ByteArray.empty,.slice none 0 0,.int .i64 0,.int .i64 0,.int .i64 0,.int .i64 0,.slice none 0 0]⟩),
  (30,⟨.slice 53,1,24,[.slice none 0 0]⟩),
  (31,⟨.func #[] #[4] false,1,8,[.nilFunc]⟩),
  (32,⟨.func #[29] #[4] false,1,8,[.nilFunc]⟩),
  (33,⟨.func #[30] #[4] false,1,8,[.nilFunc]⟩),
  (34,⟨.int .i64,1,8,[.int .i64 0]⟩),
  (36,⟨.func #[30,3] #[29,3,34] false,1,8,[.nilFunc]⟩),
  (37,⟨.func #[9] #[4] false,1,8,[.nilFunc]⟩),
  (38,⟨.func #[29] #[9] false,1,8,[.nilFunc]⟩),
  (39,⟨.func #[29,29] #[4] false,1,8,[.nilFunc]⟩),
  (40,⟨.func #[29,30,3,9] #[4] false,1,8,[.nilFunc]⟩),
  (42,⟨.func #[9] #[30,3,34] false,1,8,[.nilFunc]⟩),
  (43,⟨.func #[29,30] #[4] false,1,8,[.nilFunc]⟩),
  (44,⟨.func #[30,3] #[4] false,1,8,[.nilFunc]⟩),
  (45,⟨.slice 9,1,24,[.slice none 0 0]⟩),
  (46,⟨.struct #[⟨ "Name", 9,0,false, "", "", 0⟩,⟨ "Value", 9,1,false, "", "", 16⟩],2,32,[.string ByteArray.empty,.string ByteArray.empty]⟩),
  (47,⟨.struct #[⟨ "Name", 9,0,false, "", "", 0⟩,⟨ "Value", 9,1,false, "", "", 16⟩],2,32,[.string ByteArray.empty,.string ByteArray.empty]⟩),
  (48,⟨.func #[29,3,9] #[4] false,1,8,[.nilFunc]⟩),
  (49,⟨.func #[29,29,3] #[4] false,1,8,[.nilFunc]⟩),
  (50,⟨.func #[24] #[4] false,1,8,[.nilFunc]⟩),
  (51,⟨.func #[27] #[4] false,1,8,[.nilFunc]⟩),
  (52,⟨.struct #[⟨ "K", 3,0,false, "", "", 0⟩,⟨ "At", 3,1,false, "", "", 8⟩,⟨ "S", 9,2,false, "", "", 16⟩],3,32,[.int .i64 0,.int .i64 0,.string ByteArray.empty]⟩),
  (53,⟨.struct #[⟨ "K", 3,0,false, "", "", 0⟩,⟨ "At", 3,1,false, "", "", 8⟩,⟨ "S", 9,2,false, "", "", 16⟩],3,32,[.int .i64 0,.int .i64 0,.string ByteArray.empty]⟩),
  (54,⟨.pointer 56,1,8,[.pointer none]⟩),
  (55,⟨.struct #[⟨ "l", 30,0,false, "", "watchtower/rule", 0⟩,⟨ "i", 3,1,false, "", "watchtower/rule", 24⟩,⟨ "r", 29,2,false, "", "watchtower/rule", 32⟩],10,144,[.slice none 0 0,.int .i64 0,.string ByteArray.empty,.string ByteArray.empty,.slice none 0 0,.int .i64 0,.int .i64 0,.int .i64 0,.int .i64 0,.slice none 0 0]⟩),
  (56,⟨.struct #[⟨ "l", 30,0,false, "", "watchtower/rule", 0⟩,⟨ "i", 3,1,false, "", "watchtower/rule", 24⟩,⟨ "r", 29,2,false, "", "watchtower/rule", 32⟩],10,144,[.slice none 0 0,.int .i64 0,.string ByteArray.empty,.string ByteArray.empty,.slice none 0 0,.int .i64 0,.int .i64 0,.int .i64 0,.int .i64 0,.slice none 0 0]⟩),
  (57,⟨.func #[] #[34] false,1,8,[.nilFunc]⟩),
  (58,⟨.func #[30,3,3,9] #[34] false,1,8,[.nilFunc]⟩),
  (59,⟨.func #[30,3] #[3] false,1,8,[.nilFunc]⟩),
  (60,⟨.func #[30,3] #[34] false,1,8,[.nilFunc]⟩),
  (62,⟨.func #[30,3] #[26,3,34] false,1,8,[.nilFunc]⟩),
  (64,⟨.func #[30,3,9] #[3,3,34] false,1,8,[.nilFunc]⟩),
  (66,⟨.func #[30,3] #[27,3,34] false,1,8,[.nilFunc]⟩),
  (67,⟨.func #[26] #[4] false,1,8,[.nilFunc]⟩),
  (68,⟨.func #[3] #[4] false,1,8,[.nilFunc]⟩),
  (69,⟨.func #[26] #[9] false,1,8,[.nilFunc]⟩),
  (70,⟨.func #[3] #[9] false,1,8,[.nilFunc]⟩),
  (71,⟨.func #[9] #[9] false,1,8,[.nilFunc]⟩),
  (72,⟨.func #[26,26] #[4] false,1,8,[.nilFunc]⟩),
  (73,⟨.func #[27,27] #[4] false,1,8,[.nilFunc]⟩),
  (74,⟨.func #[9,3] #[3] false,1,8,[.nilFunc]⟩),
  (76,⟨.func #[9] #[3,3] false,1,8,[.nilFunc]⟩),
  (78,⟨.func #[9] #[9,3,34] false,1,8,[.nilFunc]⟩),
  (79,⟨.func #[9,4] #[3] false,1,8,[.nilFunc]⟩),
  (80,⟨.struct #[⟨ "Name", 9,0,false, "", "", 0⟩,⟨ "Value", 9,1,false, "", "", 16⟩,⟨ "Not", 4,2,false, "", "", 32⟩],3,40,[.string ByteArray.empty,.string ByteArray.empty,.bool false]⟩),
  (81,⟨.struct #[⟨ "Name", 9,0,false, "", "", 0⟩,⟨ "Value", 9,1,false, "", "", 16⟩,⟨ "Not", 4,2,false, "", "", 32⟩],3,40,[.string ByteArray.empty,.string ByteArray.empty,.bool false]⟩),
  (82,⟨.func #[3,9] #[4] false,1,8,[.nilFunc]⟩),
  (83,⟨.func #[84] #[34] false,1,8,[.nilFunc]⟩),
  (84,⟨.pointer 3,1,8,[.pointer none]⟩),
  (85,⟨.struct #[⟨ "word", 9,0,false, "", "watchtower/rule", 0⟩,⟨ "read", 57,1,false, "", "watchtower/rule", 16⟩],2,24,[.string ByteArray.empty,.nilFunc]⟩),
  (86,⟨.struct #[⟨ "word", 9,0,false, "", "watchtower/rule", 0⟩,⟨ "read", 57,1,false, "", "watchtower/rule", 16⟩],2,24,[.string ByteArray.empty,.nilFunc]⟩),
  (87,⟨.array 3 86,6,72,[.string ByteArray.empty,.nilFunc,.string ByteArray.empty,.nilFunc,.string ByteArray.empty,.nilFunc]⟩),
  (88,⟨.func #[30,3,3] #[26,3,34] false,1,8,[.nilFunc]⟩),
  (90,⟨.func #[9] #[3,34] false,1,8,[.nilFunc]⟩),
  (92,⟨.func #[27] #[27,34] false,1,8,[.nilFunc]⟩),
  (93,⟨.func #[5] #[4] false,1,8,[.nilFunc]⟩),
  (94,⟨.func #[24] #[9] false,1,8,[.nilFunc]⟩),
  (95,⟨.array 7 9,7,112,[.string ByteArray.empty,.string ByteArray.empty,.string ByteArray.empty,.string ByteArray.empty,.string ByteArray.empty,.string ByteArray.empty,.string ByteArray.empty]⟩),
  (96,⟨.struct #[⟨ "letters", 9,0,false, "", "watchtower/dur", 0⟩,⟨ "size", 3,1,false, "", "watchtower/dur", 16⟩],2,24,[.string ByteArray.empty,.int .i64 0]⟩),
  (97,⟨.struct #[⟨ "letters", 9,0,false, "", "watchtower/dur", 0⟩,⟨ "size", 3,1,false, "", "watchtower/dur", 16⟩],2,24,[.string ByteArray.empty,.int .i64 0]⟩),
  (98,⟨.array 5 97,10,120,[.string ByteArray.empty,.int .i64 0,.string ByteArray.empty,.int .i64 0,.string ByteArray.empty,.int .i64 0,.string ByteArray.empty,.int .i64 0,.string ByteArray.empty,.int .i64 0]⟩),
  (99,⟨.slice 5,1,24,[.slice none 0 0]⟩),
  (100,⟨.func #[] #[45] false,1,8,[.nilFunc]⟩),
  (101,⟨.slice 104,1,24,[.slice none 0 0]⟩),
  (102,⟨.func #[] #[101] false,1,8,[.nilFunc]⟩),
  (103,⟨.struct #[⟨ "Name", 9,0,false, "", "", 0⟩,⟨ "Size", 3,1,false, "", "", 16⟩],2,24,[.string ByteArray.empty,.int .i64 0]⟩),
  (104,⟨.struct #[⟨ "Name", 9,0,false, "", "", 0⟩,⟨ "Size", 3,1,false, "", "", 16⟩],2,24,[.string ByteArray.empty,.int .i64 0]⟩),
  (105,⟨.func #[24,24] #[4] false,1,8,[.nilFunc]⟩),
  (106,⟨.func #[9,5] #[3] false,1,8,[.nilFunc]⟩),
  (107,⟨.func #[30,3,9] #[4] false,1,8,[.nilFunc]⟩),
  (109,⟨.func #[30,3] #[24,3,34] false,1,8,[.nilFunc]⟩),
  (111,⟨.func #[] #[47,34] false,1,8,[.nilFunc]⟩),
  (113,⟨.func #[30,3] #[47,3,34] false,1,8,[.nilFunc]⟩),
  (114,⟨.func #[27] #[34] false,1,8,[.nilFunc]⟩),
  (115,⟨.func #[9,9] #[9] false,1,8,[.nilFunc]⟩),
  (116,⟨.pointer 118,1,8,[.pointer none]⟩),
  (117,⟨.struct #[⟨ "l", 30,0,false, "", "watchtower/sel", 0⟩,⟨ "i", 3,1,false, "", "watchtower/sel", 24⟩],2,32,[.slice none 0 0,.int .i64 0]⟩),
  (118,⟨.struct #[⟨ "l", 30,0,false, "", "watchtower/sel", 0⟩,⟨ "i", 3,1,false, "", "watchtower/sel", 24⟩],2,32,[.slice none 0 0,.int .i64 0]⟩),
  (120,⟨.func #[] #[24,34] false,1,8,[.nilFunc]⟩),
  (122,⟨.func #[9,9] #[9,4] false,1,8,[.nilFunc]⟩),
  (123,⟨.func #[3,3] #[3] false,1,8,[.nilFunc]⟩),
  (124,⟨.func #[9,9] #[4] false,1,8,[.nilFunc]⟩),
  (125,⟨.func #[3,3,3] #[3] false,1,8,[.nilFunc]⟩),
  (126,⟨.map 9 4,1,8,[.map none]⟩),
  (127,⟨.func #[27] #[27] false,1,8,[.nilFunc]⟩),
  (128,⟨.func #[27,130] #[] false,1,8,[.nilFunc]⟩),
  (129,⟨.func #[9,9] #[3] false,1,8,[.nilFunc]⟩),
  (130,⟨.func #[47,47] #[3] false,1,8,[.nilFunc]⟩),
  (131,⟨.slice 3,1,24,[.slice none 0 0]⟩),
  (132,⟨.func #[9,5] #[9] false,1,8,[.nilFunc]⟩),
  (133,⟨.array 256 4,256,256,[.bool false,.bool false,.bool false,.bool false,.bool false,.bool false,.bool false,.bool false,.bool false,.bool false,.bool false,.bool false,.bool false,.bool false,.bool false,.bool false,.bool false,.bool false,.bool false,.bool false,.bool false,.bool false,.bool false,.bool false,.bool false,.bool false,.bool false,.bool false,.bool false,.bool false,.bool false,.bool false,.bool false,.bool false,.bool false,.bool false,.bool false,.bool false,.bool false,.bool false,.bool false,.bool false,.bool false,.bool false,.bool false,.bool false,.bool false,.bool false,.bool false,.bool false,.bool false,.bool false,.bool false,.bool false,.bool false,.bool false,.bool false,.bool false,.bool false,.bool false,.bool false,.bool false,.bool false,.bool false,.bool false,.bool false,.bool false,.bool false,.bool false,.bool false,.bool false,.bool false,.bool false,.bool false,.bool false,.bool false,.bool false,.bool false,.bool false,.bool false,.bool false,.bool false,.bool false,.bool false,.bool false,.bool false,.bool false,.bool false,.bool false,.bool false,.bool false,.bool false,.bool false,.bool false,.bool false,.bool false,.bool false,.bool false,.bool false,.bool false,.bool false,.bool false,.bool false,.bool false,.bool false,.bool false,.bool false,.bool false,.bool false,.bool false,.bool false,.bool false,.bool false,.bool false,.bool false,.bool false,.bool false,.bool false,.bool false,.bool false,.bool false,.bool false,.bool false,.bool false,.bool false,.bool false,.bool false,.bool false,.bool false,.bool false,.bool false,.bool false,.bool false,.bool false,.bool false,.bool false,.bool false,.bool false,.bool false,.bool false,.bool false,.bool false,.bool false,.bool false,.bool false,.bool false,.bool false,.bool false,.bool false,.bool false,.bool false,.bool false,.bool false,.bool false,.bool false,.bool false,.bool false,.bool false,.bool false,.bool false,.bool false,.bool false,.bool false,.bool false,.bool false,.bool false,.bool false,.bool false,.bool false,.bool false,.bool false,.bool false,.bool false,.bool false,.bool false,.bool false,.bool false,.bool false,.bool false,.bool false,.bool false,.bool false,.bool false,.bool false,.bool false,.bool false,.bool false,.bool false,.bool false,.bool false,.bool false,.bool false,.bool false,.bool false,.bool false,.bool false,.bool false,.bool false,.bool false,.bool false,.bool false,.bool false,.bool false,.bool false,.bool false,.bool false,.bool false,.bool false,.bool false,.bool false,.bool false,.bool false,.bool false,.bool false,.bool false,.bool false,.bool false,.bool false,.bool false,.bool false,.bool false,.bool false,.bool false,.bool false,.bool false,.bool false,.bool false,.bool false,.bool false,.bool false,.bool false,.bool false,.bool false,.bool false,.bool false,.bool false,.bool false,.bool false,.bool false,.bool false,.bool false,.bool false,.bool false,.bool false,.bool false,.bool false,.bool false,.bool false,.bool false,.bool false,.bool false,.bool false,.bool false,.bool false,.bool false,.bool false]⟩),
  (134,⟨.array 256 4,256,256,[.bool false,.bool false,.bool false,.bool false,.bool false,.bool false,.bool false,.bool false,.bool false,.bool false,.bool false,.bool false,.bool false,.bool false,.bool false,.bool false,.bool false,.bool false,.bool false,.bool false,.bool false,.bool false,.bool false,.bool false,.bool false,.bool false,.bool false,.bool false,.bool false,.bool false,.bool false,.bool false,.bool false,.bool false,.bool false,.bool false,.bool false,.bool false,.bool false,.bool false,.bool false,.bool false,.bool false,.bool false,.bool false,.bool false,.bool false,.bool false,.bool false,.bool false,.bool false,.bool false,.bool false,.bool false,.bool false,.bool false,.bool false,.bool false,.bool false,.bool false,.bool false,.bool false,.bool false,.bool false,.bool false,.bool false,.bool false,.bool false,.bool false,.bool false,.bool false,.bool false,.bool false,.bool false,.bool false,.bool false,.bool false,.bool false,.bool false,.bool false,.bool false,.bool false,.bool false,.bool false,.bool false,.bool false,.bool false,.bool false,.bool false,.bool false,.bool false,.bool false,.bool false,.bool false,.bool false,.bool false,.bool false,.bool false,.bool false,.bool false,.bool false,.bool false,.bool false,.bool false,.bool false,.bool false,.bool false,.bool false,.bool false,.bool false,.bool false,.bool false,.bool false,.bool false,.bool false,.bool false,.bool false,.bool false,.bool false,.bool false,.bool false,.bool false,.bool false,.bool false,.bool false,.bool false,.bool false,.bool false,.bool false,.bool false,.bool false,.bool false,.bool false,.bool false,.bool false,.bool false,.bool false,.bool false,.bool false,.bool false,.bool false,.bool false,.bool false,.bool false,.bool false,.bool false,.bool false,.bool false,.bool false,.bool false,.bool false,.bool false,.bool false,.bool false,.bool false,.bool false,.bool false,.bool false,.bool false,.bool false,.bool false,.bool false,.bool false,.bool false,.bool false,.bool false,.bool false,.bool false,.bool false,.bool false,.bool false,.bool false,.bool false,.bool false,.bool false,.bool false,.bool false,.bool false,.bool false,.bool false,.bool false,.bool false,.bool false,.bool false,.bool false,.bool false,.bool false,.bool false,.bool false,.bool false,.bool false,.bool false,.bool false,.bool false,.bool false,.bool false,.bool false,.bool false,.bool false,.bool false,.bool false,.bool false,.bool false,.bool false,.bool false,.bool false,.bool false,.bool false,.bool false,.bool false,.bool false,.bool false,.bool false,.bool false,.bool false,.bool false,.bool false,.bool false,.bool false,.bool false,.bool false,.bool false,.bool false,.bool false,.bool false,.bool false,.bool false,.bool false,.bool false,.bool false,.bool false,.bool false,.bool false,.bool false,.bool false,.bool false,.bool false,.bool false,.bool false,.bool false,.bool false,.bool false,.bool false,.bool false,.bool false,.bool false,.bool false,.bool false,.bool false,.bool false,.bool false,.bool false,.bool false,.bool false,.bool false,.bool false]⟩),
  (136,⟨.func #[9] #[134,4] false,1,8,[.nilFunc]⟩),
  (137,⟨.func #[9,138] #[9] false,1,8,[.nilFunc]⟩),
  (138,⟨.pointer 134,1,8,[.pointer none]⟩),
  (139,⟨.func #[2,3] #[9] false,1,8,[.nilFunc]⟩),
  (141,⟨.func #[] #[9,34] false,1,8,[.nilFunc]⟩),
  (143,⟨.func #[3] #[81,34] false,1,8,[.nilFunc]⟩),
  (144,⟨.func #[27,3,3,3,130] #[] false,1,8,[.nilFunc]⟩),
  (145,⟨.func #[146] #[3] false,1,8,[.nilFunc]⟩),
  (146,⟨.int .u64,1,8,[.int .u64 0]⟩),
  (148,⟨.func #[30,3,3] #[81,3,34] false,1,8,[.nilFunc]⟩),
  (150,⟨.func #[9] #[21,3] false,1,8,[.nilFunc]⟩),
  (151,⟨.func #[9,21] #[4] false,1,8,[.nilFunc]⟩),
  (152,⟨.array 24 5,24,24,[.int .u8 0,.int .u8 0,.int .u8 0,.int .u8 0,.int .u8 0,.int .u8 0,.int .u8 0,.int .u8 0,.int .u8 0,.int .u8 0,.int .u8 0,.int .u8 0,.int .u8 0,.int .u8 0,.int .u8 0,.int .u8 0,.int .u8 0,.int .u8 0,.int .u8 0,.int .u8 0,.int .u8 0,.int .u8 0,.int .u8 0,.int .u8 0]⟩),
  (153,⟨.int .u64,1,8,[.int .u64 0]⟩),
  (154,⟨.func #[153] #[3] false,1,8,[.nilFunc]⟩),
  (155,⟨.func #[99,153] #[] false,1,8,[.nilFunc]⟩),
  (157,⟨.func #[99,153,3,4,4] #[99,9] false,1,8,[.nilFunc]⟩),
  (158,⟨.func #[27,3,3,130] #[] false,1,8,[.nilFunc]⟩),
  (159,⟨.int .i64,1,8,[.int .i64 0]⟩),
  (161,⟨.func #[27,3,3,130] #[3,159] false,1,8,[.nilFunc]⟩),
  (162,⟨.func #[27,3,3,130] #[4] false,1,8,[.nilFunc]⟩),
  (163,⟨.func #[27,3,3,3,130] #[3] false,1,8,[.nilFunc]⟩),
  (165,⟨.func #[27,3,3,3,130] #[3,4] false,1,8,[.nilFunc]⟩),
  (166,⟨.func #[167] #[3] false,1,8,[.nilFunc]⟩),
  (167,⟨.int .u32,1,4,[.int .u32 0]⟩),
  (168,⟨.func #[9,21] #[3] false,1,8,[.nilFunc]⟩),
  (169,⟨.func #[3] #[3] false,1,8,[.nilFunc]⟩),
  (170,⟨.func #[4] #[3] false,1,8,[.nilFunc]⟩),
  (171,⟨.array 20 153,20,160,[.int .u64 0,.int .u64 0,.int .u64 0,.int .u64 0,.int .u64 0,.int .u64 0,.int .u64 0,.int .u64 0,.int .u64 0,.int .u64 0,.int .u64 0,.int .u64 0,.int .u64 0,.int .u64 0,.int .u64 0,.int .u64 0,.int .u64 0,.int .u64 0,.int .u64 0,.int .u64 0]⟩),
  (172,⟨.array 65 5,65,65,[.int .u8 0,.int .u8 0,.int .u8 0,.int .u8 0,.int .u8 0,.int .u8 0,.int .u8 0,.int .u8 0,.int .u8 0,.int .u8 0,.int .u8 0,.int .u8 0,.int .u8 0,.int .u8 0,.int .u8 0,.int .u8 0,.int .u8 0,.int .u8 0,.int .u8 0,.int .u8 0,.int .u8 0,.int .u8 0,.int .u8 0,.int .u8 0,.int .u8 0,.int .u8 0,.int .u8 0,.int .u8 0,.int .u8 0,.int .u8 0,.int .u8 0,.int .u8 0,.int .u8 0,.int .u8 0,.int .u8 0,.int .u8 0,.int .u8 0,.int .u8 0,.int .u8 0,.int .u8 0,.int .u8 0,.int .u8 0,.int .u8 0,.int .u8 0,.int .u8 0,.int .u8 0,.int .u8 0,.int .u8 0,.int .u8 0,.int .u8 0,.int .u8 0,.int .u8 0,.int .u8 0,.int .u8 0,.int .u8 0,.int .u8 0,.int .u8 0,.int .u8 0,.int .u8 0,.int .u8 0,.int .u8 0,.int .u8 0,.int .u8 0,.int .u8 0,.int .u8 0]⟩),
  (174,⟨.func #[3] #[146] false,1,8,[.nilFunc]⟩),
  (175,⟨.func #[] #[153] false,1,8,[.nilFunc]⟩),
  (176,⟨.func #[27,3,84,130] #[3] false,1,8,[.nilFunc]⟩),
  (177,⟨.func #[27,3,3,3,84,130] #[3] false,1,8,[.nilFunc]⟩),
  (178,⟨.func #[21] #[4] false,1,8,[.nilFunc]⟩),
  (180,⟨.func #[27,3,3,84,130] #[3,3] false,1,8,[.nilFunc]⟩),
  (181,⟨.array 256 5,256,256,[.int .u8 0,.int .u8 0,.int .u8 0,.int .u8 0,.int .u8 0,.int .u8 0,.int .u8 0,.int .u8 0,.int .u8 0,.int .u8 0,.int .u8 0,.int .u8 0,.int .u8 0,.int .u8 0,.int .u8 0,.int .u8 0,.int .u8 0,.int .u8 0,.int .u8 0,.int .u8 0,.int .u8 0,.int .u8 0,.int .u8 0,.int .u8 0,.int .u8 0,.int .u8 0,.int .u8 0,.int .u8 0,.int .u8 0,.int .u8 0,.int .u8 0,.int .u8 0,.int .u8 0,.int .u8 0,.int .u8 0,.int .u8 0,.int .u8 0,.int .u8 0,.int .u8 0,.int .u8 0,.int .u8 0,.int .u8 0,.int .u8 0,.int .u8 0,.int .u8 0,.int .u8 0,.int .u8 0,.int .u8 0,.int .u8 0,.int .u8 0,.int .u8 0,.int .u8 0,.int .u8 0,.int .u8 0,.int .u8 0,.int .u8 0,.int .u8 0,.int .u8 0,.int .u8 0,.int .u8 0,.int .u8 0,.int .u8 0,.int .u8 0,.int .u8 0,.int .u8 0,.int .u8 0,.int .u8 0,.int .u8 0,.int .u8 0,.int .u8 0,.int .u8 0,.int .u8 0,.int .u8 0,.int .u8 0,.int .u8 0,.int .u8 0,.int .u8 0,.int .u8 0,.int .u8 0,.int .u8 0,.int .u8 0,.int .u8 0,.int .u8 0,.int .u8 0,.int .u8 0,.int .u8 0,.int .u8 0,.int .u8 0,.int .u8 0,.int .u8 0,.int .u8 0,.int .u8 0,.int .u8 0,.int .u8 0,.int .u8 0,.int .u8 0,.int .u8 0,.int .u8 0,.int .u8 0,.int .u8 0,.int .u8 0,.int .u8 0,.int .u8 0,.int .u8 0,.int .u8 0,.int .u8 0,.int .u8 0,.int .u8 0,.int .u8 0,.int .u8 0,.int .u8 0,.int .u8 0,.int .u8 0,.int .u8 0,.int .u8 0,.int .u8 0,.int .u8 0,.int .u8 0,.int .u8 0,.int .u8 0,.int .u8 0,.int .u8 0,.int .u8 0,.int .u8 0,.int .u8 0,.int .u8 0,.int .u8 0,.int .u8 0,.int .u8 0,.int .u8 0,.int .u8 0,.int .u8 0,.int .u8 0,.int .u8 0,.int .u8 0,.int .u8 0,.int .u8 0,.int .u8 0,.int .u8 0,.int .u8 0,.int .u8 0,.int .u8 0,.int .u8 0,.int .u8 0,.int .u8 0,.int .u8 0,.int .u8 0,.int .u8 0,.int .u8 0,.int .u8 0,.int .u8 0,.int .u8 0,.int .u8 0,.int .u8 0,.int .u8 0,.int .u8 0,.int .u8 0,.int .u8 0,.int .u8 0,.int .u8 0,.int .u8 0,.int .u8 0,.int .u8 0,.int .u8 0,.int .u8 0,.int .u8 0,.int .u8 0,.int .u8 0,.int .u8 0,.int .u8 0,.int .u8 0,.int .u8 0,.int .u8 0,.int .u8 0,.int .u8 0,.int .u8 0,.int .u8 0,.int .u8 0,.int .u8 0,.int .u8 0,.int .u8 0,.int .u8 0,.int .u8 0,.int .u8 0,.int .u8 0,.int .u8 0,.int .u8 0,.int .u8 0,.int .u8 0,.int .u8 0,.int .u8 0,.int .u8 0,.int .u8 0,.int .u8 0,.int .u8 0,.int .u8 0,.int .u8 0,.int .u8 0,.int .u8 0,.int .u8 0,.int .u8 0,.int .u8 0,.int .u8 0,.int .u8 0,.int .u8 0,.int .u8 0,.int .u8 0,.int .u8 0,.int .u8 0,.int .u8 0,.int .u8 0,.int .u8 0,.int .u8 0,.int .u8 0,.int .u8 0,.int .u8 0,.int .u8 0,.int .u8 0,.int .u8 0,.int .u8 0,.int .u8 0,.int .u8 0,.int .u8 0,.int .u8 0,.int .u8 0,.int .u8 0,.int .u8 0,.int .u8 0,.int .u8 0,.int .u8 0,.int .u8 0,.int .u8 0,.int .u8 0,.int .u8 0,.int .u8 0,.int .u8 0,.int .u8 0,.int .u8 0,.int .u8 0,.int .u8 0,.int .u8 0,.int .u8 0,.int .u8 0,.int .u8 0,.int .u8 0,.int .u8 0,.int .u8 0,.int .u8 0,.int .u8 0,.int .u8 0,.int .u8 0,.int .u8 0,.int .u8 0,.int .u8 0,.int .u8 0,.int .u8 0]⟩),
  (184,⟨.array 16 183,32,32,[.int .u8 0,.int .u8 0,.int .u8 0,.int .u8 0,.int .u8 0,.int .u8 0,.int .u8 0,.int .u8 0,.int .u8 0,.int .u8 0,.int .u8 0,.int .u8 0,.int .u8 0,.int .u8 0,.int .u8 0,.int .u8 0,.int .u8 0,.int .u8 0,.int .u8 0,.int .u8 0,.int .u8 0,.int .u8 0,.int .u8 0,.int .u8 0,.int .u8 0,.int .u8 0,.int .u8 0,.int .u8 0,.int .u8 0,.int .u8 0,.int .u8 0,.int .u8 0]⟩),
  (185,⟨.array 32 5,32,32,[.int .u8 0,.int .u8 0,.int .u8 0,.int .u8 0,.int .u8 0,.int .u8 0,.int .u8 0,.int .u8 0,.int .u8 0,.int .u8 0,.int .u8 0,.int .u8 0,.int .u8 0,.int .u8 0,.int .u8 0,.int .u8 0,.int .u8 0,.int .u8 0,.int .u8 0,.int .u8 0,.int .u8 0,.int .u8 0,.int .u8 0,.int .u8 0,.int .u8 0,.int .u8 0,.int .u8 0,.int .u8 0,.int .u8 0,.int .u8 0,.int .u8 0,.int .u8 0]⟩),
  (186,⟨.array 64 5,64,64,[.int .u8 0,.int .u8 0,.int .u8 0,.int .u8 0,.int .u8 0,.int .u8 0,.int .u8 0,.int .u8 0,.int .u8 0,.int .u8 0,.int .u8 0,.int .u8 0,.int .u8 0,.int .u8 0,.int .u8 0,.int .u8 0,.int .u8 0,.int .u8 0,.int .u8 0,.int .u8 0,.int .u8 0,.int .u8 0,.int .u8 0,.int .u8 0,.int .u8 0,.int .u8 0,.int .u8 0,.int .u8 0,.int .u8 0,.int .u8 0,.int .u8 0,.int .u8 0,.int .u8 0,.int .u8 0,.int .u8 0,.int .u8 0,.int .u8 0,.int .u8 0,.int .u8 0,.int .u8 0,.int .u8 0,.int .u8 0,.int .u8 0,.int .u8 0,.int .u8 0,.int .u8 0,.int .u8 0,.int .u8 0,.int .u8 0,.int .u8 0,.int .u8 0,.int .u8 0,.int .u8 0,.int .u8 0,.int .u8 0,.int .u8 0,.int .u8 0,.int .u8 0,.int .u8 0,.int .u8 0,.int .u8 0,.int .u8 0,.int .u8 0,.int .u8 0]⟩),
  (187,⟨.func #[] #[9] false,1,8,[.nilFunc]⟩),
  (193,⟨.func #[] #[3] false,1,8,[.nilFunc]⟩),
  (196,⟨.func #[202,202] #[4] false,1,8,[.nilFunc]⟩),
  (197,⟨.pointer 5,1,8,[.pointer none]⟩)]
set_option maxRecDepth 100000 in
theorem Cd:∀ e ∈ tiL,ti Tryz.prog e.1=some e.2:=by
  intro e he
  simp only [tiL,List.mem_cons,List.not_mem_nil,or_false] at he
  repeat' (rcases he with rfl | he)
  all_goals (first | (subst he; kernel_rfl) | kernel_rfl)
theorem aP {t:Nat}{i:TI} (h:kT tiL t=some i):ti Tryz.prog t=some i:=BH Cd h
theorem zZ {t:Nat}{i:TI} (h:kT tiL t=some i) (hb:i.desc=.bool:=by rfl):Tryz.prog.underlying t=some .bool:=by rw [(bR (aP h)).1,hb]
theorem Rd (a0:Str) (a1:Str) (b0:Str) (b1:Str):aeq Tryz.prog 9 47 (.agg [vS a0,vS a1]) (.agg [vS b0,vS b1])=some (decide (a0=b0) && (decide (a1=b1) && true)):=by
  (try simp only [← vM]); kernel_rfl
theorem QM:Tryz.prog.eqGuardType Tryz.prog.depth 47=false:=by kernel_rfl
theorem Se (a0:Str) (a1:Str) (a2:Bool) (b0:Str) (b1:Str) (b2:Bool):aeq Tryz.prog 9 81 (.agg [vS a0,vS a1,vB a2]) (.agg [vS b0,vS b1,vB b2])=some (decide (a0=b0) && (decide (a1=b1) && ((a2 == b2) && true))):=by
  (try simp only [← vM]); kernel_rfl
theorem Q2:Tryz.prog.eqGuardType Tryz.prog.depth 81=false:=by kernel_rfl
theorem Uh:(Tryz.prog.info? 4).bind (·.zero)=some (.bool false):=by kernel_rfl
theorem MC (p q:aJ) (h:aD p=aD q):p=q:=by
  obtain ⟨a0,a1⟩:=p
  obtain ⟨b0,b1⟩:=q
  simp only [aD,List.cons.injEq,D.v.injEq,D.sl.injEq,Value.int.injEq,Value.bool.injEq,Value.string.injEq,NP,true_and,and_true] at h
  obtain ⟨h0,h1⟩:=h
  subst h0; subst h1; rfl
def gl0:List Str:=[([]:Str),([62]:Str),([62,61]:Str),([60]:Str),([60,61]:Str),([61,61]:Str),([33,61]:Str)]
theorem LE:Ae 0=some (gl0.map cS):=by kernel_rfl
def gl1:List GZ:=[⟨([100]:Str),(86400000:Int)⟩,⟨([104]:Str),(3600000:Int)⟩,⟨([109]:Str),(60000:Int)⟩,⟨([115]:Str),(1000:Int)⟩,⟨([109,115]:Str),(1:Int)⟩]
theorem Lg:Ae 1=some (gl1.map Ay):=by kernel_rfl
end Go.Proofs.YtgkmbhllcekagaaGreatDoor.AM
