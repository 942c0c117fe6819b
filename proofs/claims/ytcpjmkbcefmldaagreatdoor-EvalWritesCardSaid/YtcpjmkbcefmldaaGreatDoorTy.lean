/- A part of the proof: Ty. -/
import Derived.Test.YtcpjmkbcefmldaaGreatDoorX2
import Derived.Test.YtcpjmkbcefmldaaGreatDoorProg
set_option linter.all false
/- The types, as plain Lean. -/
namespace Go.Proofs.YtcpjmkbcefmldaaGreatDoor.AM
open Go Go.Proofs

structure GPair where
  Name : Str
  Value : Str
  deriving DecidableEq, Inhabited, Repr
def cGPair (p : GPair) : List D := [.v (.string (bs p.Name)), .v (.string (bs p.Value))]
structure GSample where
  T : Int
  V : Int
  deriving DecidableEq, Inhabited, Repr
def cGSample (p : GSample) : List D := [.v (.int .i64 p.T), .v (.int .i64 p.V)]
structure GSeries where
  L : List GPair
  S : List GSample
  deriving DecidableEq, Inhabited, Repr
def cGSeries (p : GSeries) : List D := [.sl (p.L.map cGPair), .sl (p.S.map cGSample)]
structure GMatch where
  Name : Str
  Value : Str
  Not : Bool
  deriving DecidableEq, Inhabited, Repr
def cGMatch (p : GMatch) : List D := [.v (.string (bs p.Name)), .v (.string (bs p.Value)), .v (.bool p.Not)]
structure GSel where
  Name : Str
  M : List GMatch
  deriving DecidableEq, Inhabited, Repr
def cGSel (p : GSel) : List D := [.v (.string (bs p.Name)), .sl (p.M.map cGMatch)]
structure GExpr where
  S : GSel
  Op : Int
  V : Int
  deriving DecidableEq, Inhabited, Repr
def cGExpr (p : GExpr) : List D := [.v (.string (bs p.S.Name)), .sl (p.S.M.map cGMatch), .v (.int .i64 p.Op), .v (.int .i64 p.V)]
structure GRule where
  Name : Str
  E : GExpr
  For : Int
  Keep : Int
  Labels : List GPair
  deriving DecidableEq, Inhabited, Repr
def cGRule (p : GRule) : List D := [.v (.string (bs p.Name)), .v (.string (bs p.E.S.Name)), .sl (p.E.S.M.map cGMatch), .v (.int .i64 p.E.Op), .v (.int .i64 p.E.V), .v (.int .i64 p.For), .v (.int .i64 p.Keep), .sl (p.Labels.map cGPair)]
structure GFound where
  L : List GPair
  X : GSample
  deriving DecidableEq, Inhabited, Repr
def cGFound (p : GFound) : List D := [.sl (p.L.map cGPair), .v (.int .i64 p.X.T), .v (.int .i64 p.X.V)]
structure GGroup where
  Name : Str
  Interval : Int
  Offset : Int
  Rules : List GRule
  deriving DecidableEq, Inhabited, Repr
def cGGroup (p : GGroup) : List D := [.v (.string (bs p.Name)), .v (.int .i64 p.Interval), .v (.int .i64 p.Offset), .sl (p.Rules.map cGRule)]
structure GHold where
  On : Bool
  Since : Int
  Hit : Bool
  Fired : Int
  deriving DecidableEq, Inhabited, Repr
def cGHold (p : GHold) : List D := [.v (.bool p.On), .v (.int .i64 p.Since), .v (.bool p.Hit), .v (.int .i64 p.Fired)]
structure GAlert where
  L : List GPair
  H : GHold
  State : Int
  V : Int
  deriving DecidableEq, Inhabited, Repr
def cGAlert (p : GAlert) : List D := [.sl (p.L.map cGPair), .v (.bool p.H.On), .v (.int .i64 p.H.Since), .v (.bool p.H.Hit), .v (.int .i64 p.H.Fired), .v (.int .i64 p.State), .v (.int .i64 p.V)]
structure GTable where
  A : List GAlert
  Full : Int
  deriving DecidableEq, Inhabited, Repr
def cGTable (p : GTable) : List D := [.sl (p.A.map cGAlert), .v (.int .i64 p.Full)]
structure Gstore_seeker where
  st : List GSeries
  l : List GPair
  deriving DecidableEq, Inhabited, Repr
def cGstore_seeker (p : Gstore_seeker) : List D := [.sl (p.st.map cGSeries), .sl (p.l.map cGPair)]

def tiL : List (Nat × TI) := [(2, ⟨.int .i64, 1, 8, [.int .i64 0]⟩),
  (3, ⟨.int .i64, 1, 8, [.int .i64 0]⟩),
  (4, ⟨.bool, 1, 1, [.bool false]⟩),
  (5, ⟨.int .u8, 1, 1, [.int .u8 0]⟩),
  (9, ⟨.string, 1, 16, [.string ByteArray.empty]⟩),
  (12, ⟨.int .u64, 1, 8, [.int .u64 0]⟩),
  (21, ⟨.int .i32, 1, 4, [.int .i32 0]⟩),
  (22, ⟨.slice 77, 1, 24, [.slice none 0 0]⟩),
  (23, ⟨.slice 90, 1, 24, [.slice none 0 0]⟩),
  (24, ⟨.struct #[⟨ "Name", 9, 0, false, "", "", 0⟩, ⟨ "M", 23, 1, false, "", "", 16⟩], 2, 40, [.string ByteArray.empty, .slice none 0 0]⟩),
  (25, ⟨.struct #[⟨ "Name", 9, 0, false, "", "", 0⟩, ⟨ "M", 23, 1, false, "", "", 16⟩], 2, 40, [.string ByteArray.empty, .slice none 0 0]⟩),
  (26, ⟨.struct #[⟨ "S", 25, 0, false, "", "", 0⟩, ⟨ "Op", 3, 2, false, "", "", 40⟩, ⟨ "V", 3, 3, false, "", "", 48⟩], 4, 56, [.string ByteArray.empty, .slice none 0 0, .int .i64 0, .int .i64 0]⟩),
  (27, ⟨.struct #[⟨ "S", 25, 0, false, "", "", 0⟩, ⟨ "Op", 3, 2, false, "", "", 40⟩, ⟨ "V", 3, 3, false, "", "", 48⟩], 4, 56, [.string ByteArray.empty, .slice none 0 0, .int .i64 0, .int .i64 0]⟩),
  (28, ⟨.slice 51, 1, 24, [.slice none 0 0]⟩),
  (29, ⟨.struct #[⟨ "Name", 9, 0, false, "", "", 0⟩, ⟨ "E", 27, 1, false, "", "", 16⟩, ⟨ "For", 3, 5, false, "", "", 72⟩, ⟨ "Keep", 3, 6, false, "", "", 80⟩, ⟨ "Labels", 28, 7, false, "", "", 88⟩], 8, 112, [.string ByteArray.empty, .string ByteArray.empty, .slice none 0 0, .int .i64 0, .int .i64 0, .int .i64 0, .int .i64 0, .slice none 0 0]⟩),
  (30, ⟨.struct #[⟨ "Name", 9, 0, false, "", "", 0⟩, ⟨ "E", 27, 1, false, "", "", 16⟩, ⟨ "For", 3, 5, false, "", "", 72⟩, ⟨ "Keep", 3, 6, false, "", "", 80⟩, ⟨ "Labels", 28, 7, false, "", "", 88⟩], 8, 112, [.string ByteArray.empty, .string ByteArray.empty, .slice none 0 0, .int .i64 0, .int .i64 0, .int .i64 0, .int .i64 0, .slice none 0 0]⟩),
  (34, ⟨.slice 41, 1, 24, [.slice none 0 0]⟩),
  (38, ⟨.struct #[⟨ "T", 3, 0, false, "", "", 0⟩, ⟨ "V", 3, 1, false, "", "", 8⟩], 2, 16, [.int .i64 0, .int .i64 0]⟩),
  (39, ⟨.struct #[⟨ "T", 3, 0, false, "", "", 0⟩, ⟨ "V", 3, 1, false, "", "", 8⟩], 2, 16, [.int .i64 0, .int .i64 0]⟩),
  (40, ⟨.struct #[⟨ "L", 28, 0, false, "", "", 0⟩, ⟨ "X", 39, 1, false, "", "", 24⟩], 3, 40, [.slice none 0 0, .int .i64 0, .int .i64 0]⟩),
  (41, ⟨.struct #[⟨ "L", 28, 0, false, "", "", 0⟩, ⟨ "X", 39, 1, false, "", "", 24⟩], 3, 40, [.slice none 0 0, .int .i64 0, .int .i64 0]⟩),
  (42, ⟨.int .i64, 1, 8, [.int .i64 0]⟩),
  (50, ⟨.struct #[⟨ "Name", 9, 0, false, "", "", 0⟩, ⟨ "Value", 9, 1, false, "", "", 16⟩], 2, 32, [.string ByteArray.empty, .string ByteArray.empty]⟩),
  (51, ⟨.struct #[⟨ "Name", 9, 0, false, "", "", 0⟩, ⟨ "Value", 9, 1, false, "", "", 16⟩], 2, 32, [.string ByteArray.empty, .string ByteArray.empty]⟩),
  (54, ⟨.slice 30, 1, 24, [.slice none 0 0]⟩),
  (55, ⟨.struct #[⟨ "Name", 9, 0, false, "", "", 0⟩, ⟨ "Interval", 3, 1, false, "", "", 16⟩, ⟨ "Offset", 3, 2, false, "", "", 24⟩, ⟨ "Rules", 54, 3, false, "", "", 32⟩], 4, 56, [.string ByteArray.empty, .int .i64 0, .int .i64 0, .slice none 0 0]⟩),
  (56, ⟨.struct #[⟨ "Name", 9, 0, false, "", "", 0⟩, ⟨ "Interval", 3, 1, false, "", "", 16⟩, ⟨ "Offset", 3, 2, false, "", "", 24⟩, ⟨ "Rules", 54, 3, false, "", "", 32⟩], 4, 56, [.string ByteArray.empty, .int .i64 0, .int .i64 0, .slice none 0 0]⟩),
  (57, ⟨.slice 71, 1, 24, [.slice none 0 0]⟩),
  (59, ⟨.slice 56, 1, 24, [.slice none 0 0]⟩),
  (69, ⟨.slice 83, 1, 24, [.slice none 0 0]⟩),
  (70, ⟨.struct #[⟨ "A", 69, 0, false, "", "", 0⟩, ⟨ "Full", 3, 1, false, "", "", 24⟩], 2, 32, [.slice none 0 0, .int .i64 0]⟩),
  (71, ⟨.struct #[⟨ "A", 69, 0, false, "", "", 0⟩, ⟨ "Full", 3, 1, false, "", "", 24⟩], 2, 32, [.slice none 0 0, .int .i64 0]⟩),
  (75, ⟨.slice 39, 1, 24, [.slice none 0 0]⟩),
  (76, ⟨.struct #[⟨ "L", 28, 0, false, "", "", 0⟩, ⟨ "S", 75, 1, false, "", "", 24⟩], 2, 48, [.slice none 0 0, .slice none 0 0]⟩),
  (77, ⟨.struct #[⟨ "L", 28, 0, false, "", "", 0⟩, ⟨ "S", 75, 1, false, "", "", 24⟩], 2, 48, [.slice none 0 0, .slice none 0 0]⟩),
  (79, ⟨.slice 9, 1, 24, [.slice none 0 0]⟩),
  (80, ⟨.struct #[⟨ "On", 4, 0, false, "", "", 0⟩, ⟨ "Since", 3, 1, false, "", "", 8⟩, ⟨ "Hit", 4, 2, false, "", "", 16⟩, ⟨ "Fired", 3, 3, false, "", "", 24⟩], 4, 32, [.bool false, .int .i64 0, .bool false, .int .i64 0]⟩),
  (81, ⟨.struct #[⟨ "On", 4, 0, false, "", "", 0⟩, ⟨ "Since", 3, 1, false, "", "", 8⟩, ⟨ "Hit", 4, 2, false, "", "", 16⟩, ⟨ "Fired", 3, 3, false, "", "", 24⟩], 4, 32, [.bool false, .int .i64 0, .bool false, .int .i64 0]⟩),
  (82, ⟨.struct #[⟨ "L", 28, 0, false, "", "", 0⟩, ⟨ "H", 81, 1, false, "", "", 24⟩, ⟨ "State", 3, 5, false, "", "", 56⟩, ⟨ "V", 3, 6, false, "", "", 64⟩], 7, 72, [.slice none 0 0, .bool false, .int .i64 0, .bool false, .int .i64 0, .int .i64 0, .int .i64 0]⟩),
  (83, ⟨.struct #[⟨ "L", 28, 0, false, "", "", 0⟩, ⟨ "H", 81, 1, false, "", "", 24⟩, ⟨ "State", 3, 5, false, "", "", 56⟩, ⟨ "V", 3, 6, false, "", "", 64⟩], 7, 72, [.slice none 0 0, .bool false, .int .i64 0, .bool false, .int .i64 0, .int .i64 0, .int .i64 0]⟩),
  (89, ⟨.struct #[⟨ "Name", 9, 0, false, "", "", 0⟩, ⟨ "Value", 9, 1, false, "", "", 16⟩, ⟨ "Not", 4, 2, false, "", "", 32⟩], 3, 40, [.string ByteArray.empty, .string ByteArray.empty, .bool false]⟩),
  (90, ⟨.struct #[⟨ "Name", 9, 0, false, "", "", 0⟩, ⟨ "Value", 9, 1, false, "", "", 16⟩, ⟨ "Not", 4, 2, false, "", "", 32⟩], 3, 40, [.string ByteArray.empty, .string ByteArray.empty, .bool false]⟩),
  (125, ⟨.map 9 4, 1, 8, [.map none]⟩),
  (127, ⟨.slice 3, 1, 24, [.slice none 0 0]⟩),
  (128, ⟨.map 9 41, 1, 8, [.map none]⟩),
  (131, ⟨.map 9 83, 1, 8, [.map none]⟩),
  (140, ⟨.array 3 9, 3, 48, [.string ByteArray.empty, .string ByteArray.empty, .string ByteArray.empty]⟩),
  (141, ⟨.struct #[⟨ "st", 22, 0, false, "", "watchtower/store", 0⟩, ⟨ "l", 28, 1, false, "", "watchtower/store", 24⟩], 2, 48, [.slice none 0 0, .slice none 0 0]⟩),
  (142, ⟨.struct #[⟨ "st", 22, 0, false, "", "watchtower/store", 0⟩, ⟨ "l", 28, 1, false, "", "watchtower/store", 24⟩], 2, 48, [.slice none 0 0, .slice none 0 0]⟩),
  (149, ⟨.int .u64, 1, 8, [.int .u64 0]⟩),
  (150, ⟨.pointer 153, 1, 8, [.pointer none]⟩),
  (151, ⟨.slice 5, 1, 24, [.slice none 0 0]⟩),
  (152, ⟨.struct #[⟨ "addr", 150, 0, false, "", "strings", 0⟩, ⟨ "buf", 151, 1, false, "", "strings", 8⟩], 2, 32, [.pointer none, .slice none 0 0]⟩),
  (153, ⟨.struct #[⟨ "addr", 150, 0, false, "", "strings", 0⟩, ⟨ "buf", 151, 1, false, "", "strings", 8⟩], 2, 32, [.pointer none, .slice none 0 0]⟩),
  (154, ⟨.array 2 9, 2, 32, [.string ByteArray.empty, .string ByteArray.empty]⟩),
  (169, ⟨.int .i64, 1, 8, [.int .i64 0]⟩),
  (176, ⟨.int .u32, 1, 4, [.int .u32 0]⟩),
  (178, ⟨.int .u64, 1, 8, [.int .u64 0]⟩),
  (179, ⟨.pointer 5, 1, 8, [.pointer none]⟩),
  (186, ⟨.pointer 3, 1, 8, [.pointer none]⟩),
  (199, ⟨.array 24 5, 24, 24, [.int .u8 0, .int .u8 0, .int .u8 0, .int .u8 0, .int .u8 0, .int .u8 0, .int .u8 0, .int .u8 0, .int .u8 0, .int .u8 0, .int .u8 0, .int .u8 0, .int .u8 0, .int .u8 0, .int .u8 0, .int .u8 0, .int .u8 0, .int .u8 0, .int .u8 0, .int .u8 0, .int .u8 0, .int .u8 0, .int .u8 0, .int .u8 0]⟩),
  (206, ⟨.array 20 178, 20, 160, [.int .u64 0, .int .u64 0, .int .u64 0, .int .u64 0, .int .u64 0, .int .u64 0, .int .u64 0, .int .u64 0, .int .u64 0, .int .u64 0, .int .u64 0, .int .u64 0, .int .u64 0, .int .u64 0, .int .u64 0, .int .u64 0, .int .u64 0, .int .u64 0, .int .u64 0, .int .u64 0]⟩),
  (207, ⟨.array 65 5, 65, 65, [.int .u8 0, .int .u8 0, .int .u8 0, .int .u8 0, .int .u8 0, .int .u8 0, .int .u8 0, .int .u8 0, .int .u8 0, .int .u8 0, .int .u8 0, .int .u8 0, .int .u8 0, .int .u8 0, .int .u8 0, .int .u8 0, .int .u8 0, .int .u8 0, .int .u8 0, .int .u8 0, .int .u8 0, .int .u8 0, .int .u8 0, .int .u8 0, .int .u8 0, .int .u8 0, .int .u8 0, .int .u8 0, .int .u8 0, .int .u8 0, .int .u8 0, .int .u8 0, .int .u8 0, .int .u8 0, .int .u8 0, .int .u8 0, .int .u8 0, .int .u8 0, .int .u8 0, .int .u8 0, .int .u8 0, .int .u8 0, .int .u8 0, .int .u8 0, .int .u8 0, .int .u8 0, .int .u8 0, .int .u8 0, .int .u8 0, .int .u8 0, .int .u8 0, .int .u8 0, .int .u8 0, .int .u8 0, .int .u8 0, .int .u8 0, .int .u8 0, .int .u8 0, .int .u8 0, .int .u8 0, .int .u8 0, .int .u8 0, .int .u8 0, .int .u8 0, .int .u8 0]⟩),
  (209, ⟨.array 32 5, 32, 32, [.int .u8 0, .int .u8 0, .int .u8 0, .int .u8 0, .int .u8 0, .int .u8 0, .int .u8 0, .int .u8 0, .int .u8 0, .int .u8 0, .int .u8 0, .int .u8 0, .int .u8 0, .int .u8 0, .int .u8 0, .int .u8 0, .int .u8 0, .int .u8 0, .int .u8 0, .int .u8 0, .int .u8 0, .int .u8 0, .int .u8 0, .int .u8 0, .int .u8 0, .int .u8 0, .int .u8 0, .int .u8 0, .int .u8 0, .int .u8 0, .int .u8 0, .int .u8 0]⟩),
  (210, ⟨.array 64 5, 64, 64, [.int .u8 0, .int .u8 0, .int .u8 0, .int .u8 0, .int .u8 0, .int .u8 0, .int .u8 0, .int .u8 0, .int .u8 0, .int .u8 0, .int .u8 0, .int .u8 0, .int .u8 0, .int .u8 0, .int .u8 0, .int .u8 0, .int .u8 0, .int .u8 0, .int .u8 0, .int .u8 0, .int .u8 0, .int .u8 0, .int .u8 0, .int .u8 0, .int .u8 0, .int .u8 0, .int .u8 0, .int .u8 0, .int .u8 0, .int .u8 0, .int .u8 0, .int .u8 0, .int .u8 0, .int .u8 0, .int .u8 0, .int .u8 0, .int .u8 0, .int .u8 0, .int .u8 0, .int .u8 0, .int .u8 0, .int .u8 0, .int .u8 0, .int .u8 0, .int .u8 0, .int .u8 0, .int .u8 0, .int .u8 0, .int .u8 0, .int .u8 0, .int .u8 0, .int .u8 0, .int .u8 0, .int .u8 0, .int .u8 0, .int .u8 0, .int .u8 0, .int .u8 0, .int .u8 0, .int .u8 0, .int .u8 0, .int .u8 0, .int .u8 0, .int .u8 0]⟩)]
theorem tiL_ok : ∀ e ∈ tiL, ti Tryz.prog e.1 = some e.2 := by
  intro e he
  simp only [tiL, List.mem_cons, List.not_mem_nil, or_false] at he
  repeat' (rcases he with rfl | he)
  all_goals (first | (subst he; kernel_rfl) | kernel_rfl)
theorem ti_of {t : Nat} {i : TI} (h : tiFind tiL t = some i) : ti Tryz.prog t = some i := tiFind_ok tiL_ok h
theorem un_of {t : Nat} {i : TI} (h : tiFind tiL t = some i) (hb : i.desc = .bool := by rfl) : Tryz.prog.underlying t = some .bool := by rw [(ti_spec (ti_of h)).1, hb]
theorem aeq_39 (a0 : Int) (a1 : Int) (b0 : Int) (b1 : Int) : aeq Tryz.prog 9 39 (.agg [vI a0, vI a1]) (.agg [vI b0, vI b1]) = some (decide (a0 = b0) && (decide (a1 = b1) && true)) := by
  (try simp only [← dec_bs]); kernel_rfl
theorem eqg_39 : Tryz.prog.eqGuardType Tryz.prog.depth 39 = false := by kernel_rfl
theorem aeq_51 (a0 : Str) (a1 : Str) (b0 : Str) (b1 : Str) : aeq Tryz.prog 9 51 (.agg [vS a0, vS a1]) (.agg [vS b0, vS b1]) = some (decide (a0 = b0) && (decide (a1 = b1) && true)) := by
  (try simp only [← dec_bs]); kernel_rfl
theorem eqg_51 : Tryz.prog.eqGuardType Tryz.prog.depth 51 = false := by kernel_rfl
theorem aeq_81 (a0 : Bool) (a1 : Int) (a2 : Bool) (a3 : Int) (b0 : Bool) (b1 : Int) (b2 : Bool) (b3 : Int) : aeq Tryz.prog 9 81 (.agg [vB a0, vI a1, vB a2, vI a3]) (.agg [vB b0, vI b1, vB b2, vI b3]) = some ((a0 == b0) && (decide (a1 = b1) && ((a2 == b2) && (decide (a3 = b3) && true)))) := by
  (try simp only [← dec_bs]); kernel_rfl
theorem eqg_81 : Tryz.prog.eqGuardType Tryz.prog.depth 81 = false := by kernel_rfl
theorem zv_4 : (Tryz.prog.info? 4).bind (·.zero) = some (.bool false) := by kernel_rfl
theorem zv_41 : (Tryz.prog.info? 41).bind (·.zero) = some (.agg #[.slice none 0 0, .int .i64 0, .int .i64 0]) := by kernel_rfl
theorem zv_83 : (Tryz.prog.info? 83).bind (·.zero) = some (.agg #[.slice none 0 0, .bool false, .int .i64 0, .bool false, .int .i64 0, .int .i64 0, .int .i64 0]) := by kernel_rfl
theorem cGPair_inj (p q : GPair) (h : cGPair p = cGPair q) : p = q := by
  obtain ⟨a0, a1⟩ := p
  obtain ⟨b0, b1⟩ := q
  simp only [cGPair, List.cons.injEq, D.v.injEq, D.sl.injEq, Value.int.injEq, Value.bool.injEq, Value.string.injEq, bs_inj, true_and, and_true] at h
  obtain ⟨h0, h1⟩ := h
  subst h0; subst h1; rfl
theorem cGAlert_inj (p q : GAlert) (h : cGAlert p = cGAlert q) : p = q := by
  obtain ⟨a0, ⟨a1, a2, a3, a4⟩, a5, a6⟩ := p
  obtain ⟨b0, ⟨b1, b2, b3, b4⟩, b5, b6⟩ := q
  simp only [cGAlert, List.cons.injEq, D.v.injEq, D.sl.injEq, Value.int.injEq, Value.bool.injEq, Value.string.injEq, bs_inj, true_and, and_true] at h
  obtain ⟨h0, h1, h2, h3, h4, h5, h6⟩ := h
  have h0 := rows_inj cGPair_inj h0
  subst h0; subst h1; subst h2; subst h3; subst h4; subst h5; subst h6; rfl
def gl0 : List Str := [([] : Str), ([112, 101, 110, 100, 105, 110, 103] : Str), ([102, 105, 114, 105, 110, 103] : Str)]
theorem gl0_row : glRow 0 = some (gl0.map cS) := by kernel_rfl
end Go.Proofs.YtcpjmkbcefmldaaGreatDoor.AM
