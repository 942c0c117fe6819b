/- A part of the proof: Ty. -/
import Derived.Test.YtoekflobllmeeaaGreatDoorX2
import Derived.Test.YtoekflobllmeeaaGreatDoorProg
set_option linter.all false
/- The types, as plain Lean. -/
namespace Go.Proofs.YtoekflobllmeeaaGreatDoor.AM
open Go Go.Proofs

structure GKey where
  Group : Str
  Rule : Str
  deriving DecidableEq, Inhabited, Repr
def cGKey (p : GKey) : List D := [.v (.string (bs p.Group)), .v (.string (bs p.Rule))]
structure GPair where
  Name : Str
  Value : Str
  deriving DecidableEq, Inhabited, Repr
def cGPair (p : GPair) : List D := [.v (.string (bs p.Name)), .v (.string (bs p.Value))]
structure GHold where
  On : Bool
  Since : Int
  Hit : Bool
  Fired : Int
  deriving DecidableEq, Inhabited, Repr
def cGHold (p : GHold) : List D := [.v (.bool p.On), .v (.int .i64 p.Since), .v (.bool p.Hit), .v (.int .i64 p.Fired)]
structure GAlert where
  L : List GPair
  H : GHold
  State : Int
  V : Int
  deriving DecidableEq, Inhabited, Repr
def cGAlert (p : GAlert) : List D := [.sl (p.L.map cGPair), .v (.bool p.H.On), .v (.int .i64 p.H.Since), .v (.bool p.H.Hit), .v (.int .i64 p.H.Fired), .v (.int .i64 p.State), .v (.int .i64 p.V)]
structure GTable where
  A : List GAlert
  Full : Int
  deriving DecidableEq, Inhabited, Repr
def cGTable (p : GTable) : List D := [.sl (p.A.map cGAlert), .v (.int .i64 p.Full)]
structure GSaved where
  K : GKey
  X : GTable
  deriving DecidableEq, Inhabited, Repr
def cGSaved (p : GSaved) : List D := [.v (.string (bs p.K.Group)), .v (.string (bs p.K.Rule)), .sl (p.X.A.map cGAlert), .v (.int .i64 p.X.Full)]
structure GSample where
  T : Int
  V : Int
  deriving DecidableEq, Inhabited, Repr
def cGSample (p : GSample) : List D := [.v (.int .i64 p.T), .v (.int .i64 p.V)]
structure GFound where
  L : List GPair
  X : GSample
  deriving DecidableEq, Inhabited, Repr
def cGFound (p : GFound) : List D := [.sl (p.L.map cGPair), .v (.int .i64 p.X.T), .v (.int .i64 p.X.V)]
structure Gsnap_reader where
  b : List Int
  e : Int
  deriving DecidableEq, Inhabited, Repr
def cGsnap_reader (p : Gsnap_reader) : List D := [.sl (p.b.map (cK .u8)), .v (.int .i64 p.e)]
structure Gcodec_reader where
  b : List Int
  e : Int
  deriving DecidableEq, Inhabited, Repr
def cGcodec_reader (p : Gcodec_reader) : List D := [.sl (p.b.map (cK .u8)), .v (.int .i64 p.e)]

def tiL : List (Nat × TI) := [(2, ⟨.int .i64, 1, 8, [.int .i64 0]⟩),
  (3, ⟨.int .i64, 1, 8, [.int .i64 0]⟩),
  (4, ⟨.bool, 1, 1, [.bool false]⟩),
  (5, ⟨.int .u8, 1, 1, [.int .u8 0]⟩),
  (9, ⟨.string, 1, 16, [.string ByteArray.empty]⟩),
  (12, ⟨.int .u64, 1, 8, [.int .u64 0]⟩),
  (21, ⟨.int .i32, 1, 4, [.int .i32 0]⟩),
  (22, ⟨.slice 40, 1, 24, [.slice none 0 0]⟩),
  (23, ⟨.slice 5, 1, 24, [.slice none 0 0]⟩),
  (24, ⟨.struct #[⟨ "Group", 9, 0, false, "", "", 0⟩, ⟨ "Rule", 9, 1, false, "", "", 16⟩], 2, 32, [.string ByteArray.empty, .string ByteArray.empty]⟩),
  (25, ⟨.struct #[⟨ "Group", 9, 0, false, "", "", 0⟩, ⟨ "Rule", 9, 1, false, "", "", 16⟩], 2, 32, [.string ByteArray.empty, .string ByteArray.empty]⟩),
  (28, ⟨.int .i64, 1, 8, [.int .i64 0]⟩),
  (34, ⟨.slice 45, 1, 24, [.slice none 0 0]⟩),
  (35, ⟨.struct #[⟨ "A", 34, 0, false, "", "", 0⟩, ⟨ "Full", 3, 1, false, "", "", 24⟩], 2, 32, [.slice none 0 0, .int .i64 0]⟩),
  (36, ⟨.struct #[⟨ "A", 34, 0, false, "", "", 0⟩, ⟨ "Full", 3, 1, false, "", "", 24⟩], 2, 32, [.slice none 0 0, .int .i64 0]⟩),
  (39, ⟨.struct #[⟨ "K", 25, 0, false, "", "", 0⟩, ⟨ "X", 36, 2, false, "", "", 32⟩], 4, 64, [.string ByteArray.empty, .string ByteArray.empty, .slice none 0 0, .int .i64 0]⟩),
  (40, ⟨.struct #[⟨ "K", 25, 0, false, "", "", 0⟩, ⟨ "X", 36, 2, false, "", "", 32⟩], 4, 64, [.string ByteArray.empty, .string ByteArray.empty, .slice none 0 0, .int .i64 0]⟩),
  (41, ⟨.slice 50, 1, 24, [.slice none 0 0]⟩),
  (42, ⟨.struct #[⟨ "On", 4, 0, false, "", "", 0⟩, ⟨ "Since", 3, 1, false, "", "", 8⟩, ⟨ "Hit", 4, 2, false, "", "", 16⟩, ⟨ "Fired", 3, 3, false, "", "", 24⟩], 4, 32, [.bool false, .int .i64 0, .bool false, .int .i64 0]⟩),
  (43, ⟨.struct #[⟨ "On", 4, 0, false, "", "", 0⟩, ⟨ "Since", 3, 1, false, "", "", 8⟩, ⟨ "Hit", 4, 2, false, "", "", 16⟩, ⟨ "Fired", 3, 3, false, "", "", 24⟩], 4, 32, [.bool false, .int .i64 0, .bool false, .int .i64 0]⟩),
  (44, ⟨.struct #[⟨ "L", 41, 0, false, "", "", 0⟩, ⟨ "H", 43, 1, false, "", "", 24⟩, ⟨ "State", 3, 5, false, "", "", 56⟩, ⟨ "V", 3, 6, false, "", "", 64⟩], 7, 72, [.slice none 0 0, .bool false, .int .i64 0, .bool false, .int .i64 0, .int .i64 0, .int .i64 0]⟩),
  (45, ⟨.struct #[⟨ "L", 41, 0, false, "", "", 0⟩, ⟨ "H", 43, 1, false, "", "", 24⟩, ⟨ "State", 3, 5, false, "", "", 56⟩, ⟨ "V", 3, 6, false, "", "", 64⟩], 7, 72, [.slice none 0 0, .bool false, .int .i64 0, .bool false, .int .i64 0, .int .i64 0, .int .i64 0]⟩),
  (49, ⟨.struct #[⟨ "Name", 9, 0, false, "", "", 0⟩, ⟨ "Value", 9, 1, false, "", "", 16⟩], 2, 32, [.string ByteArray.empty, .string ByteArray.empty]⟩),
  (50, ⟨.struct #[⟨ "Name", 9, 0, false, "", "", 0⟩, ⟨ "Value", 9, 1, false, "", "", 16⟩], 2, 32, [.string ByteArray.empty, .string ByteArray.empty]⟩),
  (51, ⟨.struct #[⟨ "T", 3, 0, false, "", "", 0⟩, ⟨ "V", 3, 1, false, "", "", 8⟩], 2, 16, [.int .i64 0, .int .i64 0]⟩),
  (52, ⟨.struct #[⟨ "T", 3, 0, false, "", "", 0⟩, ⟨ "V", 3, 1, false, "", "", 8⟩], 2, 16, [.int .i64 0, .int .i64 0]⟩),
  (53, ⟨.struct #[⟨ "L", 41, 0, false, "", "", 0⟩, ⟨ "X", 52, 1, false, "", "", 24⟩], 3, 40, [.slice none 0 0, .int .i64 0, .int .i64 0]⟩),
  (54, ⟨.struct #[⟨ "L", 41, 0, false, "", "", 0⟩, ⟨ "X", 52, 1, false, "", "", 24⟩], 3, 40, [.slice none 0 0, .int .i64 0, .int .i64 0]⟩),
  (55, ⟨.slice 54, 1, 24, [.slice none 0 0]⟩),
  (57, ⟨.pointer 59, 1, 8, [.pointer none]⟩),
  (58, ⟨.struct #[⟨ "b", 23, 0, false, "", "watchtower/snap", 0⟩, ⟨ "e", 28, 1, false, "", "watchtower/snap", 24⟩], 2, 32, [.slice none 0 0, .int .i64 0]⟩),
  (59, ⟨.struct #[⟨ "b", 23, 0, false, "", "watchtower/snap", 0⟩, ⟨ "e", 28, 1, false, "", "watchtower/snap", 24⟩], 2, 32, [.slice none 0 0, .int .i64 0]⟩),
  (74, ⟨.map 9 54, 1, 8, [.map none]⟩),
  (77, ⟨.map 9 45, 1, 8, [.map none]⟩),
  (104, ⟨.pointer 106, 1, 8, [.pointer none]⟩),
  (105, ⟨.struct #[⟨ "addr", 104, 0, false, "", "strings", 0⟩, ⟨ "buf", 23, 1, false, "", "strings", 8⟩], 2, 32, [.pointer none, .slice none 0 0]⟩),
  (106, ⟨.struct #[⟨ "addr", 104, 0, false, "", "strings", 0⟩, ⟨ "buf", 23, 1, false, "", "strings", 8⟩], 2, 32, [.pointer none, .slice none 0 0]⟩),
  (107, ⟨.array 2 9, 2, 32, [.string ByteArray.empty, .string ByteArray.empty]⟩),
  (116, ⟨.slice 3, 1, 24, [.slice none 0 0]⟩),
  (128, ⟨.pointer 5, 1, 8, [.pointer none]⟩),
  (131, ⟨.int .u64, 1, 8, [.int .u64 0]⟩),
  (132, ⟨.struct #[⟨ "b", 23, 0, false, "", "watchtower/codec", 0⟩, ⟨ "e", 28, 1, false, "", "watchtower/codec", 24⟩], 2, 32, [.slice none 0 0, .int .i64 0]⟩),
  (133, ⟨.struct #[⟨ "b", 23, 0, false, "", "watchtower/codec", 0⟩, ⟨ "e", 28, 1, false, "", "watchtower/codec", 24⟩], 2, 32, [.slice none 0 0, .int .i64 0]⟩),
  (135, ⟨.pointer 133, 1, 8, [.pointer none]⟩),
  (141, ⟨.int .i64, 1, 8, [.int .i64 0]⟩),
  (149, ⟨.int .u32, 1, 4, [.int .u32 0]⟩),
  (151, ⟨.int .u64, 1, 8, [.int .u64 0]⟩),
  (152, ⟨.array 24 5, 24, 24, [.int .u8 0, .int .u8 0, .int .u8 0, .int .u8 0, .int .u8 0, .int .u8 0, .int .u8 0, .int .u8 0, .int .u8 0, .int .u8 0, .int .u8 0, .int .u8 0, .int .u8 0, .int .u8 0, .int .u8 0, .int .u8 0, .int .u8 0, .int .u8 0, .int .u8 0, .int .u8 0, .int .u8 0, .int .u8 0, .int .u8 0, .int .u8 0]⟩),
  (160, ⟨.pointer 3, 1, 8, [.pointer none]⟩),
  (164, ⟨.array 20 151, 20, 160, [.int .u64 0, .int .u64 0, .int .u64 0, .int .u64 0, .int .u64 0, .int .u64 0, .int .u64 0, .int .u64 0, .int .u64 0, .int .u64 0, .int .u64 0, .int .u64 0, .int .u64 0, .int .u64 0, .int .u64 0, .int .u64 0, .int .u64 0, .int .u64 0, .int .u64 0, .int .u64 0]⟩),
  (165, ⟨.array 65 5, 65, 65, [.int .u8 0, .int .u8 0, .int .u8 0, .int .u8 0, .int .u8 0, .int .u8 0, .int .u8 0, .int .u8 0, .int .u8 0, .int .u8 0, .int .u8 0, .int .u8 0, .int .u8 0, .int .u8 0, .int .u8 0, .int .u8 0, .int .u8 0, .int .u8 0, .int .u8 0, .int .u8 0, .int .u8 0, .int .u8 0, .int .u8 0, .int .u8 0, .int .u8 0, .int .u8 0, .int .u8 0, .int .u8 0, .int .u8 0, .int .u8 0, .int .u8 0, .int .u8 0, .int .u8 0, .int .u8 0, .int .u8 0, .int .u8 0, .int .u8 0, .int .u8 0, .int .u8 0, .int .u8 0, .int .u8 0, .int .u8 0, .int .u8 0, .int .u8 0, .int .u8 0, .int .u8 0, .int .u8 0, .int .u8 0, .int .u8 0, .int .u8 0, .int .u8 0, .int .u8 0, .int .u8 0, .int .u8 0, .int .u8 0, .int .u8 0, .int .u8 0, .int .u8 0, .int .u8 0, .int .u8 0, .int .u8 0, .int .u8 0, .int .u8 0, .int .u8 0, .int .u8 0]⟩),
  (169, ⟨.array 32 5, 32, 32, [.int .u8 0, .int .u8 0, .int .u8 0, .int .u8 0, .int .u8 0, .int .u8 0, .int .u8 0, .int .u8 0, .int .u8 0, .int .u8 0, .int .u8 0, .int .u8 0, .int .u8 0, .int .u8 0, .int .u8 0, .int .u8 0, .int .u8 0, .int .u8 0, .int .u8 0, .int .u8 0, .int .u8 0, .int .u8 0, .int .u8 0, .int .u8 0, .int .u8 0, .int .u8 0, .int .u8 0, .int .u8 0, .int .u8 0, .int .u8 0, .int .u8 0, .int .u8 0]⟩),
  (170, ⟨.array 64 5, 64, 64, [.int .u8 0, .int .u8 0, .int .u8 0, .int .u8 0, .int .u8 0, .int .u8 0, .int .u8 0, .int .u8 0, .int .u8 0, .int .u8 0, .int .u8 0, .int .u8 0, .int .u8 0, .int .u8 0, .int .u8 0, .int .u8 0, .int .u8 0, .int .u8 0, .int .u8 0, .int .u8 0, .int .u8 0, .int .u8 0, .int .u8 0, .int .u8 0, .int .u8 0, .int .u8 0, .int .u8 0, .int .u8 0, .int .u8 0, .int .u8 0, .int .u8 0, .int .u8 0, .int .u8 0, .int .u8 0, .int .u8 0, .int .u8 0, .int .u8 0, .int .u8 0, .int .u8 0, .int .u8 0, .int .u8 0, .int .u8 0, .int .u8 0, .int .u8 0, .int .u8 0, .int .u8 0, .int .u8 0, .int .u8 0, .int .u8 0, .int .u8 0, .int .u8 0, .int .u8 0, .int .u8 0, .int .u8 0, .int .u8 0, .int .u8 0, .int .u8 0, .int .u8 0, .int .u8 0, .int .u8 0, .int .u8 0, .int .u8 0, .int .u8 0, .int .u8 0]⟩)]
theorem tiL_ok : ∀ e ∈ tiL, ti Tryz.prog e.1 = some e.2 := by
  intro e he
  simp only [tiL, List.mem_cons, List.not_mem_nil, or_false] at he
  repeat' (rcases he with rfl | he)
  all_goals (first | (subst he; kernel_rfl) | kernel_rfl)
theorem ti_of {t : Nat} {i : TI} (h : tiFind tiL t = some i) : ti Tryz.prog t = some i := tiFind_ok tiL_ok h
theorem un_of {t : Nat} {i : TI} (h : tiFind tiL t = some i) (hb : i.desc = .bool := by rfl) : Tryz.prog.underlying t = some .bool := by rw [(ti_spec (ti_of h)).1, hb]
theorem aeq_25 (a0 : Str) (a1 : Str) (b0 : Str) (b1 : Str) : aeq Tryz.prog 9 25 (.agg [vS a0, vS a1]) (.agg [vS b0, vS b1]) = some (decide (a0 = b0) && (decide (a1 = b1) && true)) := by
  (try simp only [← dec_bs]); kernel_rfl
theorem eqg_25 : Tryz.prog.eqGuardType Tryz.prog.depth 25 = false := by kernel_rfl
theorem aeq_43 (a0 : Bool) (a1 : Int) (a2 : Bool) (a3 : Int) (b0 : Bool) (b1 : Int) (b2 : Bool) (b3 : Int) : aeq Tryz.prog 9 43 (.agg [vB a0, vI a1, vB a2, vI a3]) (.agg [vB b0, vI b1, vB b2, vI b3]) = some ((a0 == b0) && (decide (a1 = b1) && ((a2 == b2) && (decide (a3 = b3) && true)))) := by
  (try simp only [← dec_bs]); kernel_rfl
theorem eqg_43 : Tryz.prog.eqGuardType Tryz.prog.depth 43 = false := by kernel_rfl
theorem aeq_50 (a0 : Str) (a1 : Str) (b0 : Str) (b1 : Str) : aeq Tryz.prog 9 50 (.agg [vS a0, vS a1]) (.agg [vS b0, vS b1]) = some (decide (a0 = b0) && (decide (a1 = b1) && true)) := by
  (try simp only [← dec_bs]); kernel_rfl
theorem eqg_50 : Tryz.prog.eqGuardType Tryz.prog.depth 50 = false := by kernel_rfl
theorem zv_45 : (Tryz.prog.info? 45).bind (·.zero) = some (.agg #[.slice none 0 0, .bool false, .int .i64 0, .bool false, .int .i64 0, .int .i64 0, .int .i64 0]) := by kernel_rfl
theorem zv_54 : (Tryz.prog.info? 54).bind (·.zero) = some (.agg #[.slice none 0 0, .int .i64 0, .int .i64 0]) := by kernel_rfl
theorem cGPair_inj (p q : GPair) (h : cGPair p = cGPair q) : p = q := by
  obtain ⟨a0, a1⟩ := p
  obtain ⟨b0, b1⟩ := q
  simp only [cGPair, List.cons.injEq, D.v.injEq, D.sl.injEq, Value.int.injEq, Value.bool.injEq, Value.string.injEq, bs_inj, true_and, and_true] at h
  obtain ⟨h0, h1⟩ := h
  subst h0; subst h1; rfl
theorem cGAlert_inj (p q : GAlert) (h : cGAlert p = cGAlert q) : p = q := by
  obtain ⟨a0, ⟨a1, a2, a3, a4⟩, a5, a6⟩ := p
  obtain ⟨b0, ⟨b1, b2, b3, b4⟩, b5, b6⟩ := q
  simp only [cGAlert, List.cons.injEq, D.v.injEq, D.sl.injEq, Value.int.injEq, Value.bool.injEq, Value.string.injEq, bs_inj, true_and, and_true] at h
  obtain ⟨h0, h1, h2, h3, h4, h5, h6⟩ := h
  have h0 := rows_inj cGPair_inj h0
  subst h0; subst h1; subst h2; subst h3; subst h4; subst h5; subst h6; rfl
end Go.Proofs.YtoekflobllmeeaaGreatDoor.AM
