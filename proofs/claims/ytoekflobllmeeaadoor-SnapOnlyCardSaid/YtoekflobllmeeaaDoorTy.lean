/- A part of the proof: Ty. -/
import Derived.Test.YtoekflobllmeeaaDoorX2
import Derived.Test.YtoekflobllmeeaaDoorProg
set_option linter.all false
/- The types, as plain Lean. -/
namespace Go.Proofs.YtoekflobllmeeaaDoor.AM
open Go Go.Proofs

structure GKey where
  Group : Str
  Rule : Str
  deriving DecidableEq, Inhabited, Repr
def cGKey (p : GKey) : List D := [.v (.string (bs p.Group)), .v (.string (bs p.Rule))]
structure GPair where
  Name : Str
  Value : Str
  deriving DecidableEq, Inhabited, Repr
def cGPair (p : GPair) : List D := [.v (.string (bs p.Name)), .v (.string (bs p.Value))]
structure GHold where
  On : Bool
  Since : Int
  Hit : Bool
  Fired : Int
  deriving DecidableEq, Inhabited, Repr
def cGHold (p : GHold) : List D := [.v (.bool p.On), .v (.int .i64 p.Since), .v (.bool p.Hit), .v (.int .i64 p.Fired)]
structure GAlert where
  L : List GPair
  H : GHold
  State : Int
  V : Int
  deriving DecidableEq, Inhabited, Repr
def cGAlert (p : GAlert) : List D := [.sl (p.L.map cGPair), .v (.bool p.H.On), .v (.int .i64 p.H.Since), .v (.bool p.H.Hit), .v (.int .i64 p.H.Fired), .v (.int .i64 p.State), .v (.int .i64 p.V)]
structure GTable where
  A : List GAlert
  Full : Int
  deriving DecidableEq, Inhabited, Repr
def cGTable (p : GTable) : List D := [.sl (p.A.map cGAlert), .v (.int .i64 p.Full)]
structure GSaved where
  K : GKey
  X : GTable
  deriving DecidableEq, Inhabited, Repr
def cGSaved (p : GSaved) : List D := [.v (.string (bs p.K.Group)), .v (.string (bs p.K.Rule)), .sl (p.X.A.map cGAlert), .v (.int .i64 p.X.Full)]
structure GSample where
  T : Int
  V : Int
  deriving DecidableEq, Inhabited, Repr
def cGSample (p : GSample) : List D := [.v (.int .i64 p.T), .v (.int .i64 p.V)]
structure GFound where
  L : List GPair
  X : GSample
  deriving DecidableEq, Inhabited, Repr
def cGFound (p : GFound) : List D := [.sl (p.L.map cGPair), .v (.int .i64 p.X.T), .v (.int .i64 p.X.V)]
structure Gsnap_reader where
  b : List Int
  e : Int
  deriving DecidableEq, Inhabited, Repr
def cGsnap_reader (p : Gsnap_reader) : List D := [.sl (p.b.map (cK .u8)), .v (.int .i64 p.e)]
structure Gcodec_reader where
  b : List Int
  e : Int
  deriving DecidableEq, Inhabited, Repr
def cGcodec_reader (p : Gcodec_reader) : List D := [.sl (p.b.map (cK .u8)), .v (.int .i64 p.e)]

def tiL : List (Nat × TI) := [(2, ⟨.int .i64, 1, 8, [.int .i64 0]⟩),
  (3, ⟨.int .i64, 1, 8, [.int .i64 0]⟩),
  (4, ⟨.bool, 1, 1, [.bool false]⟩),
  (5, ⟨.int .u8, 1, 1, [.int .u8 0]⟩),
  (9, ⟨.string, 1, 16, [.string ByteArray.empty]⟩),
  (12, ⟨.int .u64, 1, 8, [.int .u64 0]⟩),
  (21, ⟨.int .i32, 1, 4, [.int .i32 0]⟩),
  (22, ⟨.slice 5, 1, 24, [.slice none 0 0]⟩),
  (24, ⟨.slice 46, 1, 24, [.slice none 0 0]⟩),
  (25, ⟨.int .i64, 1, 8, [.int .i64 0]⟩),
  (31, ⟨.slice 62, 1, 24, [.slice none 0 0]⟩),
  (32, ⟨.struct #[⟨ "A", 31, 0, false, "", "", 0⟩, ⟨ "Full", 3, 1, false, "", "", 24⟩], 2, 32, [.slice none 0 0, .int .i64 0]⟩),
  (33, ⟨.struct #[⟨ "A", 31, 0, false, "", "", 0⟩, ⟨ "Full", 3, 1, false, "", "", 24⟩], 2, 32, [.slice none 0 0, .int .i64 0]⟩),
  (35, ⟨.struct #[⟨ "Name", 9, 0, false, "", "", 0⟩, ⟨ "Value", 9, 1, false, "", "", 16⟩], 2, 32, [.string ByteArray.empty, .string ByteArray.empty]⟩),
  (36, ⟨.struct #[⟨ "Name", 9, 0, false, "", "", 0⟩, ⟨ "Value", 9, 1, false, "", "", 16⟩], 2, 32, [.string ByteArray.empty, .string ByteArray.empty]⟩),
  (37, ⟨.slice 36, 1, 24, [.slice none 0 0]⟩),
  (38, ⟨.struct #[⟨ "T", 3, 0, false, "", "", 0⟩, ⟨ "V", 3, 1, false, "", "", 8⟩], 2, 16, [.int .i64 0, .int .i64 0]⟩),
  (39, ⟨.struct #[⟨ "T", 3, 0, false, "", "", 0⟩, ⟨ "V", 3, 1, false, "", "", 8⟩], 2, 16, [.int .i64 0, .int .i64 0]⟩),
  (40, ⟨.struct #[⟨ "L", 37, 0, false, "", "", 0⟩, ⟨ "X", 39, 1, false, "", "", 24⟩], 3, 40, [.slice none 0 0, .int .i64 0, .int .i64 0]⟩),
  (41, ⟨.struct #[⟨ "L", 37, 0, false, "", "", 0⟩, ⟨ "X", 39, 1, false, "", "", 24⟩], 3, 40, [.slice none 0 0, .int .i64 0, .int .i64 0]⟩),
  (42, ⟨.slice 41, 1, 24, [.slice none 0 0]⟩),
  (43, ⟨.struct #[⟨ "Group", 9, 0, false, "", "", 0⟩, ⟨ "Rule", 9, 1, false, "", "", 16⟩], 2, 32, [.string ByteArray.empty, .string ByteArray.empty]⟩),
  (44, ⟨.struct #[⟨ "Group", 9, 0, false, "", "", 0⟩, ⟨ "Rule", 9, 1, false, "", "", 16⟩], 2, 32, [.string ByteArray.empty, .string ByteArray.empty]⟩),
  (45, ⟨.struct #[⟨ "K", 44, 0, false, "", "", 0⟩, ⟨ "X", 33, 2, false, "", "", 32⟩], 4, 64, [.string ByteArray.empty, .string ByteArray.empty, .slice none 0 0, .int .i64 0]⟩),
  (46, ⟨.struct #[⟨ "K", 44, 0, false, "", "", 0⟩, ⟨ "X", 33, 2, false, "", "", 32⟩], 4, 64, [.string ByteArray.empty, .string ByteArray.empty, .slice none 0 0, .int .i64 0]⟩),
  (49, ⟨.pointer 51, 1, 8, [.pointer none]⟩),
  (50, ⟨.struct #[⟨ "b", 22, 0, false, "", "watchtower/snap", 0⟩, ⟨ "e", 25, 1, false, "", "watchtower/snap", 24⟩], 2, 32, [.slice none 0 0, .int .i64 0]⟩),
  (51, ⟨.struct #[⟨ "b", 22, 0, false, "", "watchtower/snap", 0⟩, ⟨ "e", 25, 1, false, "", "watchtower/snap", 24⟩], 2, 32, [.slice none 0 0, .int .i64 0]⟩),
  (59, ⟨.struct #[⟨ "On", 4, 0, false, "", "", 0⟩, ⟨ "Since", 3, 1, false, "", "", 8⟩, ⟨ "Hit", 4, 2, false, "", "", 16⟩, ⟨ "Fired", 3, 3, false, "", "", 24⟩], 4, 32, [.bool false, .int .i64 0, .bool false, .int .i64 0]⟩),
  (60, ⟨.struct #[⟨ "On", 4, 0, false, "", "", 0⟩, ⟨ "Since", 3, 1, false, "", "", 8⟩, ⟨ "Hit", 4, 2, false, "", "", 16⟩, ⟨ "Fired", 3, 3, false, "", "", 24⟩], 4, 32, [.bool false, .int .i64 0, .bool false, .int .i64 0]⟩),
  (61, ⟨.struct #[⟨ "L", 37, 0, false, "", "", 0⟩, ⟨ "H", 60, 1, false, "", "", 24⟩, ⟨ "State", 3, 5, false, "", "", 56⟩, ⟨ "V", 3, 6, false, "", "", 64⟩], 7, 72, [.slice none 0 0, .bool false, .int .i64 0, .bool false, .int .i64 0, .int .i64 0, .int .i64 0]⟩),
  (62, ⟨.struct #[⟨ "L", 37, 0, false, "", "", 0⟩, ⟨ "H", 60, 1, false, "", "", 24⟩, ⟨ "State", 3, 5, false, "", "", 56⟩, ⟨ "V", 3, 6, false, "", "", 64⟩], 7, 72, [.slice none 0 0, .bool false, .int .i64 0, .bool false, .int .i64 0, .int .i64 0, .int .i64 0]⟩),
  (65, ⟨.map 9 41, 1, 8, [.map none]⟩),
  (68, ⟨.map 9 62, 1, 8, [.map none]⟩),
  (91, ⟨.pointer 93, 1, 8, [.pointer none]⟩),
  (92, ⟨.struct #[⟨ "addr", 91, 0, false, "", "strings", 0⟩, ⟨ "buf", 22, 1, false, "", "strings", 8⟩], 2, 32, [.pointer none, .slice none 0 0]⟩),
  (93, ⟨.struct #[⟨ "addr", 91, 0, false, "", "strings", 0⟩, ⟨ "buf", 22, 1, false, "", "strings", 8⟩], 2, 32, [.pointer none, .slice none 0 0]⟩),
  (94, ⟨.array 2 9, 2, 32, [.string ByteArray.empty, .string ByteArray.empty]⟩),
  (103, ⟨.slice 3, 1, 24, [.slice none 0 0]⟩),
  (117, ⟨.pointer 5, 1, 8, [.pointer none]⟩),
  (120, ⟨.int .u64, 1, 8, [.int .u64 0]⟩),
  (123, ⟨.struct #[⟨ "b", 22, 0, false, "", "watchtower/codec", 0⟩, ⟨ "e", 25, 1, false, "", "watchtower/codec", 24⟩], 2, 32, [.slice none 0 0, .int .i64 0]⟩),
  (124, ⟨.struct #[⟨ "b", 22, 0, false, "", "watchtower/codec", 0⟩, ⟨ "e", 25, 1, false, "", "watchtower/codec", 24⟩], 2, 32, [.slice none 0 0, .int .i64 0]⟩),
  (126, ⟨.pointer 124, 1, 8, [.pointer none]⟩),
  (132, ⟨.int .i64, 1, 8, [.int .i64 0]⟩),
  (140, ⟨.int .u32, 1, 4, [.int .u32 0]⟩),
  (142, ⟨.int .u64, 1, 8, [.int .u64 0]⟩),
  (144, ⟨.array 24 5, 24, 24, [.int .u8 0, .int .u8 0, .int .u8 0, .int .u8 0, .int .u8 0, .int .u8 0, .int .u8 0, .int .u8 0, .int .u8 0, .int .u8 0, .int .u8 0, .int .u8 0, .int .u8 0, .int .u8 0, .int .u8 0, .int .u8 0, .int .u8 0, .int .u8 0, .int .u8 0, .int .u8 0, .int .u8 0, .int .u8 0, .int .u8 0, .int .u8 0]⟩),
  (152, ⟨.pointer 3, 1, 8, [.pointer none]⟩),
  (156, ⟨.array 20 142, 20, 160, [.int .u64 0, .int .u64 0, .int .u64 0, .int .u64 0, .int .u64 0, .int .u64 0, .int .u64 0, .int .u64 0, .int .u64 0, .int .u64 0, .int .u64 0, .int .u64 0, .int .u64 0, .int .u64 0, .int .u64 0, .int .u64 0, .int .u64 0, .int .u64 0, .int .u64 0, .int .u64 0]⟩),
  (157, ⟨.array 65 5, 65, 65, [.int .u8 0, .int .u8 0, .int .u8 0, .int .u8 0, .int .u8 0, .int .u8 0, .int .u8 0, .int .u8 0, .int .u8 0, .int .u8 0, .int .u8 0, .int .u8 0, .int .u8 0, .int .u8 0, .int .u8 0, .int .u8 0, .int .u8 0, .int .u8 0, .int .u8 0, .int .u8 0, .int .u8 0, .int .u8 0, .int .u8 0, .int .u8 0, .int .u8 0, .int .u8 0, .int .u8 0, .int .u8 0, .int .u8 0, .int .u8 0, .int .u8 0, .int .u8 0, .int .u8 0, .int .u8 0, .int .u8 0, .int .u8 0, .int .u8 0, .int .u8 0, .int .u8 0, .int .u8 0, .int .u8 0, .int .u8 0, .int .u8 0, .int .u8 0, .int .u8 0, .int .u8 0, .int .u8 0, .int .u8 0, .int .u8 0, .int .u8 0, .int .u8 0, .int .u8 0, .int .u8 0, .int .u8 0, .int .u8 0, .int .u8 0, .int .u8 0, .int .u8 0, .int .u8 0, .int .u8 0, .int .u8 0, .int .u8 0, .int .u8 0, .int .u8 0, .int .u8 0]⟩),
  (161, ⟨.array 32 5, 32, 32, [.int .u8 0, .int .u8 0, .int .u8 0, .int .u8 0, .int .u8 0, .int .u8 0, .int .u8 0, .int .u8 0, .int .u8 0, .int .u8 0, .int .u8 0, .int .u8 0, .int .u8 0, .int .u8 0, .int .u8 0, .int .u8 0, .int .u8 0, .int .u8 0, .int .u8 0, .int .u8 0, .int .u8 0, .int .u8 0, .int .u8 0, .int .u8 0, .int .u8 0, .int .u8 0, .int .u8 0, .int .u8 0, .int .u8 0, .int .u8 0, .int .u8 0, .int .u8 0]⟩),
  (162, ⟨.array 64 5, 64, 64, [.int .u8 0, .int .u8 0, .int .u8 0, .int .u8 0, .int .u8 0, .int .u8 0, .int .u8 0, .int .u8 0, .int .u8 0, .int .u8 0, .int .u8 0, .int .u8 0, .int .u8 0, .int .u8 0, .int .u8 0, .int .u8 0, .int .u8 0, .int .u8 0, .int .u8 0, .int .u8 0, .int .u8 0, .int .u8 0, .int .u8 0, .int .u8 0, .int .u8 0, .int .u8 0, .int .u8 0, .int .u8 0, .int .u8 0, .int .u8 0, .int .u8 0, .int .u8 0, .int .u8 0, .int .u8 0, .int .u8 0, .int .u8 0, .int .u8 0, .int .u8 0, .int .u8 0, .int .u8 0, .int .u8 0, .int .u8 0, .int .u8 0, .int .u8 0, .int .u8 0, .int .u8 0, .int .u8 0, .int .u8 0, .int .u8 0, .int .u8 0, .int .u8 0, .int .u8 0, .int .u8 0, .int .u8 0, .int .u8 0, .int .u8 0, .int .u8 0, .int .u8 0, .int .u8 0, .int .u8 0, .int .u8 0, .int .u8 0, .int .u8 0, .int .u8 0]⟩)]
theorem tiL_ok : ∀ e ∈ tiL, ti Tryd.prog e.1 = some e.2 := by
  intro e he
  simp only [tiL, List.mem_cons, List.not_mem_nil, or_false] at he
  repeat' (rcases he with rfl | he)
  all_goals (first | (subst he; kernel_rfl) | kernel_rfl)
theorem ti_of {t : Nat} {i : TI} (h : tiFind tiL t = some i) : ti Tryd.prog t = some i := tiFind_ok tiL_ok h
theorem un_of {t : Nat} {i : TI} (h : tiFind tiL t = some i) (hb : i.desc = .bool := by rfl) : Tryd.prog.underlying t = some .bool := by rw [(ti_spec (ti_of h)).1, hb]
theorem aeq_36 (a0 : Str) (a1 : Str) (b0 : Str) (b1 : Str) : aeq Tryd.prog 9 36 (.agg [vS a0, vS a1]) (.agg [vS b0, vS b1]) = some (decide (a0 = b0) && (decide (a1 = b1) && true)) := by
  (try simp only [← dec_bs]); kernel_rfl
theorem eqg_36 : Tryd.prog.eqGuardType Tryd.prog.depth 36 = false := by kernel_rfl
theorem aeq_44 (a0 : Str) (a1 : Str) (b0 : Str) (b1 : Str) : aeq Tryd.prog 9 44 (.agg [vS a0, vS a1]) (.agg [vS b0, vS b1]) = some (decide (a0 = b0) && (decide (a1 = b1) && true)) := by
  (try simp only [← dec_bs]); kernel_rfl
theorem eqg_44 : Tryd.prog.eqGuardType Tryd.prog.depth 44 = false := by kernel_rfl
theorem aeq_60 (a0 : Bool) (a1 : Int) (a2 : Bool) (a3 : Int) (b0 : Bool) (b1 : Int) (b2 : Bool) (b3 : Int) : aeq Tryd.prog 9 60 (.agg [vB a0, vI a1, vB a2, vI a3]) (.agg [vB b0, vI b1, vB b2, vI b3]) = some ((a0 == b0) && (decide (a1 = b1) && ((a2 == b2) && (decide (a3 = b3) && true)))) := by
  (try simp only [← dec_bs]); kernel_rfl
theorem eqg_60 : Tryd.prog.eqGuardType Tryd.prog.depth 60 = false := by kernel_rfl
theorem zv_41 : (Tryd.prog.info? 41).bind (·.zero) = some (.agg #[.slice none 0 0, .int .i64 0, .int .i64 0]) := by kernel_rfl
theorem zv_62 : (Tryd.prog.info? 62).bind (·.zero) = some (.agg #[.slice none 0 0, .bool false, .int .i64 0, .bool false, .int .i64 0, .int .i64 0, .int .i64 0]) := by kernel_rfl
theorem cGPair_inj (p q : GPair) (h : cGPair p = cGPair q) : p = q := by
  obtain ⟨a0, a1⟩ := p
  obtain ⟨b0, b1⟩ := q
  simp only [cGPair, List.cons.injEq, D.v.injEq, D.sl.injEq, Value.int.injEq, Value.bool.injEq, Value.string.injEq, bs_inj, true_and, and_true] at h
  obtain ⟨h0, h1⟩ := h
  subst h0; subst h1; rfl
theorem cGAlert_inj (p q : GAlert) (h : cGAlert p = cGAlert q) : p = q := by
  obtain ⟨a0, ⟨a1, a2, a3, a4⟩, a5, a6⟩ := p
  obtain ⟨b0, ⟨b1, b2, b3, b4⟩, b5, b6⟩ := q
  simp only [cGAlert, List.cons.injEq, D.v.injEq, D.sl.injEq, Value.int.injEq, Value.bool.injEq, Value.string.injEq, bs_inj, true_and, and_true] at h
  obtain ⟨h0, h1, h2, h3, h4, h5, h6⟩ := h
  have h0 := rows_inj cGPair_inj h0
  subst h0; subst h1; subst h2; subst h3; subst h4; subst h5; subst h6; rfl
end Go.Proofs.YtoekflobllmeeaaDoor.AM
