/- A part of the proof: Ty. -/
import Derived.Test.YtickejlolpoboaaX
import Derived.Test.YtickejlolpoboaaProg
set_option linter.all false
/- The types, as plain Lean. -/
namespace Go.Proofs.Ytickejlolpoboaa.AM
open Go Go.Proofs

structure GPair where
  Name : Str
  Value : Str
  deriving DecidableEq, Inhabited, Repr
def cGPair (p : GPair) : List D := [.v (.string (bs p.Name)), .v (.string (bs p.Value))]

def tiL : List (Nat × TI) := [(2, ⟨.int .i64, 1, 8, [.int .i64 0]⟩),
  (3, ⟨.int .i64, 1, 8, [.int .i64 0]⟩),
  (4, ⟨.bool, 1, 1, [.bool false]⟩),
  (5, ⟨.int .u8, 1, 1, [.int .u8 0]⟩),
  (9, ⟨.string, 1, 16, [.string ByteArray.empty]⟩),
  (12, ⟨.int .u64, 1, 8, [.int .u64 0]⟩),
  (21, ⟨.int .i32, 1, 4, [.int .i32 0]⟩),
  (22, ⟨.slice 29, 1, 24, [.slice none 0 0]⟩),
  (25, ⟨.int .i64, 1, 8, [.int .i64 0]⟩),
  (28, ⟨.struct #[⟨ "Name", 9, 0, false, "", "", 0⟩, ⟨ "Value", 9, 1, false, "", "", 16⟩], 2, 32, [.string ByteArray.empty, .string ByteArray.empty]⟩),
  (29, ⟨.struct #[⟨ "Name", 9, 0, false, "", "", 0⟩, ⟨ "Value", 9, 1, false, "", "", 16⟩], 2, 32, [.string ByteArray.empty, .string ByteArray.empty]⟩),
  (43, ⟨.map 9 4, 1, 8, [.map none]⟩),
  (54, ⟨.int .u64, 1, 8, [.int .u64 0]⟩),
  (55, ⟨.slice 3, 1, 24, [.slice none 0 0]⟩),
  (57, ⟨.int .i64, 1, 8, [.int .i64 0]⟩),
  (65, ⟨.int .u32, 1, 4, [.int .u32 0]⟩),
  (67, ⟨.int .u64, 1, 8, [.int .u64 0]⟩),
  (72, ⟨.pointer 3, 1, 8, [.pointer none]⟩),
  (87, ⟨.pointer 5, 1, 8, [.pointer none]⟩)]
theorem tiL_ok : ∀ e ∈ tiL, ti Try.prog e.1 = some e.2 := by
  intro e he
  simp only [tiL, List.mem_cons, List.not_mem_nil, or_false] at he
  repeat' (rcases he with rfl | he)
  all_goals (first | (subst he; kernel_rfl) | kernel_rfl)
theorem ti_of {t : Nat} {i : TI} (h : tiFind tiL t = some i) : ti Try.prog t = some i := tiFind_ok tiL_ok h
theorem un_of {t : Nat} {i : TI} (h : tiFind tiL t = some i) (hb : i.desc = .bool := by rfl) : Try.prog.underlying t = some .bool := by rw [(ti_spec (ti_of h)).1, hb]
theorem aeq_29 (a0 : Str) (a1 : Str) (b0 : Str) (b1 : Str) : aeq Try.prog 9 29 (.agg [vS a0, vS a1]) (.agg [vS b0, vS b1]) = some (decide (a0 = b0) && (decide (a1 = b1) && true)) := by
  simp only [← dec_bs]; kernel_rfl
theorem eqg_29 : Try.prog.eqGuardType Try.prog.depth 29 = false := by kernel_rfl
theorem zv_4 : (Try.prog.info? 4).bind (·.zero) = some (.bool false) := by kernel_rfl
theorem cGPair_inj (p q : GPair) (h : cGPair p = cGPair q) : p = q := by
  cases p; cases q
  simp [cGPair, bs_inj] at h
  simp [h]
end Go.Proofs.Ytickejlolpoboaa.AM
