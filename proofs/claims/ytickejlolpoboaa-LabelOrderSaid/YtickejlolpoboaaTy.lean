/- The types of this program's data. -/
import Derived.Test.YtickejlolpoboaaAm28
import Derived.Test.YtickejlolpoboaaProg
set_option linter.all false
namespace Go.Proofs.Ytickejlolpoboaa.AM
open Go Go.Proofs
@[go_sem] theorem ti2 : ti Try.prog 2 = some ⟨.int .i64, 1, 8, [.int .i64 0]⟩ := by kernel_rfl
@[go_sem] theorem ti3 : ti Try.prog 3 = some ⟨.int .i64, 1, 8, [.int .i64 0]⟩ := by kernel_rfl
@[go_sem] theorem ti4 : ti Try.prog 4 = some ⟨.bool, 1, 1, [.bool false]⟩ := by kernel_rfl
@[go_sem] theorem ti5 : ti Try.prog 5 = some ⟨.int .u8, 1, 1, [.int .u8 0]⟩ := by kernel_rfl
@[go_sem] theorem ti9 : ti Try.prog 9 = some ⟨.string, 1, 16, [.string ByteArray.empty]⟩ := by kernel_rfl
@[go_sem] theorem ti12 : ti Try.prog 12 = some ⟨.int .u64, 1, 8, [.int .u64 0]⟩ := by kernel_rfl
@[go_sem] theorem ti21 : ti Try.prog 21 = some ⟨.int .i32, 1, 4, [.int .i32 0]⟩ := by kernel_rfl
@[go_sem] theorem ti22 : ti Try.prog 22 = some ⟨.slice 29, 1, 24, [.slice none 0 0]⟩ := by kernel_rfl
@[go_sem] theorem ti25 : ti Try.prog 25 = some ⟨.int .i64, 1, 8, [.int .i64 0]⟩ := by kernel_rfl
@[go_sem] theorem ti28 : ti Try.prog 28 = some ⟨.struct #[⟨ "Name", 9, 0, false, "", "", 0⟩, ⟨ "Value", 9, 1, false, "", "", 16⟩], 2, 32, [.string ByteArray.empty, .string ByteArray.empty]⟩ := by kernel_rfl
@[go_sem] theorem ti29 : ti Try.prog 29 = some ⟨.struct #[⟨ "Name", 9, 0, false, "", "", 0⟩, ⟨ "Value", 9, 1, false, "", "", 16⟩], 2, 32, [.string ByteArray.empty, .string ByteArray.empty]⟩ := by kernel_rfl
@[go_sem] theorem ti43 : ti Try.prog 43 = some ⟨.map 9 4, 1, 8, [.map none]⟩ := by kernel_rfl
@[go_sem] theorem ti54 : ti Try.prog 54 = some ⟨.int .u64, 1, 8, [.int .u64 0]⟩ := by kernel_rfl
@[go_sem] theorem ti55 : ti Try.prog 55 = some ⟨.slice 3, 1, 24, [.slice none 0 0]⟩ := by kernel_rfl
@[go_sem] theorem ti57 : ti Try.prog 57 = some ⟨.int .i64, 1, 8, [.int .i64 0]⟩ := by kernel_rfl
@[go_sem] theorem ti65 : ti Try.prog 65 = some ⟨.int .u32, 1, 4, [.int .u32 0]⟩ := by kernel_rfl
@[go_sem] theorem ti67 : ti Try.prog 67 = some ⟨.int .u64, 1, 8, [.int .u64 0]⟩ := by kernel_rfl
@[go_sem] theorem ti72 : ti Try.prog 72 = some ⟨.pointer 3, 1, 8, [.pointer none]⟩ := by kernel_rfl
@[go_sem] theorem ti87 : ti Try.prog 87 = some ⟨.pointer 5, 1, 8, [.pointer none]⟩ := by kernel_rfl
@[go_sem] theorem un4 : Try.prog.underlying 4 = some .bool := (ti_spec ti4).1
end Go.Proofs.Ytickejlolpoboaa.AM
