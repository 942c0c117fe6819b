/- The order of strings. -/
import Derived.Test.YtickejlolpoboaaAm19
set_option linter.all false
namespace Go.Proofs.Ytickejlolpoboaa.AM
open Go

theorem bl_irrefl : ∀ a : List UInt8, Op.bytesLess a a = false
  | [] => rfl
  | x :: a => by
    simp [Op.bytesLess, bl_irrefl a]

theorem bl_trans : ∀ {a b c : List UInt8}, Op.bytesLess a b = true → Op.bytesLess b c = true → Op.bytesLess a c = true
  | [], [], _, h, _ => by simp [Op.bytesLess] at h
  | [], _ :: _, [], _, h => by simp [Op.bytesLess] at h
  | [], _ :: _, _ :: _, _, _ => by simp [Op.bytesLess]
  | _ :: _, [], _, h, _ => by simp [Op.bytesLess] at h
  | _ :: _, _ :: _, [], _, h => by simp [Op.bytesLess] at h
  | x :: a, y :: b, z :: c, h1, h2 => by
    have ih := @bl_trans a b c
    simp only [Op.bytesLess, Bool.or_eq_true, Bool.and_eq_true, decide_eq_true_eq, beq_iff_eq] at *
    rcases h1 with h1 | ⟨rfl, h1⟩
    · rcases h2 with h2 | ⟨rfl, h2⟩
      · exact .inl (UInt8.lt_trans h1 h2)
      · exact .inl h1
    · rcases h2 with h2 | ⟨rfl, h2⟩
      · exact .inl h2
      · exact .inr ⟨rfl, ih h1 h2⟩

theorem bl_total : ∀ {a b : List UInt8}, Op.bytesLess a b = false → Op.bytesLess b a = false → a = b
  | [], [], _, _ => rfl
  | [], _ :: _, h, _ => by simp [Op.bytesLess] at h
  | _ :: _, [], _, h => by simp [Op.bytesLess] at h
  | x :: a, y :: b, h1, h2 => by
    have ih := @bl_total a b
    simp only [Op.bytesLess, Bool.or_eq_false_iff, Bool.and_eq_false_iff, decide_eq_false_iff_not, beq_eq_false_iff_ne] at *
    have hxy : x = y := by
      rcases Nat.lt_trichotomy x.toNat y.toNat with h | h | h
      · exact (h1.1 (UInt8.lt_iff_toNat_lt.2 h)).elim
      · exact UInt8.toNat_inj.1 h
      · exact (h2.1 (UInt8.lt_iff_toNat_lt.2 h)).elim
    subst hxy
    rw [ih (h1.2.resolve_left (by simp)) (h2.2.resolve_left (by simp))]

theorem lessB_irrefl (a : ByteArray) : lessB a a = false := bl_irrefl _
theorem lessB_trans {a b c : ByteArray} (h : lessB a b = true) (k : lessB b c = true) : lessB a c = true := bl_trans h k
theorem lessB_total {a b : ByteArray} (h : lessB a b = false) (k : lessB b a = false) : a = b := by
  have := bl_total h k
  cases a; cases b
  simp only [ByteArray.mk.injEq]
  exact Array.toList_inj.1 this
theorem lessB_asymm {a b : ByteArray} (h : lessB a b = true) : lessB b a = false := by
  cases hb : lessB b a
  · rfl
  · have := lessB_trans h hb; rw [lessB_irrefl] at this; cases this
theorem lessB_ntrans {a b c : ByteArray} (h : lessB a b = false) (k : lessB b c = false) : lessB a c = false := by
  cases hc : lessB a c
  · rfl
  · cases hb : lessB b a
    · have := lessB_total h hb; subst this; rw [k] at hc; cases hc
    · have := lessB_trans hb hc; rw [k] at this; cases this

end Go.Proofs.Ytickejlolpoboaa.AM
