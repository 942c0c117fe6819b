/- What the operations on values do, in abstract terms, and that the model does so. -/
import Derived.Test.YtickejlolpoboaaAm2
set_option linter.all false
namespace Go.Proofs.Ytickejlolpoboaa.AM
open Go

structure TI where
  desc : TypeDesc
  size : Nat
  bytes : Nat
  zero : List Value

def ti (P : Program) (t : TypeId) : Option TI :=
  match P.underlying t, P.info? t with
  | some d, some i => match i.zero with
    | some z => if z.cells.size = i.size ∧ z.cells.all (·.oneCell') = true then some ⟨d, i.size, i.bytes, z.cells.toList⟩ else none
    | none => none
  | _, _ => none

theorem ti_spec {P : Program} {t : TypeId} {i : TI} (h : ti P t = some i) : P.underlying t = some i.desc ∧
    ∃ f z, P.info? t = some f ∧ f.zero = some z ∧ f.size = i.size ∧ f.bytes = i.bytes ∧ z.cells = i.zero.toArray ∧ i.zero.length = i.size ∧ ∀ v ∈ i.zero, v.oneCell' = true := by
  unfold ti at h
  split at h
  · rename_i d f hd hf
    split at h
    · rename_i z hz
      split at h
      · rename_i hc
        cases h
        refine ⟨hd, f, z, hf, hz, rfl, rfl, by simp, by simpa using hc.1, fun v hv => ?_⟩
        have := Array.all_eq_true_iff_forall_mem.1 hc.2 v (by simpa using hv)
        exact this
      · cases h
    · cases h
  · cases h

theorem ti_size {P : Program} {t : TypeId} {i : TI} (h : ti P t = some i) (w : World) : (sizeOf t).run P w = .ok i.size w := by
  obtain ⟨_, f, z, hf, _, hs, _⟩ := ti_spec h
  simp [sizeOf, typeInfo, hf, hs]

theorem ti_und {P : Program} {t : TypeId} {i : TI} (h : ti P t = some i) (w : World) : (underlying t).run P w = .ok i.desc w :=
  run_underlying (ti_spec h).1 w

theorem ti_zero {P : Program} {t : TypeId} {i : TI} (h : ti P t = some i) (w : World) : ∃ z, (zeroValue t).run P w = .ok z w ∧ z.cells = i.zero.toArray := by
  obtain ⟨_, f, z, hf, hz, hs, _, hc, _⟩ := ti_spec h
  exact ⟨z, by simp [zeroValue, typeInfo, hf, hz], hc⟩

def TI.isAgg (i : TI) : Bool := match i.desc with | .struct _ => true | .array _ _ => true | _ => false

theorem ti_agg {P : Program} {t : TypeId} {i : TI} (h : ti P t = some i) (w : World) : (isAgg t).run P w = .ok i.isAgg w := by
  simp only [isAgg, Sem.run_bind, ti_und h, Result.andThen_ok, TI.isAgg]
  cases i.desc <;> rfl

/-- Is a string ahead of another one? -/
def lessB (a b : ByteArray) : Bool := Op.bytesLess a.data.toList b.data.toList

theorem toList_beq (a b : ByteArray) : (a.toList == b.toList) = decide (a = b) := by
  rw [ByteArray.toList_eq, ByteArray.toList_eq, Bool.eq_iff_iff]
  simp only [beq_iff_eq, decide_eq_true_eq]
  constructor
  · intro h
    cases a; cases b
    simpa using h
  · rintro rfl; rfl

def sint (op : BinOp) (q : IntKind) (a b : Int) (k : Value → Prop) : Prop :=
  match op with
  | .add => k (.int q (q.wrap (a + b)))
  | .sub => k (.int q (q.wrap (a - b)))
  | .mul => k (.int q (q.wrap (a * b)))
  | .quo => b ≠ 0 ∧ k (.int q (q.wrap (a.tdiv b)))
  | .rem => b ≠ 0 ∧ k (.int q (a.tmod b))
  | .and => k (.int q (q.wrap (BitVec.ofInt q.bits a &&& BitVec.ofInt q.bits b).toNat))
  | .or => k (.int q (q.wrap (BitVec.ofInt q.bits a ||| BitVec.ofInt q.bits b).toNat))
  | .xor => k (.int q (q.wrap (BitVec.ofInt q.bits a ^^^ BitVec.ofInt q.bits b).toNat))
  | .andNot => k (.int q (q.wrap (BitVec.ofInt q.bits a &&& ~~~BitVec.ofInt q.bits b).toNat))
  | .eql => k (.bool (decide (a = b)))
  | .neq => k (.bool (!decide (a = b)))
  | .lss => k (.bool (decide (a < b)))
  | .leq => k (.bool (decide (a ≤ b)))
  | .gtr => k (.bool (decide (b < a)))
  | .geq => k (.bool (decide (b ≤ a)))
  | _ => False

def sstr (op : BinOp) (a b : ByteArray) (k : Value → Prop) : Prop :=
  match op with
  | .add => a.size + b.size ≤ 9223372036854775807 ∧ k (.string (a ++ b))
  | .eql => k (.bool (decide (a = b)))
  | .neq => k (.bool (!decide (a = b)))
  | .lss => k (.bool (lessB a b))
  | .leq => k (.bool (!lessB b a))
  | .gtr => k (.bool (lessB b a))
  | .geq => k (.bool (!lessB a b))
  | _ => False

def sbin (op : BinOp) (x y : Value) (k : Value → Prop) : Prop :=
  match x, y with
  | .int q a, .int q' b =>
    match op with
    | .shl => 0 ≤ b ∧ k (.int q (q.wrap (a * 2 ^ min b.toNat q.bits)))
    | .shr => 0 ≤ b ∧ k (.int q (a / 2 ^ min b.toNat q.bits))
    | op => q = q' ∧ sint op q a b k
  | .string a, .string b => sstr op a b k
  | _, _ => False

theorem bytesLess_total : ∀ (a b : List UInt8), (Op.bytesLess a b || (a == b)) = !Op.bytesLess b a
  | [], [] => rfl
  | [], _ :: _ => rfl
  | _ :: _, [] => rfl
  | x :: a, y :: b => by
    have ih := bytesLess_total a b
    simp only [Op.bytesLess]
    rcases Nat.lt_trichotomy x.toNat y.toNat with h | h | h
    · have h1 : (decide (x < y)) = true := by simpa [UInt8.lt_iff_toNat_lt] using h
      have h2 : (decide (y < x)) = false := by simp only [decide_eq_false_iff_not, UInt8.lt_iff_toNat_lt]; omega
      have h3 : (y == x) = false := by rw [beq_eq_false_iff_ne]; intro e; subst e; omega
      simp [h1, h2, h3]
    · have he : x = y := UInt8.toNat_inj.1 h
      subst he
      have h1 : (decide (x < x)) = false := by simp only [decide_eq_false_iff_not, UInt8.lt_iff_toNat_lt]; omega
      simp only [h1, Bool.false_or, beq_self_eq_true, Bool.true_and, List.cons_beq_cons]
      exact ih
    · have h1 : (decide (y < x)) = true := by simpa [UInt8.lt_iff_toNat_lt] using h
      have h2 : (decide (x < y)) = false := by simp only [decide_eq_false_iff_not, UInt8.lt_iff_toNat_lt]; omega
      have h3 : (x == y) = false := by rw [beq_eq_false_iff_ne]; intro e; subst e; omega
      simp [h1, h2, h3, List.cons_beq_cons]

theorem sbin_sound {P : Program} {op : BinOp} {x y : Value} {k : Value → Prop} (h : sbin op x y k) (t : TypeId) (ox oy : Operand) (w : World) :
    ∃ r, (do eqGuard op t ox oy x y; binOp op t x y : Sem Value).run P w = .ok r w ∧ r.oneCell' = true ∧ k r := by
  cases x with
  | int q a =>
    cases y with
    | int q' b =>
      have hb : (binOp op t (.int q a) (.int q' b)).run P w = (do eqGuard op t ox oy (.int q a) (.int q' b); binOp op t (.int q a) (.int q' b) : Sem Value).run P w := by
        rw [Sem.run_bind, eqGuard_at_int]; rfl
      rw [← hb]
      cases op <;> simp only [sbin, sint] at h
      case shl => obtain ⟨h1, h2⟩ := h; exact ⟨_, by simp [binOp, shift_shl_any _ _ _ _ h1], rfl, h2⟩
      case shr => obtain ⟨h1, h2⟩ := h; exact ⟨_, by simp [binOp, shift_shr_any _ _ _ _ h1], rfl, h2⟩
      case quo => obtain ⟨rfl, h1, h2⟩ := h; exact ⟨_, by simp [binOp, Op.intDiv, h1], rfl, h2⟩
      case rem => obtain ⟨rfl, h1, h2⟩ := h; exact ⟨_, by simp [binOp, Op.intDiv, h1], rfl, h2⟩
      all_goals (try (obtain ⟨rfl, h2⟩ := h; refine ⟨_, ?_, rfl, h2⟩; simp [binOp, Op.intArith, Op.intBits, Op.intCmp]; done))
      all_goals (obtain ⟨rfl, h2⟩ := h; refine ⟨_, ?_, rfl, h2⟩; simp only [binOp, Op.intCmp, ne_eq, not_true_eq_false, if_false, Sem.run_pure]; rfl)
    | _ => exact h.elim
  | string a =>
    cases y with
    | string b =>
      have hb : (binOp op t (.string a) (.string b)).run P w = (do eqGuard op t ox oy (.string a) (.string b); binOp op t (.string a) (.string b) : Sem Value).run P w := by
        rw [Sem.run_bind, eqGuard_at_string]; rfl
      rw [← hb]
      have e1 := toList_beq a b
      have e2 : Op.bytesLess a.toList b.toList = lessB a b := by rw [ByteArray.toList_eq, ByteArray.toList_eq]; rfl
      have e3 : (lessB a b || decide (a = b)) = !lessB b a := by
        rw [← e1, ByteArray.toList_eq, ByteArray.toList_eq]; exact bytesLess_total _ _
      cases op <;> simp only [sbin, sstr] at h
      case add => obtain ⟨h1, h2⟩ := h; exact ⟨_, by rw [show binOp .add t (.string a) (.string b) = Op.stringOp .add a b from rfl]; exact run_string_add_sum w a b h1, rfl, h2⟩
      all_goals (refine ⟨_, ?_, rfl, h⟩; simp only [binOp, Op.stringOp, e1, e2, e3, Sem.run_pure, Bool.not_not])
    | _ => exact h.elim
  | _ => exact h.elim

/-- Two bools. -/
def sbool (op : BinOp) (a b : Bool) (k : Value → Prop) : Prop :=
  match op with
  | .eql => k (.bool (a == b))
  | .neq => k (.bool (!(a == b)))
  | _ => False

theorem sbool_sound {P : Program} {op : BinOp} {a b : Bool} {k : Value → Prop} (h : sbool op a b k) (t : TypeId) (ht : P.underlying t = some .bool) (ox oy : Operand) (w : World) :
    ∃ r, (do eqGuard op t ox oy (.bool a) (.bool b); binOp op t (.bool a) (.bool b) : Sem Value).run P w = .ok r w ∧ r.oneCell' = true ∧ k r := by
  have he : (Op.equal t (.bool a) (.bool b)).run P w = .ok (a == b) w := run_equalIn_bool' w 9999 t a b ht
  cases op <;> simp only [sbool] at h
  case eql => exact ⟨_, by rw [Sem.run_bind, eqGuard_at_bool]; simp [binOp, he], rfl, h⟩
  case neq => exact ⟨_, by rw [Sem.run_bind, eqGuard_at_bool]; simp [binOp, he], rfl, h⟩

end Go.Proofs.Ytickejlolpoboaa.AM
