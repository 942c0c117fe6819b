/- A part of the proof: Ok, OkL. -/
import Derived.Test.YtchlojabjmlodaaGreatDoorTy
import Derived.Test.YtchlojabjmlodaaGreatDoorP1
set_option linter.all false
/- What every input keeps: the bounds of its parts. -/
namespace Go.Proofs.YtchlojabjmlodaaGreatDoor.AM
open Go

def okI (q : IntKind) (x : Int) : Prop := q.min ≤ x ∧ x ≤ q.max
def okB (_ : Bool) : Prop := True
def okS (s : Str) : Prop := s.length ≤ maxLen
def okL {α : Type} (ok : α → Prop) (l : List α) : Prop := l.length ≤ maxLen ∧ ∀ x ∈ l, ok x
def okGPair (p : GPair) : Prop := okS p.Name ∧ okS p.Value
def okGTold (p : GTold) : Prop := (okL okGPair) p.L ∧ (okI .i64) p.T
def okGHold (p : GHold) : Prop := okB p.On ∧ (okI .i64) p.Since ∧ okB p.Hit ∧ (okI .i64) p.Fired
def okGAlert (p : GAlert) : Prop := (okL okGPair) p.L ∧ okGHold p.H ∧ (okI .i64) p.State ∧ (okI .i64) p.V
def okGTable (p : GTable) : Prop := (okL okGAlert) p.A ∧ (okI .i64) p.Full
def okGNote (p : GNote) : Prop := (okL okGPair) p.L ∧ okB p.Fires ∧ (okI .i64) p.T ∧ (okI .i64) p.Tries ∧ (okI .i64) p.Next
def okGQueue (p : GQueue) : Prop := (okL okGNote) p.N ∧ (okI .i64) p.Drops ∧ (okI .i64) p.Lost
end Go.Proofs.YtchlojabjmlodaaGreatDoor.AM

/- The bounds of what comes in, used. -/
namespace Go.Proofs.YtchlojabjmlodaaGreatDoor.AM
open Go
theorem okL_len {α : Type} {ok : α → Prop} {l : List α} (h : okL ok l) : l.length ≤ 9223372036854775807 := by have := h.1; simpa [maxLen] using this
theorem okT_bd {t : GTable} (h : okGTable t) : TabBd t := ⟨okL_len h.1, fun a ha => okL_len (h.1.2 a ha).1⟩
theorem okTs_bd {T : List GTable} (h : okL okGTable T) : ∀ t ∈ T, TabBd t := fun t ht => okT_bd (h.2 t ht)
theorem okX_each {x : List GTold} (h : okL okGTold x) : ∀ y ∈ x, y.L.length ≤ 9223372036854775807 := fun y hy => okL_len (h.2 y hy).1
theorem okQ_each {q : GQueue} (h : okGQueue q) : ∀ y ∈ q.N, y.L.length ≤ 9223372036854775807 := fun y hy => okL_len (h.1.2 y hy).1
end Go.Proofs.YtchlojabjmlodaaGreatDoor.AM
