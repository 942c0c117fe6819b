/- A part of the proof: Ok, OkL. -/
import Derived.Test.YtchlojabjmlodaaDoorTy
set_option linter.all false
/- What every input keeps: the bounds of its parts. -/
namespace Go.Proofs.YtchlojabjmlodaaDoor.AM
open Go

def okI (q : IntKind) (x : Int) : Prop := q.min ≤ x ∧ x ≤ q.max
def okB (_ : Bool) : Prop := True
def okS (s : Str) : Prop := s.length ≤ maxLen
def okL {α : Type} (ok : α → Prop) (l : List α) : Prop := l.length ≤ maxLen ∧ ∀ x ∈ l, ok x
def okGPair (p : GPair) : Prop := okS p.Name ∧ okS p.Value
def okGTold (p : GTold) : Prop := (okL okGPair) p.L ∧ (okI .i64) p.T
end Go.Proofs.YtchlojabjmlodaaDoor.AM

/- The bounds of what comes in, used. -/
namespace Go.Proofs.YtchlojabjmlodaaDoor.AM
open Go
theorem okL_len {α : Type} {ok : α → Prop} {l : List α} (h : okL ok l) : l.length ≤ 9223372036854775807 := by have := h.1; simpa [maxLen] using this
theorem okX_each {x : List GTold} (h : okL okGTold x) : ∀ y ∈ x, y.L.length ≤ 9223372036854775807 := fun y hy => okL_len (h.2 y hy).1
end Go.Proofs.YtchlojabjmlodaaDoor.AM
