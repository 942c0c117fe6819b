/- A part of the proof: Ok. -/
import Derived.Test.YtoekflobllmeeaaDoorTy
set_option linter.all false
/- What every input keeps: the bounds of its parts. -/
namespace Go.Proofs.YtoekflobllmeeaaDoor.AM
open Go

def okI (q : IntKind) (x : Int) : Prop := q.min ≤ x ∧ x ≤ q.max
def okB (_ : Bool) : Prop := True
def okS (s : Str) : Prop := s.length ≤ maxLen
def okL {α : Type} (ok : α → Prop) (l : List α) : Prop := l.length ≤ maxLen ∧ ∀ x ∈ l, ok x

end Go.Proofs.YtoekflobllmeeaaDoor.AM
