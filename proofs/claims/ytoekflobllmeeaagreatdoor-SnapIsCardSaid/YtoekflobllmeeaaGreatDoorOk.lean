/- A part of the proof: Ok. -/
import Derived.Test.YtoekflobllmeeaaGreatDoorTy
set_option linter.all false
/- What every input keeps: the bounds of its parts. -/
namespace Go.Proofs.YtoekflobllmeeaaGreatDoor.AM
open Go

def okI (q : IntKind) (x : Int) : Prop := q.min ≤ x ∧ x ≤ q.max
def okB (_ : Bool) : Prop := True
def okS (s : Str) : Prop := s.length ≤ maxLen
def okL {α : Type} (ok : α → Prop) (l : List α) : Prop := l.length ≤ maxLen ∧ ∀ x ∈ l, ok x
def okGKey (p : GKey) : Prop := okS p.Group ∧ okS p.Rule
def okGPair (p : GPair) : Prop := okS p.Name ∧ okS p.Value
def okGHold (p : GHold) : Prop := okB p.On ∧ (okI .i64) p.Since ∧ okB p.Hit ∧ (okI .i64) p.Fired
def okGAlert (p : GAlert) : Prop := (okL okGPair) p.L ∧ okGHold p.H ∧ (okI .i64) p.State ∧ (okI .i64) p.V
def okGTable (p : GTable) : Prop := (okL okGAlert) p.A ∧ (okI .i64) p.Full
def okGSaved (p : GSaved) : Prop := okGKey p.K ∧ okGTable p.X
end Go.Proofs.YtoekflobllmeeaaGreatDoor.AM
