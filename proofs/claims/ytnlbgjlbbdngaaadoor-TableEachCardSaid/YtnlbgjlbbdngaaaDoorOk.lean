/- A part of the proof: Ok, OkL. -/
import Derived.Test.YtnlbgjlbbdngaaaDoorTy
set_option linter.all false
/- What every input keeps: the bounds of its parts. -/
namespace Go.Proofs.YtnlbgjlbbdngaaaDoor.AM
open Go

def okI (q : IntKind) (x : Int) : Prop := q.min ≤ x ∧ x ≤ q.max
def okB (_ : Bool) : Prop := True
def okS (s : Str) : Prop := s.length ≤ maxLen
def okL {α : Type} (ok : α → Prop) (l : List α) : Prop := l.length ≤ maxLen ∧ ∀ x ∈ l, ok x
def okGPair (p : GPair) : Prop := okS p.Name ∧ okS p.Value
def okGHold (p : GHold) : Prop := okB p.On ∧ (okI .i64) p.Since ∧ okB p.Hit ∧ (okI .i64) p.Fired
def okGAlert (p : GAlert) : Prop := (okL okGPair) p.L ∧ okGHold p.H ∧ (okI .i64) p.State ∧ (okI .i64) p.V
def okGTable (p : GTable) : Prop := (okL okGAlert) p.A ∧ (okI .i64) p.Full
def okGSample (p : GSample) : Prop := (okI .i64) p.T ∧ (okI .i64) p.V
def okGFound (p : GFound) : Prop := (okL okGPair) p.L ∧ okGSample p.X
end Go.Proofs.YtnlbgjlbbdngaaaDoor.AM

/- The bounds of what comes in, used. -/
namespace Go.Proofs.YtnlbgjlbbdngaaaDoor.AM
open Go
theorem okL_len {α : Type} {ok : α → Prop} {l : List α} (h : okL ok l) : l.length ≤ 9223372036854775807 := by have := h.1; simpa [maxLen] using this
theorem okT_len {t : GTable} (h : okGTable t) : t.A.length ≤ 9223372036854775807 := okL_len h.1
theorem okT_each {t : GTable} (h : okGTable t) : ∀ a ∈ t.A, a.L.length ≤ 9223372036854775807 := fun a ha => okL_len (h.1.2 a ha).1
theorem okF_len {f : List GFound} (h : okL okGFound f) : f.length ≤ 9223372036854775807 := okL_len h
theorem okF_each {f : List GFound} (h : okL okGFound f) : ∀ a ∈ f, a.L.length ≤ 9223372036854775807 := fun a ha => okL_len (h.2 a ha).1
end Go.Proofs.YtnlbgjlbbdngaaaDoor.AM
