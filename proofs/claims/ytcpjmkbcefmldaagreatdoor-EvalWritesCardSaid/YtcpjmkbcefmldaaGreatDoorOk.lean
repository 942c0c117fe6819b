/- A part of the proof: Ok, OkL. -/
import Derived.Test.YtcpjmkbcefmldaaGreatDoorTy
import Derived.Test.YtcpjmkbcefmldaaGreatDoorP2
set_option linter.all false
/- What every input keeps: the bounds of its parts. -/
namespace Go.Proofs.YtcpjmkbcefmldaaGreatDoor.AM
open Go

def okI (q : IntKind) (x : Int) : Prop := q.min ≤ x ∧ x ≤ q.max
def okB (_ : Bool) : Prop := True
def okS (s : Str) : Prop := s.length ≤ maxLen
def okL {α : Type} (ok : α → Prop) (l : List α) : Prop := l.length ≤ maxLen ∧ ∀ x ∈ l, ok x
def okGPair (p : GPair) : Prop := okS p.Name ∧ okS p.Value
def okGSample (p : GSample) : Prop := (okI .i64) p.T ∧ (okI .i64) p.V
def okGSeries (p : GSeries) : Prop := (okL okGPair) p.L ∧ (okL okGSample) p.S
def okGMatch (p : GMatch) : Prop := okS p.Name ∧ okS p.Value ∧ okB p.Not
def okGSel (p : GSel) : Prop := okS p.Name ∧ (okL okGMatch) p.M
def okGExpr (p : GExpr) : Prop := okGSel p.S ∧ (okI .i64) p.Op ∧ (okI .i64) p.V
def okGRule (p : GRule) : Prop := okS p.Name ∧ okGExpr p.E ∧ (okI .i64) p.For ∧ (okI .i64) p.Keep ∧ (okL okGPair) p.Labels
def okGGroup (p : GGroup) : Prop := okS p.Name ∧ (okI .i64) p.Interval ∧ (okI .i64) p.Offset ∧ (okL okGRule) p.Rules
def okGHold (p : GHold) : Prop := okB p.On ∧ (okI .i64) p.Since ∧ okB p.Hit ∧ (okI .i64) p.Fired
def okGAlert (p : GAlert) : Prop := (okL okGPair) p.L ∧ okGHold p.H ∧ (okI .i64) p.State ∧ (okI .i64) p.V
def okGTable (p : GTable) : Prop := (okL okGAlert) p.A ∧ (okI .i64) p.Full
end Go.Proofs.YtcpjmkbcefmldaaGreatDoor.AM

/- The bounds of what comes in, used. -/
namespace Go.Proofs.YtcpjmkbcefmldaaGreatDoor.AM
open Go
theorem okL_len {α : Type} {ok : α → Prop} {l : List α} (h : okL ok l) : l.length ≤ 9223372036854775807 := by have := h.1; simpa [maxLen] using this
theorem okT_bd {t : GTable} (h : okGTable t) : TabBd t := ⟨okL_len h.1, fun a ha => okL_len (h.1.2 a ha).1⟩
theorem okTs_bd {T : List GTable} (h : okL okGTable T) : ∀ t ∈ T, TabBd t := fun t ht => okT_bd (h.2 t ht)
theorem okSt_each {x : List GSeries} (h : okL okGSeries x) : ∀ y ∈ x, y.L.length ≤ 9223372036854775807 := fun y hy => okL_len (h.2 y hy).1
theorem okR_m {r : GRule} (h : okGRule r) : r.E.S.M.length ≤ 9223372036854775807 := okL_len h.2.1.1.2
theorem okR_l {r : GRule} (h : okGRule r) : r.Labels.length ≤ 9223372036854775807 := okL_len h.2.2.2.2
theorem okG_each {g : GGroup} (h : okGGroup g) : ∀ r ∈ g.Rules, r.E.S.M.length ≤ 9223372036854775807 ∧ r.Labels.length ≤ 9223372036854775807 := fun r hr => ⟨okR_m (h.2.2.2.2 r hr), okR_l (h.2.2.2.2 r hr)⟩
end Go.Proofs.YtcpjmkbcefmldaaGreatDoor.AM
