/- A part of the proof: Ok, OkL. -/
import Derived.Test.YtgkmbhllcekagaaGreatDoorTy
import Derived.Test.YtgkmbhllcekagaaGreatDoorP3
set_option linter.all false
/- What every input keeps: the bounds of its parts. -/
namespace Go.Proofs.YtgkmbhllcekagaaGreatDoor.AM
open Go
def okI (q:IntKind) (x:Int):Prop:=q.min≤x∧x≤q.max
def okB (_:Bool):Prop:=True
def okS (s:Str):Prop:=s.length≤140737488351232
def okL {α:Type} (ok:α→Prop) (l:List α):Prop:=l.length≤maxLen∧∀ x ∈ l,ok x
def D5 (p:a8):Prop:=okS p.Name∧okS p.Value∧okB p.Not
def NM (p:bM):Prop:=okS p.Name∧(okL D5) p.M
def La (p:bF):Prop:=NM p.S∧(okI .i64) p.Op∧(okI .i64) p.V
def F9 (p:aJ):Prop:=okS p.Name∧okS p.Value
def qH (p:aZ):Prop:=okS p.Name∧La p.E∧(okI .i64) p.For∧(okI .i64) p.Keep∧(okL F9) p.Labels
def pV (p:aK):Prop:=(okI .i64) p.K∧(okI .i64) p.At∧okS p.S
end Go.Proofs.YtgkmbhllcekagaaGreatDoor.AM
/- The bounds of what comes in, used. -/
namespace Go.Proofs.YtgkmbhllcekagaaGreatDoor.AM
open Go
theorem CE {s:Str} (h:okS s):s.length≤9223372036854775807:=Nat.le_trans h (by decide)
theorem FY {α:Type}{ok:α→Prop}{l:List α} (h:okL ok l):l.length≤9223372036854775807:=by have:=h.1; simpa [maxLen] using this
theorem Cf {r:aZ} (h:qH r):BdR r :=
  ⟨CE h.1,CE h.2.1.1.1,FY h.2.1.1.2,fun m hm=>CE (h.2.1.1.2.2 m hm).1,FY h.2.2.2.2,fun p hp=>CE (h.2.2.2.2.2 p hp).1⟩
theorem Ia {l:List aK} (h:okL pV l):BdT l:=⟨FY h,fun x hx=>(h.2 x hx).2.2⟩
theorem Og {x:Int} (h:okI .i64 x):-9223372036854775808≤x∧x≤9223372036854775807:=h
end Go.Proofs.YtgkmbhllcekagaaGreatDoor.AM
