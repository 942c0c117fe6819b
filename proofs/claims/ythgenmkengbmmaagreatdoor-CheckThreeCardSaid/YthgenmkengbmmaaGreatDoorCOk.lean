/- Ok -/
import Derived.Test.YthgenmkengbmmaaGreatDoorCTy
import Derived.Test.YthgenmkengbmmaaGreatDoorCP3
set_option linter.all false
namespace Go.Proofs.YthgenmkengbmmaaGreatDoor.AM
open Go
def okI (q:IntKind) (x:Int):Prop:=q.min≤x∧x≤q.max
def okB (_:Bool):Prop:=True
def okS (s:Str):Prop:=s.length≤140737488351232
def okL {α:Type} (ok:α→Prop) (l:List α):Prop:=l.length≤maxLen∧∀ x ∈ l,ok x
def GC (p:bS):Prop:=okS p.Name∧okS p.Value∧okB p.Not
def Rx (p:cT):Prop:=okS p.Name∧(okL GC) p.M
def Oo (p:cG):Prop:=Rx p.S∧(okI .i64) p.Op∧(okI .i64) p.V
def I9 (p:aY):Prop:=okS p.Name∧okS p.Value
def ES (p:a6):Prop:=okS p.Name∧Oo p.E∧(okI .i64) p.For∧(okI .i64) p.Keep∧(okL I9) p.Labels
def jH (p:aI):Prop:=okS p.Name∧(okI .i64) p.Interval∧(okI .i64) p.Offset∧(okL ES) p.Rules
def zW (p:bE):Prop:=okS p.Group∧okS p.Rule
theorem Bu {s:Str} (h:okS s):s.length≤9223372036854775807:=Nat.le_trans h (by decide)
theorem EK {α:Type}{ok:α→Prop}{l:List α} (h:okL ok l):l.length≤9223372036854775807:=by have:=h.1; simpa [maxLen] using this
theorem Vq {r:a6} (h:ES r):BdR r :=
 ⟨Bu h.1,Bu h.2.1.1.1,EK h.2.1.1.2,fun m hm=>Bu (h.2.1.1.2.2 m hm).1,EK h.2.2.2.2,fun p hp=>Bu (h.2.2.2.2.2 p hp).1⟩
theorem uE {f:List aI} (h:okL jH f):BdF f :=
 ⟨EK h,fun g hg=>⟨Bu (h.2 g hg).1,EK (h.2 g hg).2.2.2,fun r hr=>Vq ((h.2 g hg).2.2.2.2 r hr)⟩⟩
theorem Hv {k:bE} (h:zW k):BdK k:=⟨h.1,h.2⟩
end Go.Proofs.YthgenmkengbmmaaGreatDoor.AM
