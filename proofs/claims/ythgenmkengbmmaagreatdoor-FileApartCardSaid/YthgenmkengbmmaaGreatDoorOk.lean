/- Ok -/
import Derived.Test.YthgenmkengbmmaaGreatDoorTy
import Derived.Test.YthgenmkengbmmaaGreatDoorP3
set_option linter.all false
namespace Go.Proofs.YthgenmkengbmmaaGreatDoor.AM
open Go
def okI (q:IntKind) (x:Int):Prop:=q.min≤x∧x≤q.max
def okB (_:Bool):Prop:=True
def okS (s:Str):Prop:=s.length≤140737488351232
def okL {α:Type} (ok:α→Prop) (l:List α):Prop:=l.length≤maxLen∧∀ x ∈ l,ok x
def EV (p:bI):Prop:=okS p.Name∧okS p.Value∧okB p.Not
def Qd (p:cN):Prop:=okS p.Name∧(okL EV) p.M
def ML (p:bX):Prop:=Qd p.S∧(okI .i64) p.Op∧(okI .i64) p.V
def G4 (p:aQ):Prop:=okS p.Name∧okS p.Value
def DR (p:aR):Prop:=okS p.Name∧ML p.E∧(okI .i64) p.For∧(okI .i64) p.Keep∧(okL G4) p.Labels
def nU (p:aI):Prop:=okS p.Name∧(okI .i64) p.Interval∧(okI .i64) p.Offset∧(okL DR) p.Rules
theorem q9 {s:Str} (h:okS s):s.length≤9223372036854775807:=Nat.le_trans h (by decide)
theorem DJ {α:Type}{ok:α→Prop}{l:List α} (h:okL ok l):l.length≤9223372036854775807:=by have:=h.1; simpa [maxLen] using this
theorem TM {r:aR} (h:DR r):BdR r :=
 ⟨q9 h.1,q9 h.2.1.1.1,DJ h.2.1.1.2,fun m hm=>q9 (h.2.1.1.2.2 m hm).1,DJ h.2.2.2.2,fun p hp=>q9 (h.2.2.2.2.2 p hp).1⟩
theorem GD {f:List aI} (h:okL nU f):BdF f :=
 ⟨DJ h,fun g hg=>⟨q9 (h.2 g hg).1,DJ (h.2 g hg).2.2.2,fun r hr=>TM ((h.2 g hg).2.2.2.2 r hr)⟩⟩
end Go.Proofs.YthgenmkengbmmaaGreatDoor.AM
