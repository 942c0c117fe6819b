/- A part of the proof: EqSnapApart. -/
import Derived.Test.YtoekflobllmeeaaGreatDoorQ1
set_option linter.all false
/- The law SnapApart, plain. -/
