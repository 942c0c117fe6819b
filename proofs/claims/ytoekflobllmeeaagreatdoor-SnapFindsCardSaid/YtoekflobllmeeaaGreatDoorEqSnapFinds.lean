/- A part of the proof: EqSnapFinds. -/
import Derived.Test.YtoekflobllmeeaaGreatDoorQ1
set_option linter.all false
/- The law SnapFinds, plain. -/
