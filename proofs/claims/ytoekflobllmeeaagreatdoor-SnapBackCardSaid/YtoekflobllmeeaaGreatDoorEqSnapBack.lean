/- A part of the proof: EqSnapBack. -/
import Derived.Test.YtoekflobllmeeaaGreatDoorQ1
set_option linter.all false
/- The law SnapBack, plain. -/
