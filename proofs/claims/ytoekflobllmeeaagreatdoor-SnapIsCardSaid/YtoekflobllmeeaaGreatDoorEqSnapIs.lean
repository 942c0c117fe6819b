/- A part of the proof: EqSnapIs. -/
import Derived.Test.YtoekflobllmeeaaGreatDoorQ1
set_option linter.all false
/- The law SnapIs, plain. -/
