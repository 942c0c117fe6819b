/- A part of the proof: EqSnapOnly. -/
import Derived.Test.YtoekflobllmeeaaDoorQ1
set_option linter.all false
/- The law SnapOnly, plain. -/
