/- A pack of texts: DN. Conditions: those that each text names. -/
import Derived.Test.YtgdhaaokolfdoaaGreatDoorWBG
set_option linter.unusedVariables false
set_option linter.unusedSimpArgs false
set_option linter.unnecessarySimpa false
/- Chapter 15's directory: lay, the walk. Conditions: the store and the directory lie in the world, and go together; pages are left. -/
namespace Go.Proofs.YtgdhaaokolfdoaaGreatDoor
open Go.RowKit Go.Sg Go.Sg.Bits Go.Sg.Clk CP SF
end Go.Proofs.YtgdhaaokolfdoaaGreatDoor
