/- A pack of texts: SE. Conditions: those that each text names. -/
import Derived.Test.YtgdhaaokolfdoaaGreatDoorJAJ
import Derived.Test.YtgdhaaokolfdoaaGreatDoorJAP
set_option linter.unusedVariables false
set_option linter.unusedSimpArgs false
set_option linter.unnecessarySimpa false
namespace Go.Proofs.YtgdhaaokolfdoaaGreatDoor
open Go.RowKit Go.Sg Go.Sg.Bits Go.Sg.Clk CP
namespace SF
end SF
end Go.Proofs.YtgdhaaokolfdoaaGreatDoor
