/- A pack of texts: SE. Conditions: those that each text names. -/
import Derived.Test.YtgdhaaokolfdoaaGreatDoorWAG
import Derived.Test.YtgdhaaokolfdoaaGreatDoorWAK
set_option linter.unusedVariables false
set_option linter.unusedSimpArgs false
set_option linter.unnecessarySimpa false
/- The store: Read of a page that is nowhere; Free; Mark. Conditions: the store lies in the world as StoreAt says. -/
namespace Go.Proofs.YtgdhaaokolfdoaaGreatDoor
open Go.RowKit Go.Sg Go.Sg.Bits Go.Sg.Clk CP
namespace SF
end SF
end Go.Proofs.YtgdhaaokolfdoaaGreatDoor
