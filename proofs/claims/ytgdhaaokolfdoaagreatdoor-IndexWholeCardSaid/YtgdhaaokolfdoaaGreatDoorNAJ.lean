/- A pack of texts. Conditions: those that each names. -/
import Derived.Test.YtgdhaaokolfdoaaGreatDoorNAI
set_option linter.all false
namespace Go.Proofs.YtgdhaaokolfdoaaGreatDoor
open Go.RowKit Go.Sg Go.Sg.Bits Go.Sg.r4 CP Tryz
namespace SF
end SF
