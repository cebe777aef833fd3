/- A pack of texts: DA, DE, DF, DG. Conditions: those that each text names. -/
import Derived.Test.YtgdhaaokolfdoaaGreatDoorWBE
set_option linter.unusedVariables false
set_option linter.unusedSimpArgs false
set_option linter.unnecessarySimpa false
/- Chapter 15's directory: at, top, page. Conditions: the store and the directory lie in the world, and go together. -/
namespace Go.Proofs.YtgdhaaokolfdoaaGreatDoor
open Go.RowKit Go.Sg Go.Sg.Bits Go.Sg.Clk CP SF
end Go.Proofs.YtgdhaaokolfdoaaGreatDoor

/- Chapter 15's directory: Get, All, Pages. Conditions: the store and the directory lie in the world, and go together. -/
namespace Go.Proofs.YtgdhaaokolfdoaaGreatDoor
open Go.RowKit Go.Sg Go.Sg.Bits Go.Sg.Clk CP SF
end Go.Proofs.YtgdhaaokolfdoaaGreatDoor

/- Chapter 15's directory: All, Pages. Conditions: the store and the directory lie in the world, and go together. -/
namespace Go.Proofs.YtgdhaaokolfdoaaGreatDoor
open Go.RowKit Go.Sg Go.Sg.Bits Go.Sg.Clk CP SF
end Go.Proofs.YtgdhaaokolfdoaaGreatDoor

/- Chapter 15's directory: Make, Open. Conditions: the store lies in the world; pages are left. -/
namespace Go.Proofs.YtgdhaaokolfdoaaGreatDoor
open Go.RowKit Go.Sg Go.Sg.Bits Go.Sg.Clk CP SF
end Go.Proofs.YtgdhaaokolfdoaaGreatDoor
