/- Facts of the program that the card of PowerPows asks for, one part. -/
import Derived.Test.YtnlkbdmmoplkoaaGreatDoorRows
import Derived.Test.YtnlkbdmmoplkoaaGreatDoorCards
import Derived.Stop.Joined
import Derived.ProofKit
import Derived.Test.YtnlkbdmmoplkoaaGreatDoorWPowerPowsP1
import Derived.Test.YtnlkbdmmoplkoaaGreatDoorWPowerPowsP2
import Derived.Test.YtnlkbdmmoplkoaaGreatDoorWPowerPowsP3
import Derived.Test.YtnlkbdmmoplkoaaGreatDoorWPowerPowsP4
import Derived.Test.YtnlkbdmmoplkoaaGreatDoorWPowerPowsP7
namespace Go.Proofs.YtnlkbdmmoplkoaaGreatDoor.powerPows
open Go.ChangeShapes Go.WideShapes Go.ChangeAt Go.WideElems Go.RowKit
theorem closed : joinedFacts Tryz.pinned.checked.prog 3 Tryz.f3 Rows.powerPowsSpec Rows.powerPowsRow = true := by
  unfold joinedFacts
  rw [j1, j2, j3, j4, j5, j6, j7, j9]
  kernel_rfl
end Go.Proofs.YtnlkbdmmoplkoaaGreatDoor.powerPows
