/- Facts of the program that the card of PowerLaws asks for, one part. -/
import Derived.Test.YtnlkbdmmoplkoaaGreatDoorRows
import Derived.Test.YtnlkbdmmoplkoaaGreatDoorCards
import Derived.Stop.Joined
import Derived.ProofKit
import Derived.Test.YtnlkbdmmoplkoaaGreatDoorWPowerLawsP1
import Derived.Test.YtnlkbdmmoplkoaaGreatDoorWPowerLawsP2
import Derived.Test.YtnlkbdmmoplkoaaGreatDoorWPowerLawsP3
import Derived.Test.YtnlkbdmmoplkoaaGreatDoorWPowerLawsP4
import Derived.Test.YtnlkbdmmoplkoaaGreatDoorWPowerLawsP7
namespace Go.Proofs.YtnlkbdmmoplkoaaGreatDoor.powerLaws
open Go.ChangeShapes Go.WideShapes Go.ChangeAt Go.WideElems Go.RowKit
theorem closed : joinedFacts Tryz.pinned.checked.prog 14 Tryz.f14 Rows.powerLawsSpec Rows.powerLawsRow = true := by
  unfold joinedFacts
  rw [j1, j2, j3, j4, j5, j6, j7, j9]
  kernel_rfl
end Go.Proofs.YtnlkbdmmoplkoaaGreatDoor.powerLaws
