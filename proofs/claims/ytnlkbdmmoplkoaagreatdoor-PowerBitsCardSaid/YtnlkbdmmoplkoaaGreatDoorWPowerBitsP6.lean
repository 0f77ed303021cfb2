/- Facts of the program that the card of PowerBits asks for, one part. -/
import Derived.Test.YtnlkbdmmoplkoaaGreatDoorRows
import Derived.Test.YtnlkbdmmoplkoaaGreatDoorCards
import Derived.Stop.Joined
import Derived.ProofKit
import Derived.Test.YtnlkbdmmoplkoaaGreatDoorWPowerBitsP1
import Derived.Test.YtnlkbdmmoplkoaaGreatDoorWPowerBitsP2
import Derived.Test.YtnlkbdmmoplkoaaGreatDoorWPowerBitsP3
import Derived.Test.YtnlkbdmmoplkoaaGreatDoorWPowerBitsP4
import Derived.Test.YtnlkbdmmoplkoaaGreatDoorWPowerBitsP7
namespace Go.Proofs.YtnlkbdmmoplkoaaGreatDoor.powerBits
open Go.ChangeShapes Go.WideShapes Go.ChangeAt Go.WideElems Go.RowKit
theorem closed : joinedFacts Tryz.pinned.checked.prog 4 Tryz.f4 Rows.powerBitsSpec Rows.powerBitsRow = true := by
  unfold joinedFacts
  rw [j1, j2, j3, j4, j5, j6, j7, j9]
  kernel_rfl
end Go.Proofs.YtnlkbdmmoplkoaaGreatDoor.powerBits
