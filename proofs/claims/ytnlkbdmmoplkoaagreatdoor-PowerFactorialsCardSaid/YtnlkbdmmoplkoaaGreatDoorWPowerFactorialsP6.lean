/- Facts of the program that the card of PowerFactorials asks for, one part. -/
import Derived.Test.YtnlkbdmmoplkoaaGreatDoorRows
import Derived.Test.YtnlkbdmmoplkoaaGreatDoorCards
import Derived.Stop.Joined
import Derived.ProofKit
import Derived.Test.YtnlkbdmmoplkoaaGreatDoorWPowerFactorialsP1
import Derived.Test.YtnlkbdmmoplkoaaGreatDoorWPowerFactorialsP2
import Derived.Test.YtnlkbdmmoplkoaaGreatDoorWPowerFactorialsP3
import Derived.Test.YtnlkbdmmoplkoaaGreatDoorWPowerFactorialsP4
import Derived.Test.YtnlkbdmmoplkoaaGreatDoorWPowerFactorialsP7
namespace Go.Proofs.YtnlkbdmmoplkoaaGreatDoor.powerFactorials
open Go.ChangeShapes Go.WideShapes Go.ChangeAt Go.WideElems Go.RowKit
theorem closed : joinedFacts Tryz.pinned.checked.prog 5 Tryz.f5 Rows.powerFactorialsSpec Rows.powerFactorialsRow = true := by
  unfold joinedFacts
  rw [j1, j2, j3, j4, j5, j6, j7, j9]
  kernel_rfl
end Go.Proofs.YtnlkbdmmoplkoaaGreatDoor.powerFactorials
