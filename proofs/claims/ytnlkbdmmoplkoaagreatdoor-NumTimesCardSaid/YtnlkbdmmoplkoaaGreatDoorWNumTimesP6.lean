/- Facts of the program that the card of NumTimes asks for, one part. -/
import Derived.Test.YtnlkbdmmoplkoaaGreatDoorRows
import Derived.Test.YtnlkbdmmoplkoaaGreatDoorCards
import Derived.Stop.Joined
import Derived.ProofKit
import Derived.Test.YtnlkbdmmoplkoaaGreatDoorWNumTimesP1
import Derived.Test.YtnlkbdmmoplkoaaGreatDoorWNumTimesP2
import Derived.Test.YtnlkbdmmoplkoaaGreatDoorWNumTimesP3
import Derived.Test.YtnlkbdmmoplkoaaGreatDoorWNumTimesP4
import Derived.Test.YtnlkbdmmoplkoaaGreatDoorWNumTimesP7
namespace Go.Proofs.YtnlkbdmmoplkoaaGreatDoor.numTimes
open Go.ChangeShapes Go.WideShapes Go.ChangeAt Go.WideElems Go.RowKit
theorem closed : joinedFacts Tryz.pinned.checked.prog 6 Tryz.f6 Rows.numTimesSpec Rows.numTimesRow = true := by
  unfold joinedFacts
  rw [j1, j2, j3, j4, j5, j6, j7, j9]
  kernel_rfl
end Go.Proofs.YtnlkbdmmoplkoaaGreatDoor.numTimes
