/- Facts of the program that the card of NumDivs asks for, one part. -/
import Derived.Test.YtnlkbdmmoplkoaaGreatDoorRows
import Derived.Test.YtnlkbdmmoplkoaaGreatDoorCards
import Derived.Stop.Joined
import Derived.ProofKit
import Derived.Test.YtnlkbdmmoplkoaaGreatDoorWNumDivsP1
import Derived.Test.YtnlkbdmmoplkoaaGreatDoorWNumDivsP2
import Derived.Test.YtnlkbdmmoplkoaaGreatDoorWNumDivsP3
import Derived.Test.YtnlkbdmmoplkoaaGreatDoorWNumDivsP4
import Derived.Test.YtnlkbdmmoplkoaaGreatDoorWNumDivsP7
namespace Go.Proofs.YtnlkbdmmoplkoaaGreatDoor.numDivs
open Go.ChangeShapes Go.WideShapes Go.ChangeAt Go.WideElems Go.RowKit
theorem closed : joinedFacts Tryz.pinned.checked.prog 9 Tryz.f9 Rows.numDivsSpec Rows.numDivsRow = true := by
  unfold joinedFacts
  rw [j1, j2, j3, j4, j5, j6, j7, j9]
  kernel_rfl
end Go.Proofs.YtnlkbdmmoplkoaaGreatDoor.numDivs
