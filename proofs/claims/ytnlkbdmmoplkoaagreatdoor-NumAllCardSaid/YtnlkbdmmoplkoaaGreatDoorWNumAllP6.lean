/- Facts of the program that the card of NumAll asks for, one part. -/
import Derived.Test.YtnlkbdmmoplkoaaGreatDoorRows
import Derived.Test.YtnlkbdmmoplkoaaGreatDoorCards
import Derived.Stop.Joined
import Derived.ProofKit
import Derived.Test.YtnlkbdmmoplkoaaGreatDoorWNumAllP1
import Derived.Test.YtnlkbdmmoplkoaaGreatDoorWNumAllP2
import Derived.Test.YtnlkbdmmoplkoaaGreatDoorWNumAllP3
import Derived.Test.YtnlkbdmmoplkoaaGreatDoorWNumAllP4
import Derived.Test.YtnlkbdmmoplkoaaGreatDoorWNumAllP7
namespace Go.Proofs.YtnlkbdmmoplkoaaGreatDoor.numAll
open Go.ChangeShapes Go.WideShapes Go.ChangeAt Go.WideElems Go.RowKit
theorem closed : joinedFacts Tryz.pinned.checked.prog 7 Tryz.f7 Rows.numAllSpec Rows.numAllRow = true := by
  unfold joinedFacts
  rw [j1, j2, j3, j4, j5, j6, j7, j9]
  kernel_rfl
end Go.Proofs.YtnlkbdmmoplkoaaGreatDoor.numAll
