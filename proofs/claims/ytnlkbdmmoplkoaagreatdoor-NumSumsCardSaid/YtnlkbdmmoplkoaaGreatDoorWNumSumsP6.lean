/- Facts of the program that the card of NumSums asks for, one part. -/
import Derived.Test.YtnlkbdmmoplkoaaGreatDoorRows
import Derived.Test.YtnlkbdmmoplkoaaGreatDoorCards
import Derived.Stop.Joined
import Derived.ProofKit
import Derived.Test.YtnlkbdmmoplkoaaGreatDoorWNumSumsP1
import Derived.Test.YtnlkbdmmoplkoaaGreatDoorWNumSumsP2
import Derived.Test.YtnlkbdmmoplkoaaGreatDoorWNumSumsP3
import Derived.Test.YtnlkbdmmoplkoaaGreatDoorWNumSumsP4
import Derived.Test.YtnlkbdmmoplkoaaGreatDoorWNumSumsP7
namespace Go.Proofs.YtnlkbdmmoplkoaaGreatDoor.numSums
open Go.ChangeShapes Go.WideShapes Go.ChangeAt Go.WideElems Go.RowKit
theorem closed : joinedFacts Tryz.pinned.checked.prog 10 Tryz.f10 Rows.numSumsSpec Rows.numSumsRow = true := by
  unfold joinedFacts
  rw [j1, j2, j3, j4, j5, j6, j7, j9]
  kernel_rfl
end Go.Proofs.YtnlkbdmmoplkoaaGreatDoor.numSums
