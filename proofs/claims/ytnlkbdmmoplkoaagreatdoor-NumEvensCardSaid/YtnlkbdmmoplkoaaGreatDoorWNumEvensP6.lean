/- Facts of the program that the card of NumEvens asks for, one part. -/
import Derived.Test.YtnlkbdmmoplkoaaGreatDoorRows
import Derived.Test.YtnlkbdmmoplkoaaGreatDoorCards
import Derived.Stop.Joined
import Derived.ProofKit
import Derived.Test.YtnlkbdmmoplkoaaGreatDoorWNumEvensP1
import Derived.Test.YtnlkbdmmoplkoaaGreatDoorWNumEvensP2
import Derived.Test.YtnlkbdmmoplkoaaGreatDoorWNumEvensP3
import Derived.Test.YtnlkbdmmoplkoaaGreatDoorWNumEvensP4
import Derived.Test.YtnlkbdmmoplkoaaGreatDoorWNumEvensP7
namespace Go.Proofs.YtnlkbdmmoplkoaaGreatDoor.numEvens
open Go.ChangeShapes Go.WideShapes Go.ChangeAt Go.WideElems Go.RowKit
theorem closed : joinedFacts Tryz.pinned.checked.prog 11 Tryz.f11 Rows.numEvensSpec Rows.numEvensRow = true := by
  unfold joinedFacts
  rw [j1, j2, j3, j4, j5, j6, j7, j9]
  kernel_rfl
end Go.Proofs.YtnlkbdmmoplkoaaGreatDoor.numEvens
