/- Facts of the program that the card of NumEmbeds asks for, one part. -/
import Derived.Test.YtnlkbdmmoplkoaaGreatDoorRows
import Derived.Test.YtnlkbdmmoplkoaaGreatDoorCards
import Derived.Stop.Joined
import Derived.ProofKit
import Derived.Test.YtnlkbdmmoplkoaaGreatDoorWNumEmbedsP1
import Derived.Test.YtnlkbdmmoplkoaaGreatDoorWNumEmbedsP2
import Derived.Test.YtnlkbdmmoplkoaaGreatDoorWNumEmbedsP3
import Derived.Test.YtnlkbdmmoplkoaaGreatDoorWNumEmbedsP4
import Derived.Test.YtnlkbdmmoplkoaaGreatDoorWNumEmbedsP7
namespace Go.Proofs.YtnlkbdmmoplkoaaGreatDoor.numEmbeds
open Go.ChangeShapes Go.WideShapes Go.ChangeAt Go.WideElems Go.RowKit
theorem closed : joinedFacts Tryz.pinned.checked.prog 8 Tryz.f8 Rows.numEmbedsSpec Rows.numEmbedsRow = true := by
  unfold joinedFacts
  rw [j1, j2, j3, j4, j5, j6, j7, j9]
  kernel_rfl
end Go.Proofs.YtnlkbdmmoplkoaaGreatDoor.numEmbeds
