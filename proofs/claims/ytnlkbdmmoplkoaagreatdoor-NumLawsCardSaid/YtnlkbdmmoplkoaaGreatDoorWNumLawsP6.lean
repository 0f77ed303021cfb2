/- Facts of the program that the card of NumLaws asks for, one part. -/
import Derived.Test.YtnlkbdmmoplkoaaGreatDoorRows
import Derived.Test.YtnlkbdmmoplkoaaGreatDoorCards
import Derived.Stop.Joined
import Derived.ProofKit
import Derived.Test.YtnlkbdmmoplkoaaGreatDoorWNumLawsP1
import Derived.Test.YtnlkbdmmoplkoaaGreatDoorWNumLawsP2
import Derived.Test.YtnlkbdmmoplkoaaGreatDoorWNumLawsP3
import Derived.Test.YtnlkbdmmoplkoaaGreatDoorWNumLawsP4
import Derived.Test.YtnlkbdmmoplkoaaGreatDoorWNumLawsP7
namespace Go.Proofs.YtnlkbdmmoplkoaaGreatDoor.numLaws
open Go.ChangeShapes Go.WideShapes Go.ChangeAt Go.WideElems Go.RowKit
theorem closed : joinedFacts Tryz.pinned.checked.prog 12 Tryz.f12 Rows.numLawsSpec Rows.numLawsRow = true := by
  unfold joinedFacts
  rw [j1, j2, j3, j4, j5, j6, j7, j9]
  kernel_rfl
end Go.Proofs.YtnlkbdmmoplkoaaGreatDoor.numLaws
