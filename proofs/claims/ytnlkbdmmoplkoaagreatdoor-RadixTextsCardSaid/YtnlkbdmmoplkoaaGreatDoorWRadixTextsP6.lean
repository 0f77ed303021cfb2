/- Facts of the program that the card of RadixTexts asks for, one part. -/
import Derived.Test.YtnlkbdmmoplkoaaGreatDoorRows
import Derived.Test.YtnlkbdmmoplkoaaGreatDoorCards
import Derived.Stop.Joined
import Derived.ProofKit
import Derived.Test.YtnlkbdmmoplkoaaGreatDoorWRadixTextsP1
import Derived.Test.YtnlkbdmmoplkoaaGreatDoorWRadixTextsP2
import Derived.Test.YtnlkbdmmoplkoaaGreatDoorWRadixTextsP3
import Derived.Test.YtnlkbdmmoplkoaaGreatDoorWRadixTextsP4
import Derived.Test.YtnlkbdmmoplkoaaGreatDoorWRadixTextsP7
namespace Go.Proofs.YtnlkbdmmoplkoaaGreatDoor.radixTexts
open Go.ChangeShapes Go.WideShapes Go.ChangeAt Go.WideElems Go.RowKit
theorem closed : joinedFacts Tryz.pinned.checked.prog 16 Tryz.f16 Rows.radixTextsSpec Rows.radixTextsRow = true := by
  unfold joinedFacts
  rw [j1, j2, j3, j4, j5, j6, j7, j9]
  kernel_rfl
end Go.Proofs.YtnlkbdmmoplkoaaGreatDoor.radixTexts
