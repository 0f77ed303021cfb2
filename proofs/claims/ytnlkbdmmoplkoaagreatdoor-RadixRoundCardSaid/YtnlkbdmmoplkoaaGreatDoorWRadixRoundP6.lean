/- Facts of the program that the card of RadixRound asks for, one part. -/
import Derived.Test.YtnlkbdmmoplkoaaGreatDoorRows
import Derived.Test.YtnlkbdmmoplkoaaGreatDoorCards
import Derived.Stop.Joined
import Derived.ProofKit
import Derived.Test.YtnlkbdmmoplkoaaGreatDoorWRadixRoundP1
import Derived.Test.YtnlkbdmmoplkoaaGreatDoorWRadixRoundP2
import Derived.Test.YtnlkbdmmoplkoaaGreatDoorWRadixRoundP3
import Derived.Test.YtnlkbdmmoplkoaaGreatDoorWRadixRoundP4
import Derived.Test.YtnlkbdmmoplkoaaGreatDoorWRadixRoundP7
namespace Go.Proofs.YtnlkbdmmoplkoaaGreatDoor.radixRound
open Go.ChangeShapes Go.WideShapes Go.ChangeAt Go.WideElems Go.RowKit
theorem closed : joinedFacts Tryz.pinned.checked.prog 21 Tryz.f21 Rows.radixRoundSpec Rows.radixRoundRow = true := by
  unfold joinedFacts
  rw [j1, j2, j3, j4, j5, j6, j7, j9]
  kernel_rfl
end Go.Proofs.YtnlkbdmmoplkoaaGreatDoor.radixRound
