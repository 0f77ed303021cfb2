/- Facts of the program that the card of RadixDigits asks for, one part. -/
import Derived.Test.YtnlkbdmmoplkoaaGreatDoorRows
import Derived.Test.YtnlkbdmmoplkoaaGreatDoorCards
import Derived.Stop.Joined
import Derived.ProofKit
import Derived.Test.YtnlkbdmmoplkoaaGreatDoorWRadixDigitsP1
import Derived.Test.YtnlkbdmmoplkoaaGreatDoorWRadixDigitsP2
import Derived.Test.YtnlkbdmmoplkoaaGreatDoorWRadixDigitsP3
import Derived.Test.YtnlkbdmmoplkoaaGreatDoorWRadixDigitsP4
import Derived.Test.YtnlkbdmmoplkoaaGreatDoorWRadixDigitsP7
namespace Go.Proofs.YtnlkbdmmoplkoaaGreatDoor.radixDigits
open Go.ChangeShapes Go.WideShapes Go.ChangeAt Go.WideElems Go.RowKit
theorem closed : joinedFacts Tryz.pinned.checked.prog 19 Tryz.f19 Rows.radixDigitsSpec Rows.radixDigitsRow = true := by
  unfold joinedFacts
  rw [j1, j2, j3, j4, j5, j6, j7, j9]
  kernel_rfl
end Go.Proofs.YtnlkbdmmoplkoaaGreatDoor.radixDigits
