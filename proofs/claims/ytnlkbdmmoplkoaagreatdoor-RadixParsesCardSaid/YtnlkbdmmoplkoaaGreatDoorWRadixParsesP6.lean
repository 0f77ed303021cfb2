/- Facts of the program that the card of RadixParses asks for, one part. -/
import Derived.Test.YtnlkbdmmoplkoaaGreatDoorRows
import Derived.Test.YtnlkbdmmoplkoaaGreatDoorCards
import Derived.Stop.Joined
import Derived.ProofKit
import Derived.Test.YtnlkbdmmoplkoaaGreatDoorWRadixParsesP1
import Derived.Test.YtnlkbdmmoplkoaaGreatDoorWRadixParsesP2
import Derived.Test.YtnlkbdmmoplkoaaGreatDoorWRadixParsesP3
import Derived.Test.YtnlkbdmmoplkoaaGreatDoorWRadixParsesP4
import Derived.Test.YtnlkbdmmoplkoaaGreatDoorWRadixParsesP7
namespace Go.Proofs.YtnlkbdmmoplkoaaGreatDoor.radixParses
open Go.ChangeShapes Go.WideShapes Go.ChangeAt Go.WideElems Go.RowKit
theorem closed : joinedFacts Tryz.pinned.checked.prog 17 Tryz.f17 Rows.radixParsesSpec Rows.radixParsesRow = true := by
  unfold joinedFacts
  rw [j1, j2, j3, j4, j5, j6, j7, j9]
  kernel_rfl
end Go.Proofs.YtnlkbdmmoplkoaaGreatDoor.radixParses
