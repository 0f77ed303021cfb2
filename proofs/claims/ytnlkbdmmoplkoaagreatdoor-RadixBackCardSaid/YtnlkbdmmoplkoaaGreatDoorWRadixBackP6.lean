/- Facts of the program that the card of RadixBack asks for, one part. -/
import Derived.Test.YtnlkbdmmoplkoaaGreatDoorRows
import Derived.Test.YtnlkbdmmoplkoaaGreatDoorCards
import Derived.Stop.Joined
import Derived.ProofKit
import Derived.Test.YtnlkbdmmoplkoaaGreatDoorWRadixBackP1
import Derived.Test.YtnlkbdmmoplkoaaGreatDoorWRadixBackP2
import Derived.Test.YtnlkbdmmoplkoaaGreatDoorWRadixBackP3
import Derived.Test.YtnlkbdmmoplkoaaGreatDoorWRadixBackP4
import Derived.Test.YtnlkbdmmoplkoaaGreatDoorWRadixBackP7
namespace Go.Proofs.YtnlkbdmmoplkoaaGreatDoor.radixBack
open Go.ChangeShapes Go.WideShapes Go.ChangeAt Go.WideElems Go.RowKit
theorem closed : joinedFacts Tryz.pinned.checked.prog 18 Tryz.f18 Rows.radixBackSpec Rows.radixBackRow = true := by
  unfold joinedFacts
  rw [j1, j2, j3, j4, j5, j6, j7, j9]
  kernel_rfl
end Go.Proofs.YtnlkbdmmoplkoaaGreatDoor.radixBack
