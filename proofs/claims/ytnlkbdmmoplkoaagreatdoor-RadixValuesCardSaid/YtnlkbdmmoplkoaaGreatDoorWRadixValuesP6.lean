/- Facts of the program that the card of RadixValues asks for, one part. -/
import Derived.Test.YtnlkbdmmoplkoaaGreatDoorRows
import Derived.Test.YtnlkbdmmoplkoaaGreatDoorCards
import Derived.Stop.Joined
import Derived.ProofKit
import Derived.Test.YtnlkbdmmoplkoaaGreatDoorWRadixValuesP1
import Derived.Test.YtnlkbdmmoplkoaaGreatDoorWRadixValuesP2
import Derived.Test.YtnlkbdmmoplkoaaGreatDoorWRadixValuesP3
import Derived.Test.YtnlkbdmmoplkoaaGreatDoorWRadixValuesP4
import Derived.Test.YtnlkbdmmoplkoaaGreatDoorWRadixValuesP7
namespace Go.Proofs.YtnlkbdmmoplkoaaGreatDoor.radixValues
open Go.ChangeShapes Go.WideShapes Go.ChangeAt Go.WideElems Go.RowKit
theorem closed : joinedFacts Tryz.pinned.checked.prog 20 Tryz.f20 Rows.radixValuesSpec Rows.radixValuesRow = true := by
  unfold joinedFacts
  rw [j1, j2, j3, j4, j5, j6, j7, j9]
  kernel_rfl
end Go.Proofs.YtnlkbdmmoplkoaaGreatDoor.radixValues
