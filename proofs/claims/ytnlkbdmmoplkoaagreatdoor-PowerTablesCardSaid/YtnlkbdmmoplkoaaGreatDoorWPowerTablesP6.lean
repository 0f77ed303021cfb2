/- Facts of the program that the card of PowerTables asks for, one part. -/
import Derived.Test.YtnlkbdmmoplkoaaGreatDoorRows
import Derived.Test.YtnlkbdmmoplkoaaGreatDoorCards
import Derived.Stop.Joined
import Derived.ProofKit
import Derived.Test.YtnlkbdmmoplkoaaGreatDoorWPowerTablesP1
import Derived.Test.YtnlkbdmmoplkoaaGreatDoorWPowerTablesP2
import Derived.Test.YtnlkbdmmoplkoaaGreatDoorWPowerTablesP3
import Derived.Test.YtnlkbdmmoplkoaaGreatDoorWPowerTablesP4
import Derived.Test.YtnlkbdmmoplkoaaGreatDoorWPowerTablesP7
namespace Go.Proofs.YtnlkbdmmoplkoaaGreatDoor.powerTables
open Go.ChangeShapes Go.WideShapes Go.ChangeAt Go.WideElems Go.RowKit
theorem closed : joinedFacts Tryz.pinned.checked.prog 15 Tryz.f15 Rows.powerTablesSpec Rows.powerTablesRow = true := by
  unfold joinedFacts
  rw [j1, j2, j3, j4, j5, j6, j7, j9]
  kernel_rfl
end Go.Proofs.YtnlkbdmmoplkoaaGreatDoor.powerTables
