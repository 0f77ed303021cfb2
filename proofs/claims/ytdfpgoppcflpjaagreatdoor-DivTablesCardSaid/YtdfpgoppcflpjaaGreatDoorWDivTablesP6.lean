/- Facts of the program that the card of DivTables asks for, one part. -/
import Derived.Test.YtdfpgoppcflpjaaGreatDoorRows
import Derived.Test.YtdfpgoppcflpjaaGreatDoorCards
import Derived.Stop.Joined
import Derived.ProofKit
import Derived.Test.YtdfpgoppcflpjaaGreatDoorWDivTablesP1
import Derived.Test.YtdfpgoppcflpjaaGreatDoorWDivTablesP2
import Derived.Test.YtdfpgoppcflpjaaGreatDoorWDivTablesP3
import Derived.Test.YtdfpgoppcflpjaaGreatDoorWDivTablesP4
import Derived.Test.YtdfpgoppcflpjaaGreatDoorWDivTablesP7
namespace Go.Proofs.YtdfpgoppcflpjaaGreatDoor.divTables
open Go.ChangeShapes Go.WideShapes Go.ChangeAt Go.WideElems Go.RowKit
theorem closed : joinedFacts Tryz.pinned.checked.prog 7 Tryz.f7 Rows.divTablesSpec Rows.divTablesRow = true := by
  unfold joinedFacts
  rw [j1, j2, j3, j4, j5, j6, j7, j9]
  kernel_rfl
end Go.Proofs.YtdfpgoppcflpjaaGreatDoor.divTables
