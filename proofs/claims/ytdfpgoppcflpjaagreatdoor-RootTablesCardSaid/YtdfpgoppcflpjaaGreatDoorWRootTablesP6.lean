/- Facts of the program that the card of RootTables asks for, one part. -/
import Derived.Test.YtdfpgoppcflpjaaGreatDoorRows
import Derived.Test.YtdfpgoppcflpjaaGreatDoorCards
import Derived.Stop.Joined
import Derived.ProofKit
import Derived.Test.YtdfpgoppcflpjaaGreatDoorWRootTablesP1
import Derived.Test.YtdfpgoppcflpjaaGreatDoorWRootTablesP2
import Derived.Test.YtdfpgoppcflpjaaGreatDoorWRootTablesP3
import Derived.Test.YtdfpgoppcflpjaaGreatDoorWRootTablesP4
import Derived.Test.YtdfpgoppcflpjaaGreatDoorWRootTablesP7
namespace Go.Proofs.YtdfpgoppcflpjaaGreatDoor.rootTables
open Go.ChangeShapes Go.WideShapes Go.ChangeAt Go.WideElems Go.RowKit
theorem closed : joinedFacts Tryz.pinned.checked.prog 16 Tryz.f16 Rows.rootTablesSpec Rows.rootTablesRow = true := by
  unfold joinedFacts
  rw [j1, j2, j3, j4, j5, j6, j7, j9]
  kernel_rfl
end Go.Proofs.YtdfpgoppcflpjaaGreatDoor.rootTables
