/- Facts of the program that the card of RecipTables asks for, one part. -/
import Derived.Test.YtdfpgoppcflpjaaGreatDoorRows
import Derived.Test.YtdfpgoppcflpjaaGreatDoorCards
import Derived.Stop.Joined
import Derived.ProofKit
import Derived.Test.YtdfpgoppcflpjaaGreatDoorWRecipTablesP1
import Derived.Test.YtdfpgoppcflpjaaGreatDoorWRecipTablesP2
import Derived.Test.YtdfpgoppcflpjaaGreatDoorWRecipTablesP3
import Derived.Test.YtdfpgoppcflpjaaGreatDoorWRecipTablesP4
import Derived.Test.YtdfpgoppcflpjaaGreatDoorWRecipTablesP7
namespace Go.Proofs.YtdfpgoppcflpjaaGreatDoor.recipTables
open Go.ChangeShapes Go.WideShapes Go.ChangeAt Go.WideElems Go.RowKit
theorem closed : joinedFacts Tryz.pinned.checked.prog 5 Tryz.f5 Rows.recipTablesSpec Rows.recipTablesRow = true := by
  unfold joinedFacts
  rw [j1, j2, j3, j4, j5, j6, j7, j9]
  kernel_rfl
end Go.Proofs.YtdfpgoppcflpjaaGreatDoor.recipTables
