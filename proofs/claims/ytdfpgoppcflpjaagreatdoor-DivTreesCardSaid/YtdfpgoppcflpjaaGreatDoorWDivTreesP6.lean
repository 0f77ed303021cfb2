/- Facts of the program that the card of DivTrees asks for, one part. -/
import Derived.Test.YtdfpgoppcflpjaaGreatDoorRows
import Derived.Test.YtdfpgoppcflpjaaGreatDoorCards
import Derived.Stop.Joined
import Derived.ProofKit
import Derived.Test.YtdfpgoppcflpjaaGreatDoorWDivTreesP1
import Derived.Test.YtdfpgoppcflpjaaGreatDoorWDivTreesP2
import Derived.Test.YtdfpgoppcflpjaaGreatDoorWDivTreesP3
import Derived.Test.YtdfpgoppcflpjaaGreatDoorWDivTreesP4
import Derived.Test.YtdfpgoppcflpjaaGreatDoorWDivTreesP7
namespace Go.Proofs.YtdfpgoppcflpjaaGreatDoor.divTrees
open Go.ChangeShapes Go.WideShapes Go.ChangeAt Go.WideElems Go.RowKit
theorem closed : joinedFacts Tryz.pinned.checked.prog 12 Tryz.f12 Rows.divTreesSpec Rows.divTreesRow = true := by
  unfold joinedFacts
  rw [j1, j2, j3, j4, j5, j6, j7, j9]
  kernel_rfl
end Go.Proofs.YtdfpgoppcflpjaaGreatDoor.divTrees
