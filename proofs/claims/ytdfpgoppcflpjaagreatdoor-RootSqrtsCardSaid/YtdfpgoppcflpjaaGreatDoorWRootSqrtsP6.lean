/- Facts of the program that the card of RootSqrts asks for, one part. -/
import Derived.Test.YtdfpgoppcflpjaaGreatDoorRows
import Derived.Test.YtdfpgoppcflpjaaGreatDoorCards
import Derived.Stop.Joined
import Derived.ProofKit
import Derived.Test.YtdfpgoppcflpjaaGreatDoorWRootSqrtsP1
import Derived.Test.YtdfpgoppcflpjaaGreatDoorWRootSqrtsP2
import Derived.Test.YtdfpgoppcflpjaaGreatDoorWRootSqrtsP3
import Derived.Test.YtdfpgoppcflpjaaGreatDoorWRootSqrtsP4
import Derived.Test.YtdfpgoppcflpjaaGreatDoorWRootSqrtsP7
namespace Go.Proofs.YtdfpgoppcflpjaaGreatDoor.rootSqrts
open Go.ChangeShapes Go.WideShapes Go.ChangeAt Go.WideElems Go.RowKit
theorem closed : joinedFacts Tryz.pinned.checked.prog 13 Tryz.f13 Rows.rootSqrtsSpec Rows.rootSqrtsRow = true := by
  unfold joinedFacts
  rw [j1, j2, j3, j4, j5, j6, j7, j9]
  kernel_rfl
end Go.Proofs.YtdfpgoppcflpjaaGreatDoor.rootSqrts
