/- Facts of the program that the card of RootRoots asks for, one part. -/
import Derived.Test.YtdfpgoppcflpjaaGreatDoorRows
import Derived.Test.YtdfpgoppcflpjaaGreatDoorCards
import Derived.Stop.Joined
import Derived.ProofKit
import Derived.Test.YtdfpgoppcflpjaaGreatDoorWRootRootsP1
import Derived.Test.YtdfpgoppcflpjaaGreatDoorWRootRootsP2
import Derived.Test.YtdfpgoppcflpjaaGreatDoorWRootRootsP3
import Derived.Test.YtdfpgoppcflpjaaGreatDoorWRootRootsP4
import Derived.Test.YtdfpgoppcflpjaaGreatDoorWRootRootsP7
namespace Go.Proofs.YtdfpgoppcflpjaaGreatDoor.rootRoots
open Go.ChangeShapes Go.WideShapes Go.ChangeAt Go.WideElems Go.RowKit
theorem closed : joinedFacts Tryz.pinned.checked.prog 14 Tryz.f14 Rows.rootRootsSpec Rows.rootRootsRow = true := by
  unfold joinedFacts
  rw [j1, j2, j3, j4, j5, j6, j7, j9]
  kernel_rfl
end Go.Proofs.YtdfpgoppcflpjaaGreatDoor.rootRoots
