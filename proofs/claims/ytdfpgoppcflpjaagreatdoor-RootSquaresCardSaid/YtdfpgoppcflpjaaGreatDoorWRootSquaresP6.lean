/- Facts of the program that the card of RootSquares asks for, one part. -/
import Derived.Test.YtdfpgoppcflpjaaGreatDoorRows
import Derived.Test.YtdfpgoppcflpjaaGreatDoorCards
import Derived.Stop.Joined
import Derived.ProofKit
import Derived.Test.YtdfpgoppcflpjaaGreatDoorWRootSquaresP1
import Derived.Test.YtdfpgoppcflpjaaGreatDoorWRootSquaresP2
import Derived.Test.YtdfpgoppcflpjaaGreatDoorWRootSquaresP3
import Derived.Test.YtdfpgoppcflpjaaGreatDoorWRootSquaresP4
import Derived.Test.YtdfpgoppcflpjaaGreatDoorWRootSquaresP7
namespace Go.Proofs.YtdfpgoppcflpjaaGreatDoor.rootSquares
open Go.ChangeShapes Go.WideShapes Go.ChangeAt Go.WideElems Go.RowKit
theorem closed : joinedFacts Tryz.pinned.checked.prog 17 Tryz.f17 Rows.rootSquaresSpec Rows.rootSquaresRow = true := by
  unfold joinedFacts
  rw [j1, j2, j3, j4, j5, j6, j7, j9]
  kernel_rfl
end Go.Proofs.YtdfpgoppcflpjaaGreatDoor.rootSquares
