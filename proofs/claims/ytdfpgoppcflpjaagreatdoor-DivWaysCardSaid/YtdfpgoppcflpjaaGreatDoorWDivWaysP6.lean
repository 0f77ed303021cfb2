/- Facts of the program that the card of DivWays asks for, one part. -/
import Derived.Test.YtdfpgoppcflpjaaGreatDoorRows
import Derived.Test.YtdfpgoppcflpjaaGreatDoorCards
import Derived.Stop.Joined
import Derived.ProofKit
import Derived.Test.YtdfpgoppcflpjaaGreatDoorWDivWaysP1
import Derived.Test.YtdfpgoppcflpjaaGreatDoorWDivWaysP2
import Derived.Test.YtdfpgoppcflpjaaGreatDoorWDivWaysP3
import Derived.Test.YtdfpgoppcflpjaaGreatDoorWDivWaysP4
import Derived.Test.YtdfpgoppcflpjaaGreatDoorWDivWaysP7
namespace Go.Proofs.YtdfpgoppcflpjaaGreatDoor.divWays
open Go.ChangeShapes Go.WideShapes Go.ChangeAt Go.WideElems Go.RowKit
theorem closed : joinedFacts Tryz.pinned.checked.prog 11 Tryz.f11 Rows.divWaysSpec Rows.divWaysRow = true := by
  unfold joinedFacts
  rw [j1, j2, j3, j4, j5, j6, j7, j9]
  kernel_rfl
end Go.Proofs.YtdfpgoppcflpjaaGreatDoor.divWays
