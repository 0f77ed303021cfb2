/- Facts of the program that the card of DivExacts asks for, one part. -/
import Derived.Test.YtdfpgoppcflpjaaGreatDoorRows
import Derived.Test.YtdfpgoppcflpjaaGreatDoorCards
import Derived.Stop.Joined
import Derived.ProofKit
import Derived.Test.YtdfpgoppcflpjaaGreatDoorWDivExactsP1
import Derived.Test.YtdfpgoppcflpjaaGreatDoorWDivExactsP2
import Derived.Test.YtdfpgoppcflpjaaGreatDoorWDivExactsP3
import Derived.Test.YtdfpgoppcflpjaaGreatDoorWDivExactsP4
import Derived.Test.YtdfpgoppcflpjaaGreatDoorWDivExactsP7
namespace Go.Proofs.YtdfpgoppcflpjaaGreatDoor.divExacts
open Go.ChangeShapes Go.WideShapes Go.ChangeAt Go.WideElems Go.RowKit
theorem closed : joinedFacts Tryz.pinned.checked.prog 9 Tryz.f9 Rows.divExactsSpec Rows.divExactsRow = true := by
  unfold joinedFacts
  rw [j1, j2, j3, j4, j5, j6, j7, j9]
  kernel_rfl
end Go.Proofs.YtdfpgoppcflpjaaGreatDoor.divExacts
