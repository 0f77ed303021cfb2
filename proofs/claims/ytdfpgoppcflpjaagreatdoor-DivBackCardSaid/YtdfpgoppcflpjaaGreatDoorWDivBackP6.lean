/- Facts of the program that the card of DivBack asks for, one part. -/
import Derived.Test.YtdfpgoppcflpjaaGreatDoorRows
import Derived.Test.YtdfpgoppcflpjaaGreatDoorCards
import Derived.Stop.Joined
import Derived.ProofKit
import Derived.Test.YtdfpgoppcflpjaaGreatDoorWDivBackP1
import Derived.Test.YtdfpgoppcflpjaaGreatDoorWDivBackP2
import Derived.Test.YtdfpgoppcflpjaaGreatDoorWDivBackP3
import Derived.Test.YtdfpgoppcflpjaaGreatDoorWDivBackP4
import Derived.Test.YtdfpgoppcflpjaaGreatDoorWDivBackP7
namespace Go.Proofs.YtdfpgoppcflpjaaGreatDoor.divBack
open Go.ChangeShapes Go.WideShapes Go.ChangeAt Go.WideElems Go.RowKit
theorem closed : joinedFacts Tryz.pinned.checked.prog 10 Tryz.f10 Rows.divBackSpec Rows.divBackRow = true := by
  unfold joinedFacts
  rw [j1, j2, j3, j4, j5, j6, j7, j9]
  kernel_rfl
end Go.Proofs.YtdfpgoppcflpjaaGreatDoor.divBack
