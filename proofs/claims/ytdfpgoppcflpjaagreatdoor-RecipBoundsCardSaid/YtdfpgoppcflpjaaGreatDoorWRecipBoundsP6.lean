/- Facts of the program that the card of RecipBounds asks for, one part. -/
import Derived.Test.YtdfpgoppcflpjaaGreatDoorRows
import Derived.Test.YtdfpgoppcflpjaaGreatDoorCards
import Derived.Stop.Joined
import Derived.ProofKit
import Derived.Test.YtdfpgoppcflpjaaGreatDoorWRecipBoundsP1
import Derived.Test.YtdfpgoppcflpjaaGreatDoorWRecipBoundsP2
import Derived.Test.YtdfpgoppcflpjaaGreatDoorWRecipBoundsP3
import Derived.Test.YtdfpgoppcflpjaaGreatDoorWRecipBoundsP4
import Derived.Test.YtdfpgoppcflpjaaGreatDoorWRecipBoundsP7
namespace Go.Proofs.YtdfpgoppcflpjaaGreatDoor.recipBounds
open Go.ChangeShapes Go.WideShapes Go.ChangeAt Go.WideElems Go.RowKit
theorem closed : joinedFacts Tryz.pinned.checked.prog 4 Tryz.f4 Rows.recipBoundsSpec Rows.recipBoundsRow = true := by
  unfold joinedFacts
  rw [j1, j2, j3, j4, j5, j6, j7, j9]
  kernel_rfl
end Go.Proofs.YtdfpgoppcflpjaaGreatDoor.recipBounds
