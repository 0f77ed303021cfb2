/- Facts of the program that the card of RecipBys asks for, one part. -/
import Derived.Test.YtdfpgoppcflpjaaGreatDoorRows
import Derived.Test.YtdfpgoppcflpjaaGreatDoorCards
import Derived.Stop.Joined
import Derived.ProofKit
import Derived.Test.YtdfpgoppcflpjaaGreatDoorWRecipBysP1
import Derived.Test.YtdfpgoppcflpjaaGreatDoorWRecipBysP2
import Derived.Test.YtdfpgoppcflpjaaGreatDoorWRecipBysP3
import Derived.Test.YtdfpgoppcflpjaaGreatDoorWRecipBysP4
import Derived.Test.YtdfpgoppcflpjaaGreatDoorWRecipBysP7
namespace Go.Proofs.YtdfpgoppcflpjaaGreatDoor.recipBys
open Go.ChangeShapes Go.WideShapes Go.ChangeAt Go.WideElems Go.RowKit
theorem closed : joinedFacts Tryz.pinned.checked.prog 6 Tryz.f6 Rows.recipBysSpec Rows.recipBysRow = true := by
  unfold joinedFacts
  rw [j1, j2, j3, j4, j5, j6, j7, j9]
  kernel_rfl
end Go.Proofs.YtdfpgoppcflpjaaGreatDoor.recipBys
