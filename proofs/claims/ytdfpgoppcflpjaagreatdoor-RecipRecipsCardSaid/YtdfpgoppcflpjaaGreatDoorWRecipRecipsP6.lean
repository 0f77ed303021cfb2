/- Facts of the program that the card of RecipRecips asks for, one part. -/
import Derived.Test.YtdfpgoppcflpjaaGreatDoorRows
import Derived.Test.YtdfpgoppcflpjaaGreatDoorCards
import Derived.Stop.Joined
import Derived.ProofKit
import Derived.Test.YtdfpgoppcflpjaaGreatDoorWRecipRecipsP1
import Derived.Test.YtdfpgoppcflpjaaGreatDoorWRecipRecipsP2
import Derived.Test.YtdfpgoppcflpjaaGreatDoorWRecipRecipsP3
import Derived.Test.YtdfpgoppcflpjaaGreatDoorWRecipRecipsP4
import Derived.Test.YtdfpgoppcflpjaaGreatDoorWRecipRecipsP7
namespace Go.Proofs.YtdfpgoppcflpjaaGreatDoor.recipRecips
open Go.ChangeShapes Go.WideShapes Go.ChangeAt Go.WideElems Go.RowKit
theorem closed : joinedFacts Tryz.pinned.checked.prog 3 Tryz.f3 Rows.recipRecipsSpec Rows.recipRecipsRow = true := by
  unfold joinedFacts
  rw [j1, j2, j3, j4, j5, j6, j7, j9]
  kernel_rfl
end Go.Proofs.YtdfpgoppcflpjaaGreatDoor.recipRecips
