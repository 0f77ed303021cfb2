/- Facts of the program that the card of DivMods asks for, one part. -/
import Derived.Test.YtdfpgoppcflpjaaGreatDoorRows
import Derived.Test.YtdfpgoppcflpjaaGreatDoorCards
import Derived.Stop.Joined
import Derived.ProofKit
import Derived.Test.YtdfpgoppcflpjaaGreatDoorWDivModsP1
import Derived.Test.YtdfpgoppcflpjaaGreatDoorWDivModsP2
import Derived.Test.YtdfpgoppcflpjaaGreatDoorWDivModsP3
import Derived.Test.YtdfpgoppcflpjaaGreatDoorWDivModsP4
import Derived.Test.YtdfpgoppcflpjaaGreatDoorWDivModsP7
namespace Go.Proofs.YtdfpgoppcflpjaaGreatDoor.divMods
open Go.ChangeShapes Go.WideShapes Go.ChangeAt Go.WideElems Go.RowKit
theorem closed : joinedFacts Tryz.pinned.checked.prog 8 Tryz.f8 Rows.divModsSpec Rows.divModsRow = true := by
  unfold joinedFacts
  rw [j1, j2, j3, j4, j5, j6, j7, j9]
  kernel_rfl
end Go.Proofs.YtdfpgoppcflpjaaGreatDoor.divMods
