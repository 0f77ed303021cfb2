/- Facts of the program that the card of PowerMods asks for, one part. -/
import Derived.Test.YtnlkbdmmoplkoaaGreatDoorRows
import Derived.Test.YtnlkbdmmoplkoaaGreatDoorCards
import Derived.Stop.Joined
import Derived.ProofKit
import Derived.Test.YtnlkbdmmoplkoaaGreatDoorWPowerModsP1
import Derived.Test.YtnlkbdmmoplkoaaGreatDoorWPowerModsP2
import Derived.Test.YtnlkbdmmoplkoaaGreatDoorWPowerModsP3
import Derived.Test.YtnlkbdmmoplkoaaGreatDoorWPowerModsP4
import Derived.Test.YtnlkbdmmoplkoaaGreatDoorWPowerModsP7
namespace Go.Proofs.YtnlkbdmmoplkoaaGreatDoor.powerMods
open Go.ChangeShapes Go.WideShapes Go.ChangeAt Go.WideElems Go.RowKit
theorem closed : joinedFacts Tryz.pinned.checked.prog 13 Tryz.f13 Rows.powerModsSpec Rows.powerModsRow = true := by
  unfold joinedFacts
  rw [j1, j2, j3, j4, j5, j6, j7, j9]
  kernel_rfl
end Go.Proofs.YtnlkbdmmoplkoaaGreatDoor.powerMods
