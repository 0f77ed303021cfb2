/- Facts of the program that the card of PolyzHands asks for, one part. -/
import Derived.Test.YtkbglkjpdndkiaaGreatDoorRows
import Derived.Test.YtkbglkjpdndkiaaGreatDoorCards
import Derived.Stop.Joined
import Derived.ProofKit
import Derived.Test.YtkbglkjpdndkiaaGreatDoorWPolyzHandsP1
import Derived.Test.YtkbglkjpdndkiaaGreatDoorWPolyzHandsP2
import Derived.Test.YtkbglkjpdndkiaaGreatDoorWPolyzHandsP3
import Derived.Test.YtkbglkjpdndkiaaGreatDoorWPolyzHandsP4
import Derived.Test.YtkbglkjpdndkiaaGreatDoorWPolyzHandsP7
namespace Go.Proofs.YtkbglkjpdndkiaaGreatDoor.polyzHands
open Go.ChangeShapes Go.WideShapes Go.ChangeAt Go.WideElems Go.RowKit
theorem closed : joinedFacts Tryz.pinned.checked.prog 3 Tryz.f3 Rows.polyzHandsSpec Rows.polyzHandsRow = true := by
  unfold joinedFacts
  rw [j1, j2, j3, j4, j5, j6, j7, j9]
  kernel_rfl
end Go.Proofs.YtkbglkjpdndkiaaGreatDoor.polyzHands
