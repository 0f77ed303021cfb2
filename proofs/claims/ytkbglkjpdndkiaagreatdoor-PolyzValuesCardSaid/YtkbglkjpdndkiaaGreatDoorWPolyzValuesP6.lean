/- Facts of the program that the card of PolyzValues asks for, one part. -/
import Derived.Test.YtkbglkjpdndkiaaGreatDoorRows
import Derived.Test.YtkbglkjpdndkiaaGreatDoorCards
import Derived.Stop.Joined
import Derived.ProofKit
import Derived.Test.YtkbglkjpdndkiaaGreatDoorWPolyzValuesP1
import Derived.Test.YtkbglkjpdndkiaaGreatDoorWPolyzValuesP2
import Derived.Test.YtkbglkjpdndkiaaGreatDoorWPolyzValuesP3
import Derived.Test.YtkbglkjpdndkiaaGreatDoorWPolyzValuesP4
import Derived.Test.YtkbglkjpdndkiaaGreatDoorWPolyzValuesP7
namespace Go.Proofs.YtkbglkjpdndkiaaGreatDoor.polyzValues
open Go.ChangeShapes Go.WideShapes Go.ChangeAt Go.WideElems Go.RowKit
theorem closed : joinedFacts Tryz.pinned.checked.prog 4 Tryz.f4 Rows.polyzValuesSpec Rows.polyzValuesRow = true := by
  unfold joinedFacts
  rw [j1, j2, j3, j4, j5, j6, j7, j9]
  kernel_rfl
end Go.Proofs.YtkbglkjpdndkiaaGreatDoor.polyzValues
