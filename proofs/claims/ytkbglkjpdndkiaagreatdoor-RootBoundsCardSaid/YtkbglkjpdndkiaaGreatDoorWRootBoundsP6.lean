/- Facts of the program that the card of RootBounds asks for, one part. -/
import Derived.Test.YtkbglkjpdndkiaaGreatDoorRows
import Derived.Test.YtkbglkjpdndkiaaGreatDoorCards
import Derived.Stop.Joined
import Derived.ProofKit
import Derived.Test.YtkbglkjpdndkiaaGreatDoorWRootBoundsP1
import Derived.Test.YtkbglkjpdndkiaaGreatDoorWRootBoundsP2
import Derived.Test.YtkbglkjpdndkiaaGreatDoorWRootBoundsP3
import Derived.Test.YtkbglkjpdndkiaaGreatDoorWRootBoundsP4
import Derived.Test.YtkbglkjpdndkiaaGreatDoorWRootBoundsP7
namespace Go.Proofs.YtkbglkjpdndkiaaGreatDoor.rootBounds
open Go.ChangeShapes Go.WideShapes Go.ChangeAt Go.WideElems Go.RowKit
theorem closed : joinedFacts Tryz.pinned.checked.prog 6 Tryz.f6 Rows.rootBoundsSpec Rows.rootBoundsRow = true := by
  unfold joinedFacts
  rw [j1, j2, j3, j4, j5, j6, j7, j9]
  kernel_rfl
end Go.Proofs.YtkbglkjpdndkiaaGreatDoor.rootBounds
