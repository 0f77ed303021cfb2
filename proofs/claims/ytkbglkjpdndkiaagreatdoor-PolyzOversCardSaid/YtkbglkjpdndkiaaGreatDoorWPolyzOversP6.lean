/- Facts of the program that the card of PolyzOvers asks for, one part. -/
import Derived.Test.YtkbglkjpdndkiaaGreatDoorRows
import Derived.Test.YtkbglkjpdndkiaaGreatDoorCards
import Derived.Stop.Joined
import Derived.ProofKit
import Derived.Test.YtkbglkjpdndkiaaGreatDoorWPolyzOversP1
import Derived.Test.YtkbglkjpdndkiaaGreatDoorWPolyzOversP2
import Derived.Test.YtkbglkjpdndkiaaGreatDoorWPolyzOversP3
import Derived.Test.YtkbglkjpdndkiaaGreatDoorWPolyzOversP4
import Derived.Test.YtkbglkjpdndkiaaGreatDoorWPolyzOversP7
namespace Go.Proofs.YtkbglkjpdndkiaaGreatDoor.polyzOvers
open Go.ChangeShapes Go.WideShapes Go.ChangeAt Go.WideElems Go.RowKit
theorem closed : joinedFacts Tryz.pinned.checked.prog 5 Tryz.f5 Rows.polyzOversSpec Rows.polyzOversRow = true := by
  unfold joinedFacts
  rw [j1, j2, j3, j4, j5, j6, j7, j9]
  kernel_rfl
end Go.Proofs.YtkbglkjpdndkiaaGreatDoor.polyzOvers
