/- Facts of the program that the card of PolypTimes asks for, one part. -/
import Derived.Test.YtkbglkjpdndkiaaDoorRows
import Derived.Test.YtkbglkjpdndkiaaDoorCards
import Derived.Stop.Joined
import Derived.ProofKit
import Derived.Test.YtkbglkjpdndkiaaDoorWPolypTimesP1
import Derived.Test.YtkbglkjpdndkiaaDoorWPolypTimesP2
import Derived.Test.YtkbglkjpdndkiaaDoorWPolypTimesP3
import Derived.Test.YtkbglkjpdndkiaaDoorWPolypTimesP4
import Derived.Test.YtkbglkjpdndkiaaDoorWPolypTimesP7
namespace Go.Proofs.YtkbglkjpdndkiaaDoor.polypTimes
open Go.ChangeShapes Go.WideShapes Go.ChangeAt Go.WideElems Go.RowKit
theorem closed : joinedFacts Tryd.pinned.checked.prog 5 Tryd.f5 Rows.polypTimesSpec Rows.polypTimesRow = true := by
  unfold joinedFacts
  rw [j1, j2, j3, j4, j5, j6, j7, j9]
  kernel_rfl
end Go.Proofs.YtkbglkjpdndkiaaDoor.polypTimes
