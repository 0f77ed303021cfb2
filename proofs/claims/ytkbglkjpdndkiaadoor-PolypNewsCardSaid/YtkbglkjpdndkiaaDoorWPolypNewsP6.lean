/- Facts of the program that the card of PolypNews asks for, one part. -/
import Derived.Test.YtkbglkjpdndkiaaDoorRows
import Derived.Test.YtkbglkjpdndkiaaDoorCards
import Derived.Stop.Joined
import Derived.ProofKit
import Derived.Test.YtkbglkjpdndkiaaDoorWPolypNewsP1
import Derived.Test.YtkbglkjpdndkiaaDoorWPolypNewsP2
import Derived.Test.YtkbglkjpdndkiaaDoorWPolypNewsP3
import Derived.Test.YtkbglkjpdndkiaaDoorWPolypNewsP4
import Derived.Test.YtkbglkjpdndkiaaDoorWPolypNewsP7
namespace Go.Proofs.YtkbglkjpdndkiaaDoor.polypNews
open Go.ChangeShapes Go.WideShapes Go.ChangeAt Go.WideElems Go.RowKit
theorem closed : joinedFacts Tryd.pinned.checked.prog 3 Tryd.f3 Rows.polypNewsSpec Rows.polypNewsRow = true := by
  unfold joinedFacts
  rw [j1, j2, j3, j4, j5, j6, j7, j9]
  kernel_rfl
end Go.Proofs.YtkbglkjpdndkiaaDoor.polypNews
