/- Facts of the program that the card of PolypValues asks for, one part. -/
import Derived.Test.YtkbglkjpdndkiaaDoorRows
import Derived.Test.YtkbglkjpdndkiaaDoorCards
import Derived.Stop.Joined
import Derived.ProofKit
import Derived.Test.YtkbglkjpdndkiaaDoorWPolypValuesP1
import Derived.Test.YtkbglkjpdndkiaaDoorWPolypValuesP2
import Derived.Test.YtkbglkjpdndkiaaDoorWPolypValuesP3
import Derived.Test.YtkbglkjpdndkiaaDoorWPolypValuesP4
import Derived.Test.YtkbglkjpdndkiaaDoorWPolypValuesP7
namespace Go.Proofs.YtkbglkjpdndkiaaDoor.polypValues
open Go.ChangeShapes Go.WideShapes Go.ChangeAt Go.WideElems Go.RowKit
theorem closed : joinedFacts Tryd.pinned.checked.prog 6 Tryd.f6 Rows.polypValuesSpec Rows.polypValuesRow = true := by
  unfold joinedFacts
  rw [j1, j2, j3, j4, j5, j6, j7, j9]
  kernel_rfl
end Go.Proofs.YtkbglkjpdndkiaaDoor.polypValues
