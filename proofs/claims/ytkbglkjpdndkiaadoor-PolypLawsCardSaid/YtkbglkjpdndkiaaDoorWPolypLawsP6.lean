/- Facts of the program that the card of PolypLaws asks for, one part. -/
import Derived.Test.YtkbglkjpdndkiaaDoorRows
import Derived.Test.YtkbglkjpdndkiaaDoorCards
import Derived.Stop.Joined
import Derived.ProofKit
import Derived.Test.YtkbglkjpdndkiaaDoorWPolypLawsP1
import Derived.Test.YtkbglkjpdndkiaaDoorWPolypLawsP2
import Derived.Test.YtkbglkjpdndkiaaDoorWPolypLawsP3
import Derived.Test.YtkbglkjpdndkiaaDoorWPolypLawsP4
import Derived.Test.YtkbglkjpdndkiaaDoorWPolypLawsP7
namespace Go.Proofs.YtkbglkjpdndkiaaDoor.polypLaws
open Go.ChangeShapes Go.WideShapes Go.ChangeAt Go.WideElems Go.RowKit
theorem closed : joinedFacts Tryd.pinned.checked.prog 8 Tryd.f8 Rows.polypLawsSpec Rows.polypLawsRow = true := by
  unfold joinedFacts
  rw [j1, j2, j3, j4, j5, j6, j7, j9]
  kernel_rfl
end Go.Proofs.YtkbglkjpdndkiaaDoor.polypLaws
