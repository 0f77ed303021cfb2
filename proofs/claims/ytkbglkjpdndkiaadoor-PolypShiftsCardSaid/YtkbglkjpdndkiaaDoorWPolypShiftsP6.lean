/- Facts of the program that the card of PolypShifts asks for, one part. -/
import Derived.Test.YtkbglkjpdndkiaaDoorRows
import Derived.Test.YtkbglkjpdndkiaaDoorCards
import Derived.Stop.Joined
import Derived.ProofKit
import Derived.Test.YtkbglkjpdndkiaaDoorWPolypShiftsP1
import Derived.Test.YtkbglkjpdndkiaaDoorWPolypShiftsP2
import Derived.Test.YtkbglkjpdndkiaaDoorWPolypShiftsP3
import Derived.Test.YtkbglkjpdndkiaaDoorWPolypShiftsP4
import Derived.Test.YtkbglkjpdndkiaaDoorWPolypShiftsP7
namespace Go.Proofs.YtkbglkjpdndkiaaDoor.polypShifts
open Go.ChangeShapes Go.WideShapes Go.ChangeAt Go.WideElems Go.RowKit
theorem closed : joinedFacts Tryd.pinned.checked.prog 4 Tryd.f4 Rows.polypShiftsSpec Rows.polypShiftsRow = true := by
  unfold joinedFacts
  rw [j1, j2, j3, j4, j5, j6, j7, j9]
  kernel_rfl
end Go.Proofs.YtkbglkjpdndkiaaDoor.polypShifts
