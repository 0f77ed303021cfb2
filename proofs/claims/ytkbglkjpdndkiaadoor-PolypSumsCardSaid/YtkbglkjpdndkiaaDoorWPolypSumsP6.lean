/- Facts of the program that the card of PolypSums asks for, one part. -/
import Derived.Test.YtkbglkjpdndkiaaDoorRows
import Derived.Test.YtkbglkjpdndkiaaDoorCards
import Derived.Stop.Joined
import Derived.ProofKit
import Derived.Test.YtkbglkjpdndkiaaDoorWPolypSumsP1
import Derived.Test.YtkbglkjpdndkiaaDoorWPolypSumsP2
import Derived.Test.YtkbglkjpdndkiaaDoorWPolypSumsP3
import Derived.Test.YtkbglkjpdndkiaaDoorWPolypSumsP4
import Derived.Test.YtkbglkjpdndkiaaDoorWPolypSumsP7
namespace Go.Proofs.YtkbglkjpdndkiaaDoor.polypSums
open Go.ChangeShapes Go.WideShapes Go.ChangeAt Go.WideElems Go.RowKit
theorem closed : joinedFacts Tryd.pinned.checked.prog 7 Tryd.f7 Rows.polypSumsSpec Rows.polypSumsRow = true := by
  unfold joinedFacts
  rw [j1, j2, j3, j4, j5, j6, j7, j9]
  kernel_rfl
end Go.Proofs.YtkbglkjpdndkiaaDoor.polypSums
