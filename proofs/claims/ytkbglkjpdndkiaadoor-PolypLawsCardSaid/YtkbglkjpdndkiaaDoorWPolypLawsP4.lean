/- Facts of the program that the card of PolypLaws asks for, one part. -/
import Derived.Test.YtkbglkjpdndkiaaDoorRows
import Derived.Test.YtkbglkjpdndkiaaDoorCards
import Derived.Stop.Joined
import Derived.ProofKit
namespace Go.Proofs.YtkbglkjpdndkiaaDoor.polypLaws
open Go.ChangeShapes Go.WideShapes Go.ChangeAt Go.WideElems Go.RowKit
theorem j7 : (Rows.polypLawsRow.lifted == Program.liftsFinal Tryd.pinned.checked.prog) = true := by kernel_rfl
end Go.Proofs.YtkbglkjpdndkiaaDoor.polypLaws
