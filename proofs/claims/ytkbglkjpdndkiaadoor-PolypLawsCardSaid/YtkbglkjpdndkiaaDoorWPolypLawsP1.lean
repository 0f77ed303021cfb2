/- Facts of the program that the card of PolypLaws asks for, one part. -/
import Derived.Test.YtkbglkjpdndkiaaDoorRows
import Derived.Test.YtkbglkjpdndkiaaDoorCards
import Derived.Stop.Joined
import Derived.ProofKit
namespace Go.Proofs.YtkbglkjpdndkiaaDoor.polypLaws
open Go.ChangeShapes Go.WideShapes Go.ChangeAt Go.WideElems Go.RowKit
theorem j1 : (Rows.polypLawsRow.inPlace == Program.inPlace Tryd.pinned.checked.prog 8) = true := by kernel_rfl
theorem j2 : (Rows.polypLawsRow.unfollowed == Program.unfollowed Tryd.pinned.checked.prog 8) = true := by kernel_rfl
end Go.Proofs.YtkbglkjpdndkiaaDoor.polypLaws
