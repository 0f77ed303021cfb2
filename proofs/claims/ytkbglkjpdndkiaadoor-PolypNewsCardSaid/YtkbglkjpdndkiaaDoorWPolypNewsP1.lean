/- Facts of the program that the card of PolypNews asks for, one part. -/
import Derived.Test.YtkbglkjpdndkiaaDoorRows
import Derived.Test.YtkbglkjpdndkiaaDoorCards
import Derived.Stop.Joined
import Derived.ProofKit
namespace Go.Proofs.YtkbglkjpdndkiaaDoor.polypNews
open Go.ChangeShapes Go.WideShapes Go.ChangeAt Go.WideElems Go.RowKit
theorem j1 : (Rows.polypNewsRow.inPlace == Program.inPlace Tryd.pinned.checked.prog 3) = true := by kernel_rfl
theorem j2 : (Rows.polypNewsRow.unfollowed == Program.unfollowed Tryd.pinned.checked.prog 3) = true := by kernel_rfl
end Go.Proofs.YtkbglkjpdndkiaaDoor.polypNews
