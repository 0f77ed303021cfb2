/- Facts of the program that the card of PolypSums asks for, one part. -/
import Derived.Test.YtkbglkjpdndkiaaDoorRows
import Derived.Test.YtkbglkjpdndkiaaDoorCards
import Derived.Stop.Joined
import Derived.ProofKit
namespace Go.Proofs.YtkbglkjpdndkiaaDoor.polypSums
open Go.ChangeShapes Go.WideShapes Go.ChangeAt Go.WideElems Go.RowKit
theorem j1 : (Rows.polypSumsRow.inPlace == Program.inPlace Tryd.pinned.checked.prog 7) = true := by kernel_rfl
theorem j2 : (Rows.polypSumsRow.unfollowed == Program.unfollowed Tryd.pinned.checked.prog 7) = true := by kernel_rfl
end Go.Proofs.YtkbglkjpdndkiaaDoor.polypSums
