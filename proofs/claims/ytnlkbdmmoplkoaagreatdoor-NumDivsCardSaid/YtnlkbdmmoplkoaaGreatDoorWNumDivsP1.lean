/- Facts of the program that the card of NumDivs asks for, one part. -/
import Derived.Test.YtnlkbdmmoplkoaaGreatDoorRows
import Derived.Test.YtnlkbdmmoplkoaaGreatDoorCards
import Derived.Stop.Joined
import Derived.ProofKit
namespace Go.Proofs.YtnlkbdmmoplkoaaGreatDoor.numDivs
open Go.ChangeShapes Go.WideShapes Go.ChangeAt Go.WideElems Go.RowKit
theorem j1 : (Rows.numDivsRow.inPlace == Program.inPlace Tryz.pinned.checked.prog 9) = true := by kernel_rfl
theorem j2 : (Rows.numDivsRow.unfollowed == Program.unfollowed Tryz.pinned.checked.prog 9) = true := by kernel_rfl
end Go.Proofs.YtnlkbdmmoplkoaaGreatDoor.numDivs
