/- Facts of the program that the card of NumEvens asks for, one part. -/
import Derived.Test.YtnlkbdmmoplkoaaGreatDoorRows
import Derived.Test.YtnlkbdmmoplkoaaGreatDoorCards
import Derived.Stop.Joined
import Derived.ProofKit
namespace Go.Proofs.YtnlkbdmmoplkoaaGreatDoor.numEvens
open Go.ChangeShapes Go.WideShapes Go.ChangeAt Go.WideElems Go.RowKit
theorem j1 : (Rows.numEvensRow.inPlace == Program.inPlace Tryz.pinned.checked.prog 11) = true := by kernel_rfl
theorem j2 : (Rows.numEvensRow.unfollowed == Program.unfollowed Tryz.pinned.checked.prog 11) = true := by kernel_rfl
end Go.Proofs.YtnlkbdmmoplkoaaGreatDoor.numEvens
