/- Facts of the program that the card of RadixParses asks for, one part. -/
import Derived.Test.YtnlkbdmmoplkoaaGreatDoorRows
import Derived.Test.YtnlkbdmmoplkoaaGreatDoorCards
import Derived.Stop.Joined
import Derived.ProofKit
namespace Go.Proofs.YtnlkbdmmoplkoaaGreatDoor.radixParses
open Go.ChangeShapes Go.WideShapes Go.ChangeAt Go.WideElems Go.RowKit
theorem j1 : (Rows.radixParsesRow.inPlace == Program.inPlace Tryz.pinned.checked.prog 17) = true := by kernel_rfl
theorem j2 : (Rows.radixParsesRow.unfollowed == Program.unfollowed Tryz.pinned.checked.prog 17) = true := by kernel_rfl
end Go.Proofs.YtnlkbdmmoplkoaaGreatDoor.radixParses
