/- Facts of the program that the card of RadixBack asks for, one part. -/
import Derived.Test.YtnlkbdmmoplkoaaGreatDoorRows
import Derived.Test.YtnlkbdmmoplkoaaGreatDoorCards
import Derived.Stop.Joined
import Derived.ProofKit
namespace Go.Proofs.YtnlkbdmmoplkoaaGreatDoor.radixBack
open Go.ChangeShapes Go.WideShapes Go.ChangeAt Go.WideElems Go.RowKit
theorem j3 : (Rows.radixBackRow.recurses == Program.recurses Tryz.pinned.checked.prog 18) = true := by kernel_rfl
theorem j4 : (Rows.radixBackRow.named == Program.varsNamed Tryz.pinned.checked.prog 18) = true := by kernel_rfl
theorem j5 : laidOutB Tryz.pinned.checked.prog = true := by kernel_rfl
end Go.Proofs.YtnlkbdmmoplkoaaGreatDoor.radixBack
