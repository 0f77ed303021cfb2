/- Facts of the program that the card of RadixBack asks for, one part. -/
import Derived.Test.YtnlkbdmmoplkoaaGreatDoorRows
import Derived.Test.YtnlkbdmmoplkoaaGreatDoorCards
import Derived.Stop.Joined
import Derived.ProofKit
namespace Go.Proofs.YtnlkbdmmoplkoaaGreatDoor.radixBack
open Go.ChangeShapes Go.WideShapes Go.ChangeAt Go.WideElems Go.RowKit
theorem j6 : Program.mayEnter Tryz.pinned.checked.prog = true := by kernel_rfl
end Go.Proofs.YtnlkbdmmoplkoaaGreatDoor.radixBack
