/- Facts of the program that the card of RootBounds asks for, one part. -/
import Derived.Test.YtkbglkjpdndkiaaGreatDoorRows
import Derived.Test.YtkbglkjpdndkiaaGreatDoorCards
import Derived.Stop.Joined
import Derived.ProofKit
namespace Go.Proofs.YtkbglkjpdndkiaaGreatDoor.rootBounds
open Go.ChangeShapes Go.WideShapes Go.ChangeAt Go.WideElems Go.RowKit
theorem j9 : (Program.make Tryz.pinned.checked.prog == some Rows.rootBoundsRow.make) = true := by kernel_rfl
end Go.Proofs.YtkbglkjpdndkiaaGreatDoor.rootBounds
