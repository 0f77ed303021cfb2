/- Facts of the program that the card of PolyzOvers asks for, one part. -/
import Derived.Test.YtkbglkjpdndkiaaGreatDoorRows
import Derived.Test.YtkbglkjpdndkiaaGreatDoorCards
import Derived.Stop.Joined
import Derived.ProofKit
namespace Go.Proofs.YtkbglkjpdndkiaaGreatDoor.polyzOvers
open Go.ChangeShapes Go.WideShapes Go.ChangeAt Go.WideElems Go.RowKit
theorem j3 : (Rows.polyzOversRow.recurses == Program.recurses Tryz.pinned.checked.prog 5) = true := by kernel_rfl
theorem j4 : (Rows.polyzOversRow.named == Program.varsNamed Tryz.pinned.checked.prog 5) = true := by kernel_rfl
theorem j5 : laidOutB Tryz.pinned.checked.prog = true := by kernel_rfl
end Go.Proofs.YtkbglkjpdndkiaaGreatDoor.polyzOvers
