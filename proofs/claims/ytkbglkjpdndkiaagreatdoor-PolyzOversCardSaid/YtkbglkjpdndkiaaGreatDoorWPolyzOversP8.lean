/- Facts of the program that the card of PolyzOvers asks for, one part. -/
import Derived.Test.YtkbglkjpdndkiaaGreatDoorRows
import Derived.Test.YtkbglkjpdndkiaaGreatDoorCards
import Derived.Stop.Joined
import Derived.ProofKit
namespace Go.Proofs.YtkbglkjpdndkiaaGreatDoor.polyzOvers
open Go.ChangeShapes Go.WideShapes Go.ChangeAt Go.WideElems Go.RowKit
theorem j10 : Tryz.pinned.checked.prog.mainIs = some (((true, "cef991304c91d17f7231d896cc3aecd1c6715373f2600fa28b154f72c864e516") : Bool × String).1, ((true, "cef991304c91d17f7231d896cc3aecd1c6715373f2600fa28b154f72c864e516") : Bool × String).2.toList) := by kernel_rfl
theorem j11 : false = Program.looks Tryz.pinned.checked.prog [] := by kernel_rfl
end Go.Proofs.YtkbglkjpdndkiaaGreatDoor.polyzOvers
