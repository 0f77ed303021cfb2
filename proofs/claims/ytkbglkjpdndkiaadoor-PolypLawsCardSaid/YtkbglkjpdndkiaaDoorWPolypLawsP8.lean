/- Facts of the program that the card of PolypLaws asks for, one part. -/
import Derived.Test.YtkbglkjpdndkiaaDoorRows
import Derived.Test.YtkbglkjpdndkiaaDoorCards
import Derived.Stop.Joined
import Derived.ProofKit
namespace Go.Proofs.YtkbglkjpdndkiaaDoor.polypLaws
open Go.ChangeShapes Go.WideShapes Go.ChangeAt Go.WideElems Go.RowKit
theorem j10 : Tryd.pinned.checked.prog.mainIs = some (((true, "af14f83de69b140dac7eb8c5b053a248f1e102b0f35554db1c8c6923d26876c7") : Bool × String).1, ((true, "af14f83de69b140dac7eb8c5b053a248f1e102b0f35554db1c8c6923d26876c7") : Bool × String).2.toList) := by kernel_rfl
theorem j11 : false = Program.looks Tryd.pinned.checked.prog [] := by kernel_rfl
end Go.Proofs.YtkbglkjpdndkiaaDoor.polypLaws
