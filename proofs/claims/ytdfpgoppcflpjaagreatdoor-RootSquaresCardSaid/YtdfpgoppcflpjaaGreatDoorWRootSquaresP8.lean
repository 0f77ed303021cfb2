/- Facts of the program that the card of RootSquares asks for, one part. -/
import Derived.Test.YtdfpgoppcflpjaaGreatDoorRows
import Derived.Test.YtdfpgoppcflpjaaGreatDoorCards
import Derived.Stop.Joined
import Derived.ProofKit
namespace Go.Proofs.YtdfpgoppcflpjaaGreatDoor.rootSquares
open Go.ChangeShapes Go.WideShapes Go.ChangeAt Go.WideElems Go.RowKit
theorem j10 : Tryz.pinned.checked.prog.mainIs = some (((true, "f33e0fee195ba2c27d1eb72ff0e368270e998ed717819186719ea89ce6d4b572") : Bool × String).1, ((true, "f33e0fee195ba2c27d1eb72ff0e368270e998ed717819186719ea89ce6d4b572") : Bool × String).2.toList) := by kernel_rfl
theorem j11 : false = Program.looks Tryz.pinned.checked.prog [] := by kernel_rfl
end Go.Proofs.YtdfpgoppcflpjaaGreatDoor.rootSquares
