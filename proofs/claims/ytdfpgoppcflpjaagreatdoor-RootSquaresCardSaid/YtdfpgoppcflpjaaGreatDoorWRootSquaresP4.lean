/- Facts of the program that the card of RootSquares asks for, one part. -/
import Derived.Test.YtdfpgoppcflpjaaGreatDoorRows
import Derived.Test.YtdfpgoppcflpjaaGreatDoorCards
import Derived.Stop.Joined
import Derived.ProofKit
namespace Go.Proofs.YtdfpgoppcflpjaaGreatDoor.rootSquares
open Go.ChangeShapes Go.WideShapes Go.ChangeAt Go.WideElems Go.RowKit
theorem j7 : (Rows.rootSquaresRow.lifted == Program.liftsFinal Tryz.pinned.checked.prog) = true := by kernel_rfl
end Go.Proofs.YtdfpgoppcflpjaaGreatDoor.rootSquares
