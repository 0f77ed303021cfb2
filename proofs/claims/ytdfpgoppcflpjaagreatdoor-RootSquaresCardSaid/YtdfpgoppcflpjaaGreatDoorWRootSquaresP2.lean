/- Facts of the program that the card of RootSquares asks for, one part. -/
import Derived.Test.YtdfpgoppcflpjaaGreatDoorRows
import Derived.Test.YtdfpgoppcflpjaaGreatDoorCards
import Derived.Stop.Joined
import Derived.ProofKit
namespace Go.Proofs.YtdfpgoppcflpjaaGreatDoor.rootSquares
open Go.ChangeShapes Go.WideShapes Go.ChangeAt Go.WideElems Go.RowKit
theorem j3 : (Rows.rootSquaresRow.recurses == Program.recurses Tryz.pinned.checked.prog 17) = true := by kernel_rfl
theorem j4 : (Rows.rootSquaresRow.named == Program.varsNamed Tryz.pinned.checked.prog 17) = true := by kernel_rfl
theorem j5 : laidOutB Tryz.pinned.checked.prog = true := by kernel_rfl
end Go.Proofs.YtdfpgoppcflpjaaGreatDoor.rootSquares
