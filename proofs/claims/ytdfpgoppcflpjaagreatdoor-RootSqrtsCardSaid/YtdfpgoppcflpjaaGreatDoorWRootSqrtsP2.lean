/- Facts of the program that the card of RootSqrts asks for, one part. -/
import Derived.Test.YtdfpgoppcflpjaaGreatDoorRows
import Derived.Test.YtdfpgoppcflpjaaGreatDoorCards
import Derived.Stop.Joined
import Derived.ProofKit
namespace Go.Proofs.YtdfpgoppcflpjaaGreatDoor.rootSqrts
open Go.ChangeShapes Go.WideShapes Go.ChangeAt Go.WideElems Go.RowKit
theorem j3 : (Rows.rootSqrtsRow.recurses == Program.recurses Tryz.pinned.checked.prog 13) = true := by kernel_rfl
theorem j4 : (Rows.rootSqrtsRow.named == Program.varsNamed Tryz.pinned.checked.prog 13) = true := by kernel_rfl
theorem j5 : laidOutB Tryz.pinned.checked.prog = true := by kernel_rfl
end Go.Proofs.YtdfpgoppcflpjaaGreatDoor.rootSqrts
