/- Facts of the program that the card of RootRoots asks for, one part. -/
import Derived.Test.YtdfpgoppcflpjaaGreatDoorRows
import Derived.Test.YtdfpgoppcflpjaaGreatDoorCards
import Derived.Stop.Joined
import Derived.ProofKit
namespace Go.Proofs.YtdfpgoppcflpjaaGreatDoor.rootRoots
open Go.ChangeShapes Go.WideShapes Go.ChangeAt Go.WideElems Go.RowKit
theorem j3 : (Rows.rootRootsRow.recurses == Program.recurses Tryz.pinned.checked.prog 14) = true := by kernel_rfl
theorem j4 : (Rows.rootRootsRow.named == Program.varsNamed Tryz.pinned.checked.prog 14) = true := by kernel_rfl
theorem j5 : laidOutB Tryz.pinned.checked.prog = true := by kernel_rfl
end Go.Proofs.YtdfpgoppcflpjaaGreatDoor.rootRoots
