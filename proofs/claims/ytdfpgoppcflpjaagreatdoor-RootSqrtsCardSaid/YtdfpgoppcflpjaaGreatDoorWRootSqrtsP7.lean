/- Facts of the program that the card of RootSqrts asks for, one part. -/
import Derived.Test.YtdfpgoppcflpjaaGreatDoorRows
import Derived.Test.YtdfpgoppcflpjaaGreatDoorCards
import Derived.Stop.Joined
import Derived.ProofKit
namespace Go.Proofs.YtdfpgoppcflpjaaGreatDoor.rootSqrts
open Go.ChangeShapes Go.WideShapes Go.ChangeAt Go.WideElems Go.RowKit
theorem j9 : (Program.make Tryz.pinned.checked.prog == some Rows.rootSqrtsRow.make) = true := by kernel_rfl
end Go.Proofs.YtdfpgoppcflpjaaGreatDoor.rootSqrts
