/- Facts of the program that the card of PowerTables asks for, one part. -/
import Derived.Test.YtnlkbdmmoplkoaaGreatDoorRows
import Derived.Test.YtnlkbdmmoplkoaaGreatDoorCards
import Derived.Stop.Joined
import Derived.ProofKit
namespace Go.Proofs.YtnlkbdmmoplkoaaGreatDoor.powerTables
open Go.ChangeShapes Go.WideShapes Go.ChangeAt Go.WideElems Go.RowKit
theorem j8 : false = OpenClaim.goesBy Rows.powerTablesRow Tryz.pinned.checked.prog := by kernel_rfl
end Go.Proofs.YtnlkbdmmoplkoaaGreatDoor.powerTables
