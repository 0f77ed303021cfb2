/- Facts of the program that the card of RadixBack asks for, one part. -/
import Derived.Test.YtnlkbdmmoplkoaaGreatDoorRows
import Derived.Test.YtnlkbdmmoplkoaaGreatDoorCards
import Derived.Stop.Joined
import Derived.ProofKit
namespace Go.Proofs.YtnlkbdmmoplkoaaGreatDoor.radixBack
open Go.ChangeShapes Go.WideShapes Go.ChangeAt Go.WideElems Go.RowKit
theorem j10 : Tryz.pinned.checked.prog.mainIs = some (((true, "c7fb32289482b537a7d2414420cff358eefc5e80010bb7637385a79ecfd95664") : Bool × String).1, ((true, "c7fb32289482b537a7d2414420cff358eefc5e80010bb7637385a79ecfd95664") : Bool × String).2.toList) := by kernel_rfl
theorem j11 : false = Program.looks Tryz.pinned.checked.prog [] := by kernel_rfl
end Go.Proofs.YtnlkbdmmoplkoaaGreatDoor.radixBack
