/-
  DERIVED. GIVEN WITH THE SEED: THE CARDS: each row of YtnmnkocibjdhjaaGreatDoorRows.lean that lists a variable, with what it lists TIED to the program's text (the seventh form; the later family's looks); each row that meets fmt, with fmt's text TOLD by the authors' own Lean function (tested against real Go, not proved from fmt's source: count such statements apart). THE CARD IS WHAT COUNTS. Prove the row's statement (the work); the ties are given (YtnmnkocibjdhjaaGreatDoorTie.lean); close each card by the builder's one call (the guide's Derived/Test/ToyasCard.lean, 'card_holds'). Laid BY PROGRAM, IN A SANDBOX (cutbox-door.mjs). By AI agents, Wed Nov 11 2026. No macro, syntax, notation, axiom, sorry.
-/
import Derived.Test.YtnmnkocibjdhjaaGreatDoorRows
import GoSem.ClaimSeven
namespace Go.Proofs.YtnmnkocibjdhjaaGreatDoor
namespace Rows

/-- THE TIED CARD OF 'zigguratlaw28.PolyzHands'. -/
def polyzHandsCard : Claim7 := { stood := { row := polyzHandsRow, standIns := [], harness := (true, "5c9c01a3fc2c1fcb41c8aa53dbd63ca05b3159cc4b53ba3c27ee002c5ab704f3"), looks := false }, kinds := [], alts := [], laidByText := true, laidKinds := [.data], laidTests := true, laidLooks := .later }
def PolyzHandsCardSaid : Prop := Claim7.holds Tryz.pinned (.plain (OpenSpec.ofChange polyzHandsSpec)) polyzHandsCard

/-- THE TIED CARD OF 'zigguratlaw28.PolyzValues'. -/
def polyzValuesCard : Claim7 := { stood := { row := polyzValuesRow, standIns := [], harness := (true, "5c9c01a3fc2c1fcb41c8aa53dbd63ca05b3159cc4b53ba3c27ee002c5ab704f3"), looks := false }, kinds := [], alts := [], laidByText := true, laidKinds := [.data], laidTests := true, laidLooks := .later }
def PolyzValuesCardSaid : Prop := Claim7.holds Tryz.pinned (.plain (OpenSpec.ofChange polyzValuesSpec)) polyzValuesCard

/-- THE TIED CARD OF 'zigguratlaw13.DivsBack'. -/
def divsBackCard : Claim7 := { stood := { row := divsBackRow, standIns := [], harness := (true, "5c9c01a3fc2c1fcb41c8aa53dbd63ca05b3159cc4b53ba3c27ee002c5ab704f3"), looks := false }, kinds := [], alts := [], laidByText := true, laidKinds := [.data], laidTests := true, laidLooks := .later }
def DivsBackCardSaid : Prop := Claim7.holds Tryz.pinned (.plain (OpenSpec.ofChange divsBackSpec)) divsBackCard

/-- THE TIED CARD OF 'zigguratlaw28.PolyzOvers'. -/
def polyzOversCard : Claim7 := { stood := { row := polyzOversRow, standIns := [], harness := (true, "5c9c01a3fc2c1fcb41c8aa53dbd63ca05b3159cc4b53ba3c27ee002c5ab704f3"), looks := false }, kinds := [], alts := [], laidByText := true, laidKinds := [.data], laidTests := true, laidLooks := .later }
def PolyzOversCardSaid : Prop := Claim7.holds Tryz.pinned (.plain (OpenSpec.ofChange polyzOversSpec)) polyzOversCard

/-- THE SECOND FORM's CARD OF 'zigguratlaw28.PolyzHands'. -/
def polyzHandsUptoCard : Claim7 := { stood := { row := polyzHandsUptoRow, standIns := [], harness := (true, "5c9c01a3fc2c1fcb41c8aa53dbd63ca05b3159cc4b53ba3c27ee002c5ab704f3"), looks := false }, kinds := [], alts := [], laidByText := true, laidKinds := [.data], laidTests := true, laidLooks := .later }
def PolyzHandsUptoCardSaid : Prop := Claim7.holds Tryz.pinned (.plain (OpenSpec.upto polyzHandsSpec)) polyzHandsUptoCard

/-- THE SECOND FORM's CARD OF 'zigguratlaw28.PolyzValues'. -/
def polyzValuesUptoCard : Claim7 := { stood := { row := polyzValuesUptoRow, standIns := [], harness := (true, "5c9c01a3fc2c1fcb41c8aa53dbd63ca05b3159cc4b53ba3c27ee002c5ab704f3"), looks := false }, kinds := [], alts := [], laidByText := true, laidKinds := [.data], laidTests := true, laidLooks := .later }
def PolyzValuesUptoCardSaid : Prop := Claim7.holds Tryz.pinned (.plain (OpenSpec.upto polyzValuesSpec)) polyzValuesUptoCard

/-- THE SECOND FORM's CARD OF 'zigguratlaw13.DivsBack'. -/
def divsBackUptoCard : Claim7 := { stood := { row := divsBackUptoRow, standIns := [], harness := (true, "5c9c01a3fc2c1fcb41c8aa53dbd63ca05b3159cc4b53ba3c27ee002c5ab704f3"), looks := false }, kinds := [], alts := [], laidByText := true, laidKinds := [.data], laidTests := true, laidLooks := .later }
def DivsBackUptoCardSaid : Prop := Claim7.holds Tryz.pinned (.plain (OpenSpec.upto divsBackSpec)) divsBackUptoCard

/-- THE SECOND FORM's CARD OF 'zigguratlaw28.PolyzOvers'. -/
def polyzOversUptoCard : Claim7 := { stood := { row := polyzOversUptoRow, standIns := [], harness := (true, "5c9c01a3fc2c1fcb41c8aa53dbd63ca05b3159cc4b53ba3c27ee002c5ab704f3"), looks := false }, kinds := [], alts := [], laidByText := true, laidKinds := [.data], laidTests := true, laidLooks := .later }
def PolyzOversUptoCardSaid : Prop := Claim7.holds Tryz.pinned (.plain (OpenSpec.upto polyzOversSpec)) polyzOversUptoCard
end Rows
end Go.Proofs.YtnmnkocibjdhjaaGreatDoor
