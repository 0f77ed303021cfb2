/-
  DERIVED. GIVEN WITH THE SEED: THE CARDS: each row of YtkbglkjpdndkiaaGreatDoorRows.lean that lists a variable, with what it lists TIED to the program's text (the seventh form; the later family's looks); each row that meets fmt, with fmt's text TOLD by the authors' own Lean function (tested against real Go, not proved from fmt's source: count such statements apart). THE CARD IS WHAT COUNTS. Prove the row's statement (the work); the ties are given (YtkbglkjpdndkiaaGreatDoorTie.lean); close each card by the builder's one call (the guide's Derived/Test/ToyasCard.lean, 'card_holds'). Laid BY PROGRAM, IN A SANDBOX (cutbox-door.mjs). By AI agents, Wed Nov 11 2026. No macro, syntax, notation, axiom, sorry.
-/
import Derived.Test.YtkbglkjpdndkiaaGreatDoorRows
import GoSem.ClaimSeven
namespace Go.Proofs.YtkbglkjpdndkiaaGreatDoor
namespace Rows

/-- THE TIED CARD OF 'zigguratlaw28.PolyzHands'. -/
def polyzHandsCard : Claim7 := { stood := { row := polyzHandsRow, standIns := [], harness := (true, "cef991304c91d17f7231d896cc3aecd1c6715373f2600fa28b154f72c864e516"), looks := false }, kinds := [], alts := [], laidByText := true, laidKinds := [.data], laidTests := true, laidLooks := .later }
def PolyzHandsCardSaid : Prop := Claim7.holds Tryz.pinned (.plain (OpenSpec.ofChange polyzHandsSpec)) polyzHandsCard

/-- THE TIED CARD OF 'zigguratlaw28.PolyzValues'. -/
def polyzValuesCard : Claim7 := { stood := { row := polyzValuesRow, standIns := [], harness := (true, "cef991304c91d17f7231d896cc3aecd1c6715373f2600fa28b154f72c864e516"), looks := false }, kinds := [], alts := [], laidByText := true, laidKinds := [.data], laidTests := true, laidLooks := .later }
def PolyzValuesCardSaid : Prop := Claim7.holds Tryz.pinned (.plain (OpenSpec.ofChange polyzValuesSpec)) polyzValuesCard

/-- THE TIED CARD OF 'zigguratlaw28.PolyzOvers'. -/
def polyzOversCard : Claim7 := { stood := { row := polyzOversRow, standIns := [], harness := (true, "cef991304c91d17f7231d896cc3aecd1c6715373f2600fa28b154f72c864e516"), looks := false }, kinds := [], alts := [], laidByText := true, laidKinds := [.data], laidTests := true, laidLooks := .later }
def PolyzOversCardSaid : Prop := Claim7.holds Tryz.pinned (.plain (OpenSpec.ofChange polyzOversSpec)) polyzOversCard

/-- THE TIED CARD OF 'zigguratlaw16.RootBounds'. -/
def rootBoundsCard : Claim7 := { stood := { row := rootBoundsRow, standIns := [], harness := (true, "cef991304c91d17f7231d896cc3aecd1c6715373f2600fa28b154f72c864e516"), looks := false }, kinds := [], alts := [], laidByText := true, laidKinds := [.data], laidTests := true, laidLooks := .later }
def RootBoundsCardSaid : Prop := Claim7.holds Tryz.pinned (.plain (OpenSpec.ofChange rootBoundsSpec)) rootBoundsCard

/-- THE SECOND FORM's CARD OF 'zigguratlaw28.PolyzHands'. -/
def polyzHandsUptoCard : Claim7 := { stood := { row := polyzHandsUptoRow, standIns := [], harness := (true, "cef991304c91d17f7231d896cc3aecd1c6715373f2600fa28b154f72c864e516"), looks := false }, kinds := [], alts := [], laidByText := true, laidKinds := [.data], laidTests := true, laidLooks := .later }
def PolyzHandsUptoCardSaid : Prop := Claim7.holds Tryz.pinned (.plain (OpenSpec.upto polyzHandsSpec)) polyzHandsUptoCard

/-- THE SECOND FORM's CARD OF 'zigguratlaw28.PolyzValues'. -/
def polyzValuesUptoCard : Claim7 := { stood := { row := polyzValuesUptoRow, standIns := [], harness := (true, "cef991304c91d17f7231d896cc3aecd1c6715373f2600fa28b154f72c864e516"), looks := false }, kinds := [], alts := [], laidByText := true, laidKinds := [.data], laidTests := true, laidLooks := .later }
def PolyzValuesUptoCardSaid : Prop := Claim7.holds Tryz.pinned (.plain (OpenSpec.upto polyzValuesSpec)) polyzValuesUptoCard

/-- THE SECOND FORM's CARD OF 'zigguratlaw28.PolyzOvers'. -/
def polyzOversUptoCard : Claim7 := { stood := { row := polyzOversUptoRow, standIns := [], harness := (true, "cef991304c91d17f7231d896cc3aecd1c6715373f2600fa28b154f72c864e516"), looks := false }, kinds := [], alts := [], laidByText := true, laidKinds := [.data], laidTests := true, laidLooks := .later }
def PolyzOversUptoCardSaid : Prop := Claim7.holds Tryz.pinned (.plain (OpenSpec.upto polyzOversSpec)) polyzOversUptoCard

/-- THE SECOND FORM's CARD OF 'zigguratlaw16.RootBounds'. -/
def rootBoundsUptoCard : Claim7 := { stood := { row := rootBoundsUptoRow, standIns := [], harness := (true, "cef991304c91d17f7231d896cc3aecd1c6715373f2600fa28b154f72c864e516"), looks := false }, kinds := [], alts := [], laidByText := true, laidKinds := [.data], laidTests := true, laidLooks := .later }
def RootBoundsUptoCardSaid : Prop := Claim7.holds Tryz.pinned (.plain (OpenSpec.upto rootBoundsSpec)) rootBoundsUptoCard
end Rows
end Go.Proofs.YtkbglkjpdndkiaaGreatDoor
