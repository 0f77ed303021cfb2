/-
  DERIVED. GIVEN WITH THE SEED: THE CARDS: each row of YtkbglkjpdndkiaaDoorRows.lean that lists a variable, with what it lists TIED to the program's text (the seventh form; the later family's looks); each row that meets fmt, with fmt's text TOLD by the authors' own Lean function (tested against real Go, not proved from fmt's source: count such statements apart). THE CARD IS WHAT COUNTS. Prove the row's statement (the work); the ties are given (YtkbglkjpdndkiaaDoorTie.lean); close each card by the builder's one call (the guide's Derived/Test/ToyasCard.lean, 'card_holds'). Laid BY PROGRAM, IN A SANDBOX (cutbox-door.mjs). By AI agents, Wed Nov 11 2026. No macro, syntax, notation, axiom, sorry.
-/
import Derived.Test.YtkbglkjpdndkiaaDoorRows
import GoSem.ClaimSeven
namespace Go.Proofs.YtkbglkjpdndkiaaDoor
namespace Rows

/-- THE TIED CARD OF 'zigguratlaw23.PolypNews'. -/
def polypNewsCard : Claim7 := { stood := { row := polypNewsRow, standIns := [], harness := (true, "af14f83de69b140dac7eb8c5b053a248f1e102b0f35554db1c8c6923d26876c7"), looks := false }, kinds := [], alts := [], laidByText := true, laidKinds := [.data], laidTests := true, laidLooks := .later }
def PolypNewsCardSaid : Prop := Claim7.holds Tryd.pinned (.plain (OpenSpec.ofChange polypNewsSpec)) polypNewsCard

/-- THE TIED CARD OF 'zigguratlaw23.PolypShifts'. -/
def polypShiftsCard : Claim7 := { stood := { row := polypShiftsRow, standIns := [], harness := (true, "af14f83de69b140dac7eb8c5b053a248f1e102b0f35554db1c8c6923d26876c7"), looks := false }, kinds := [], alts := [], laidByText := true, laidKinds := [.data], laidTests := true, laidLooks := .later }
def PolypShiftsCardSaid : Prop := Claim7.holds Tryd.pinned (.plain (OpenSpec.ofChange polypShiftsSpec)) polypShiftsCard

/-- THE TIED CARD OF 'zigguratlaw23.PolypTimes'. -/
def polypTimesCard : Claim7 := { stood := { row := polypTimesRow, standIns := [], harness := (true, "af14f83de69b140dac7eb8c5b053a248f1e102b0f35554db1c8c6923d26876c7"), looks := false }, kinds := [], alts := [], laidByText := true, laidKinds := [.data], laidTests := true, laidLooks := .later }
def PolypTimesCardSaid : Prop := Claim7.holds Tryd.pinned (.plain (OpenSpec.ofChange polypTimesSpec)) polypTimesCard

/-- THE TIED CARD OF 'zigguratlaw23.PolypValues'. -/
def polypValuesCard : Claim7 := { stood := { row := polypValuesRow, standIns := [], harness := (true, "af14f83de69b140dac7eb8c5b053a248f1e102b0f35554db1c8c6923d26876c7"), looks := false }, kinds := [], alts := [], laidByText := true, laidKinds := [.data], laidTests := true, laidLooks := .later }
def PolypValuesCardSaid : Prop := Claim7.holds Tryd.pinned (.plain (OpenSpec.ofChange polypValuesSpec)) polypValuesCard

/-- THE TIED CARD OF 'zigguratlaw23.PolypSums'. -/
def polypSumsCard : Claim7 := { stood := { row := polypSumsRow, standIns := [], harness := (true, "af14f83de69b140dac7eb8c5b053a248f1e102b0f35554db1c8c6923d26876c7"), looks := false }, kinds := [], alts := [], laidByText := true, laidKinds := [.data], laidTests := true, laidLooks := .later }
def PolypSumsCardSaid : Prop := Claim7.holds Tryd.pinned (.plain (OpenSpec.ofChange polypSumsSpec)) polypSumsCard

/-- THE TIED CARD OF 'zigguratlaw23.PolypLaws'. -/
def polypLawsCard : Claim7 := { stood := { row := polypLawsRow, standIns := [], harness := (true, "af14f83de69b140dac7eb8c5b053a248f1e102b0f35554db1c8c6923d26876c7"), looks := false }, kinds := [], alts := [], laidByText := true, laidKinds := [.data], laidTests := true, laidLooks := .later }
def PolypLawsCardSaid : Prop := Claim7.holds Tryd.pinned (.plain (OpenSpec.ofChange polypLawsSpec)) polypLawsCard

/-- THE SECOND FORM's CARD OF 'zigguratlaw23.PolypNews'. -/
def polypNewsUptoCard : Claim7 := { stood := { row := polypNewsUptoRow, standIns := [], harness := (true, "af14f83de69b140dac7eb8c5b053a248f1e102b0f35554db1c8c6923d26876c7"), looks := false }, kinds := [], alts := [], laidByText := true, laidKinds := [.data], laidTests := true, laidLooks := .later }
def PolypNewsUptoCardSaid : Prop := Claim7.holds Tryd.pinned (.plain (OpenSpec.upto polypNewsSpec)) polypNewsUptoCard

/-- THE SECOND FORM's CARD OF 'zigguratlaw23.PolypShifts'. -/
def polypShiftsUptoCard : Claim7 := { stood := { row := polypShiftsUptoRow, standIns := [], harness := (true, "af14f83de69b140dac7eb8c5b053a248f1e102b0f35554db1c8c6923d26876c7"), looks := false }, kinds := [], alts := [], laidByText := true, laidKinds := [.data], laidTests := true, laidLooks := .later }
def PolypShiftsUptoCardSaid : Prop := Claim7.holds Tryd.pinned (.plain (OpenSpec.upto polypShiftsSpec)) polypShiftsUptoCard

/-- THE SECOND FORM's CARD OF 'zigguratlaw23.PolypTimes'. -/
def polypTimesUptoCard : Claim7 := { stood := { row := polypTimesUptoRow, standIns := [], harness := (true, "af14f83de69b140dac7eb8c5b053a248f1e102b0f35554db1c8c6923d26876c7"), looks := false }, kinds := [], alts := [], laidByText := true, laidKinds := [.data], laidTests := true, laidLooks := .later }
def PolypTimesUptoCardSaid : Prop := Claim7.holds Tryd.pinned (.plain (OpenSpec.upto polypTimesSpec)) polypTimesUptoCard

/-- THE SECOND FORM's CARD OF 'zigguratlaw23.PolypValues'. -/
def polypValuesUptoCard : Claim7 := { stood := { row := polypValuesUptoRow, standIns := [], harness := (true, "af14f83de69b140dac7eb8c5b053a248f1e102b0f35554db1c8c6923d26876c7"), looks := false }, kinds := [], alts := [], laidByText := true, laidKinds := [.data], laidTests := true, laidLooks := .later }
def PolypValuesUptoCardSaid : Prop := Claim7.holds Tryd.pinned (.plain (OpenSpec.upto polypValuesSpec)) polypValuesUptoCard

/-- THE SECOND FORM's CARD OF 'zigguratlaw23.PolypSums'. -/
def polypSumsUptoCard : Claim7 := { stood := { row := polypSumsUptoRow, standIns := [], harness := (true, "af14f83de69b140dac7eb8c5b053a248f1e102b0f35554db1c8c6923d26876c7"), looks := false }, kinds := [], alts := [], laidByText := true, laidKinds := [.data], laidTests := true, laidLooks := .later }
def PolypSumsUptoCardSaid : Prop := Claim7.holds Tryd.pinned (.plain (OpenSpec.upto polypSumsSpec)) polypSumsUptoCard

/-- THE SECOND FORM's CARD OF 'zigguratlaw23.PolypLaws'. -/
def polypLawsUptoCard : Claim7 := { stood := { row := polypLawsUptoRow, standIns := [], harness := (true, "af14f83de69b140dac7eb8c5b053a248f1e102b0f35554db1c8c6923d26876c7"), looks := false }, kinds := [], alts := [], laidByText := true, laidKinds := [.data], laidTests := true, laidLooks := .later }
def PolypLawsUptoCardSaid : Prop := Claim7.holds Tryd.pinned (.plain (OpenSpec.upto polypLawsSpec)) polypLawsUptoCard
end Rows
end Go.Proofs.YtkbglkjpdndkiaaDoor
