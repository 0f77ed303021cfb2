/-
  DERIVED. GIVEN WITH THE SEED: THE CARDS: each row of YtnlkbdmmoplkoaaGreatDoorRows.lean that lists a variable, with what it lists TIED to the program's text (the seventh form; the later family's looks); each row that meets fmt, with fmt's text TOLD by the authors' own Lean function (tested against real Go, not proved from fmt's source: count such statements apart). THE CARD IS WHAT COUNTS. Prove the row's statement (the work); the ties are given (YtnlkbdmmoplkoaaGreatDoorTie.lean); close each card by the builder's one call (the guide's Derived/Test/ToyasCard.lean, 'card_holds'). Laid BY PROGRAM, IN A SANDBOX (cutbox-door.mjs). By AI agents, Wed Nov 11 2026. No macro, syntax, notation, axiom, sorry.
-/
import Derived.Test.YtnlkbdmmoplkoaaGreatDoorRows
import GoSem.ClaimSeven
namespace Go.Proofs.YtnlkbdmmoplkoaaGreatDoor
namespace Rows

/-- THE TIED CARD OF 'zigguratlaw19.PowerPows'. -/
def powerPowsCard : Claim7 := { stood := { row := powerPowsRow, standIns := [], harness := (true, "c7fb32289482b537a7d2414420cff358eefc5e80010bb7637385a79ecfd95664"), looks := false }, kinds := [], alts := [], laidByText := true, laidKinds := [.data], laidTests := true, laidLooks := .later }
def PowerPowsCardSaid : Prop := Claim7.holds Tryz.pinned (.plain (OpenSpec.ofChange powerPowsSpec)) powerPowsCard

/-- THE TIED CARD OF 'zigguratlaw19.PowerBits'. -/
def powerBitsCard : Claim7 := { stood := { row := powerBitsRow, standIns := [], harness := (true, "c7fb32289482b537a7d2414420cff358eefc5e80010bb7637385a79ecfd95664"), looks := false }, kinds := [], alts := [], laidByText := true, laidKinds := [.data], laidTests := true, laidLooks := .later }
def PowerBitsCardSaid : Prop := Claim7.holds Tryz.pinned (.plain (OpenSpec.ofChange powerBitsSpec)) powerBitsCard

/-- THE TIED CARD OF 'zigguratlaw19.PowerFactorials'. -/
def powerFactorialsCard : Claim7 := { stood := { row := powerFactorialsRow, standIns := [], harness := (true, "c7fb32289482b537a7d2414420cff358eefc5e80010bb7637385a79ecfd95664"), looks := false }, kinds := [], alts := [], laidByText := true, laidKinds := [.data], laidTests := true, laidLooks := .later }
def PowerFactorialsCardSaid : Prop := Claim7.holds Tryz.pinned (.plain (OpenSpec.ofChange powerFactorialsSpec)) powerFactorialsCard

/-- THE TIED CARD OF 'zigguratlaw18.NumTimes'. -/
def numTimesCard : Claim7 := { stood := { row := numTimesRow, standIns := [], harness := (true, "c7fb32289482b537a7d2414420cff358eefc5e80010bb7637385a79ecfd95664"), looks := false }, kinds := [], alts := [], laidByText := true, laidKinds := [.data], laidTests := true, laidLooks := .later }
def NumTimesCardSaid : Prop := Claim7.holds Tryz.pinned (.plain (OpenSpec.ofChange numTimesSpec)) numTimesCard

/-- THE TIED CARD OF 'zigguratlaw18.NumAll'. -/
def numAllCard : Claim7 := { stood := { row := numAllRow, standIns := [], harness := (true, "c7fb32289482b537a7d2414420cff358eefc5e80010bb7637385a79ecfd95664"), looks := false }, kinds := [], alts := [], laidByText := true, laidKinds := [.data], laidTests := true, laidLooks := .later }
def NumAllCardSaid : Prop := Claim7.holds Tryz.pinned (.plain (OpenSpec.ofChange numAllSpec)) numAllCard

/-- THE TIED CARD OF 'zigguratlaw18.NumEmbeds'. -/
def numEmbedsCard : Claim7 := { stood := { row := numEmbedsRow, standIns := [], harness := (true, "c7fb32289482b537a7d2414420cff358eefc5e80010bb7637385a79ecfd95664"), looks := false }, kinds := [], alts := [], laidByText := true, laidKinds := [.data], laidTests := true, laidLooks := .later }
def NumEmbedsCardSaid : Prop := Claim7.holds Tryz.pinned (.plain (OpenSpec.ofChange numEmbedsSpec)) numEmbedsCard

/-- THE TIED CARD OF 'zigguratlaw18.NumDivs'. -/
def numDivsCard : Claim7 := { stood := { row := numDivsRow, standIns := [], harness := (true, "c7fb32289482b537a7d2414420cff358eefc5e80010bb7637385a79ecfd95664"), looks := false }, kinds := [], alts := [], laidByText := true, laidKinds := [.data], laidTests := true, laidLooks := .later }
def NumDivsCardSaid : Prop := Claim7.holds Tryz.pinned (.plain (OpenSpec.ofChange numDivsSpec)) numDivsCard

/-- THE TIED CARD OF 'zigguratlaw18.NumSums'. -/
def numSumsCard : Claim7 := { stood := { row := numSumsRow, standIns := [], harness := (true, "c7fb32289482b537a7d2414420cff358eefc5e80010bb7637385a79ecfd95664"), looks := false }, kinds := [], alts := [], laidByText := true, laidKinds := [.data], laidTests := true, laidLooks := .later }
def NumSumsCardSaid : Prop := Claim7.holds Tryz.pinned (.plain (OpenSpec.ofChange numSumsSpec)) numSumsCard

/-- THE TIED CARD OF 'zigguratlaw18.NumEvens'. -/
def numEvensCard : Claim7 := { stood := { row := numEvensRow, standIns := [], harness := (true, "c7fb32289482b537a7d2414420cff358eefc5e80010bb7637385a79ecfd95664"), looks := false }, kinds := [], alts := [], laidByText := true, laidKinds := [.data], laidTests := true, laidLooks := .later }
def NumEvensCardSaid : Prop := Claim7.holds Tryz.pinned (.plain (OpenSpec.ofChange numEvensSpec)) numEvensCard

/-- THE TIED CARD OF 'zigguratlaw18.NumLaws'. -/
def numLawsCard : Claim7 := { stood := { row := numLawsRow, standIns := [], harness := (true, "c7fb32289482b537a7d2414420cff358eefc5e80010bb7637385a79ecfd95664"), looks := false }, kinds := [], alts := [], laidByText := true, laidKinds := [.data], laidTests := true, laidLooks := .later }
def NumLawsCardSaid : Prop := Claim7.holds Tryz.pinned (.plain (OpenSpec.ofChange numLawsSpec)) numLawsCard

/-- THE TIED CARD OF 'zigguratlaw19.PowerMods'. -/
def powerModsCard : Claim7 := { stood := { row := powerModsRow, standIns := [], harness := (true, "c7fb32289482b537a7d2414420cff358eefc5e80010bb7637385a79ecfd95664"), looks := false }, kinds := [], alts := [], laidByText := true, laidKinds := [.data], laidTests := true, laidLooks := .later }
def PowerModsCardSaid : Prop := Claim7.holds Tryz.pinned (.plain (OpenSpec.ofChange powerModsSpec)) powerModsCard

/-- THE TIED CARD OF 'zigguratlaw19.PowerLaws'. -/
def powerLawsCard : Claim7 := { stood := { row := powerLawsRow, standIns := [], harness := (true, "c7fb32289482b537a7d2414420cff358eefc5e80010bb7637385a79ecfd95664"), looks := false }, kinds := [], alts := [], laidByText := true, laidKinds := [.data], laidTests := true, laidLooks := .later }
def PowerLawsCardSaid : Prop := Claim7.holds Tryz.pinned (.plain (OpenSpec.ofChange powerLawsSpec)) powerLawsCard

/-- THE TIED CARD OF 'zigguratlaw19.PowerTables'. -/
def powerTablesCard : Claim7 := { stood := { row := powerTablesRow, standIns := [], harness := (true, "c7fb32289482b537a7d2414420cff358eefc5e80010bb7637385a79ecfd95664"), looks := false }, kinds := [], alts := [], laidByText := true, laidKinds := [.data], laidTests := true, laidLooks := .later }
def PowerTablesCardSaid : Prop := Claim7.holds Tryz.pinned (.plain (OpenSpec.ofChange powerTablesSpec)) powerTablesCard

/-- THE TIED CARD OF 'zigguratlaw17.RadixTexts'. -/
def radixTextsCard : Claim7 := { stood := { row := radixTextsRow, standIns := [], harness := (true, "c7fb32289482b537a7d2414420cff358eefc5e80010bb7637385a79ecfd95664"), looks := false }, kinds := [], alts := [], laidByText := true, laidKinds := [.data], laidTests := true, laidLooks := .later }
def RadixTextsCardSaid : Prop := Claim7.holds Tryz.pinned (.plain (OpenSpec.ofChange radixTextsSpec)) radixTextsCard

/-- THE TIED CARD OF 'zigguratlaw17.RadixParses'. -/
def radixParsesCard : Claim7 := { stood := { row := radixParsesRow, standIns := [], harness := (true, "c7fb32289482b537a7d2414420cff358eefc5e80010bb7637385a79ecfd95664"), looks := false }, kinds := [], alts := [], laidByText := true, laidKinds := [.data], laidTests := true, laidLooks := .later }
def RadixParsesCardSaid : Prop := Claim7.holds Tryz.pinned (.plain (OpenSpec.ofChange radixParsesSpec)) radixParsesCard

/-- THE TIED CARD OF 'zigguratlaw17.RadixBack'. -/
def radixBackCard : Claim7 := { stood := { row := radixBackRow, standIns := [], harness := (true, "c7fb32289482b537a7d2414420cff358eefc5e80010bb7637385a79ecfd95664"), looks := false }, kinds := [], alts := [], laidByText := true, laidKinds := [.data], laidTests := true, laidLooks := .later }
def RadixBackCardSaid : Prop := Claim7.holds Tryz.pinned (.plain (OpenSpec.ofChange radixBackSpec)) radixBackCard

/-- THE TIED CARD OF 'zigguratlaw17.RadixDigits'. -/
def radixDigitsCard : Claim7 := { stood := { row := radixDigitsRow, standIns := [], harness := (true, "c7fb32289482b537a7d2414420cff358eefc5e80010bb7637385a79ecfd95664"), looks := false }, kinds := [], alts := [], laidByText := true, laidKinds := [.data], laidTests := true, laidLooks := .later }
def RadixDigitsCardSaid : Prop := Claim7.holds Tryz.pinned (.plain (OpenSpec.ofChange radixDigitsSpec)) radixDigitsCard

/-- THE TIED CARD OF 'zigguratlaw17.RadixValues'. -/
def radixValuesCard : Claim7 := { stood := { row := radixValuesRow, standIns := [], harness := (true, "c7fb32289482b537a7d2414420cff358eefc5e80010bb7637385a79ecfd95664"), looks := false }, kinds := [], alts := [], laidByText := true, laidKinds := [.data], laidTests := true, laidLooks := .later }
def RadixValuesCardSaid : Prop := Claim7.holds Tryz.pinned (.plain (OpenSpec.ofChange radixValuesSpec)) radixValuesCard

/-- THE TIED CARD OF 'zigguratlaw17.RadixRound'. -/
def radixRoundCard : Claim7 := { stood := { row := radixRoundRow, standIns := [], harness := (true, "c7fb32289482b537a7d2414420cff358eefc5e80010bb7637385a79ecfd95664"), looks := false }, kinds := [], alts := [], laidByText := true, laidKinds := [.data], laidTests := true, laidLooks := .later }
def RadixRoundCardSaid : Prop := Claim7.holds Tryz.pinned (.plain (OpenSpec.ofChange radixRoundSpec)) radixRoundCard

/-- THE SECOND FORM's CARD OF 'zigguratlaw19.PowerPows'. -/
def powerPowsUptoCard : Claim7 := { stood := { row := powerPowsUptoRow, standIns := [], harness := (true, "c7fb32289482b537a7d2414420cff358eefc5e80010bb7637385a79ecfd95664"), looks := false }, kinds := [], alts := [], laidByText := true, laidKinds := [.data], laidTests := true, laidLooks := .later }
def PowerPowsUptoCardSaid : Prop := Claim7.holds Tryz.pinned (.plain (OpenSpec.upto powerPowsSpec)) powerPowsUptoCard

/-- THE SECOND FORM's CARD OF 'zigguratlaw19.PowerBits'. -/
def powerBitsUptoCard : Claim7 := { stood := { row := powerBitsUptoRow, standIns := [], harness := (true, "c7fb32289482b537a7d2414420cff358eefc5e80010bb7637385a79ecfd95664"), looks := false }, kinds := [], alts := [], laidByText := true, laidKinds := [.data], laidTests := true, laidLooks := .later }
def PowerBitsUptoCardSaid : Prop := Claim7.holds Tryz.pinned (.plain (OpenSpec.upto powerBitsSpec)) powerBitsUptoCard

/-- THE SECOND FORM's CARD OF 'zigguratlaw19.PowerFactorials'. -/
def powerFactorialsUptoCard : Claim7 := { stood := { row := powerFactorialsUptoRow, standIns := [], harness := (true, "c7fb32289482b537a7d2414420cff358eefc5e80010bb7637385a79ecfd95664"), looks := false }, kinds := [], alts := [], laidByText := true, laidKinds := [.data], laidTests := true, laidLooks := .later }
def PowerFactorialsUptoCardSaid : Prop := Claim7.holds Tryz.pinned (.plain (OpenSpec.upto powerFactorialsSpec)) powerFactorialsUptoCard

/-- THE SECOND FORM's CARD OF 'zigguratlaw18.NumTimes'. -/
def numTimesUptoCard : Claim7 := { stood := { row := numTimesUptoRow, standIns := [], harness := (true, "c7fb32289482b537a7d2414420cff358eefc5e80010bb7637385a79ecfd95664"), looks := false }, kinds := [], alts := [], laidByText := true, laidKinds := [.data], laidTests := true, laidLooks := .later }
def NumTimesUptoCardSaid : Prop := Claim7.holds Tryz.pinned (.plain (OpenSpec.upto numTimesSpec)) numTimesUptoCard

/-- THE SECOND FORM's CARD OF 'zigguratlaw18.NumAll'. -/
def numAllUptoCard : Claim7 := { stood := { row := numAllUptoRow, standIns := [], harness := (true, "c7fb32289482b537a7d2414420cff358eefc5e80010bb7637385a79ecfd95664"), looks := false }, kinds := [], alts := [], laidByText := true, laidKinds := [.data], laidTests := true, laidLooks := .later }
def NumAllUptoCardSaid : Prop := Claim7.holds Tryz.pinned (.plain (OpenSpec.upto numAllSpec)) numAllUptoCard

/-- THE SECOND FORM's CARD OF 'zigguratlaw18.NumEmbeds'. -/
def numEmbedsUptoCard : Claim7 := { stood := { row := numEmbedsUptoRow, standIns := [], harness := (true, "c7fb32289482b537a7d2414420cff358eefc5e80010bb7637385a79ecfd95664"), looks := false }, kinds := [], alts := [], laidByText := true, laidKinds := [.data], laidTests := true, laidLooks := .later }
def NumEmbedsUptoCardSaid : Prop := Claim7.holds Tryz.pinned (.plain (OpenSpec.upto numEmbedsSpec)) numEmbedsUptoCard

/-- THE SECOND FORM's CARD OF 'zigguratlaw18.NumDivs'. -/
def numDivsUptoCard : Claim7 := { stood := { row := numDivsUptoRow, standIns := [], harness := (true, "c7fb32289482b537a7d2414420cff358eefc5e80010bb7637385a79ecfd95664"), looks := false }, kinds := [], alts := [], laidByText := true, laidKinds := [.data], laidTests := true, laidLooks := .later }
def NumDivsUptoCardSaid : Prop := Claim7.holds Tryz.pinned (.plain (OpenSpec.upto numDivsSpec)) numDivsUptoCard

/-- THE SECOND FORM's CARD OF 'zigguratlaw18.NumSums'. -/
def numSumsUptoCard : Claim7 := { stood := { row := numSumsUptoRow, standIns := [], harness := (true, "c7fb32289482b537a7d2414420cff358eefc5e80010bb7637385a79ecfd95664"), looks := false }, kinds := [], alts := [], laidByText := true, laidKinds := [.data], laidTests := true, laidLooks := .later }
def NumSumsUptoCardSaid : Prop := Claim7.holds Tryz.pinned (.plain (OpenSpec.upto numSumsSpec)) numSumsUptoCard

/-- THE SECOND FORM's CARD OF 'zigguratlaw18.NumEvens'. -/
def numEvensUptoCard : Claim7 := { stood := { row := numEvensUptoRow, standIns := [], harness := (true, "c7fb32289482b537a7d2414420cff358eefc5e80010bb7637385a79ecfd95664"), looks := false }, kinds := [], alts := [], laidByText := true, laidKinds := [.data], laidTests := true, laidLooks := .later }
def NumEvensUptoCardSaid : Prop := Claim7.holds Tryz.pinned (.plain (OpenSpec.upto numEvensSpec)) numEvensUptoCard

/-- THE SECOND FORM's CARD OF 'zigguratlaw18.NumLaws'. -/
def numLawsUptoCard : Claim7 := { stood := { row := numLawsUptoRow, standIns := [], harness := (true, "c7fb32289482b537a7d2414420cff358eefc5e80010bb7637385a79ecfd95664"), looks := false }, kinds := [], alts := [], laidByText := true, laidKinds := [.data], laidTests := true, laidLooks := .later }
def NumLawsUptoCardSaid : Prop := Claim7.holds Tryz.pinned (.plain (OpenSpec.upto numLawsSpec)) numLawsUptoCard

/-- THE SECOND FORM's CARD OF 'zigguratlaw19.PowerMods'. -/
def powerModsUptoCard : Claim7 := { stood := { row := powerModsUptoRow, standIns := [], harness := (true, "c7fb32289482b537a7d2414420cff358eefc5e80010bb7637385a79ecfd95664"), looks := false }, kinds := [], alts := [], laidByText := true, laidKinds := [.data], laidTests := true, laidLooks := .later }
def PowerModsUptoCardSaid : Prop := Claim7.holds Tryz.pinned (.plain (OpenSpec.upto powerModsSpec)) powerModsUptoCard

/-- THE SECOND FORM's CARD OF 'zigguratlaw19.PowerLaws'. -/
def powerLawsUptoCard : Claim7 := { stood := { row := powerLawsUptoRow, standIns := [], harness := (true, "c7fb32289482b537a7d2414420cff358eefc5e80010bb7637385a79ecfd95664"), looks := false }, kinds := [], alts := [], laidByText := true, laidKinds := [.data], laidTests := true, laidLooks := .later }
def PowerLawsUptoCardSaid : Prop := Claim7.holds Tryz.pinned (.plain (OpenSpec.upto powerLawsSpec)) powerLawsUptoCard

/-- THE SECOND FORM's CARD OF 'zigguratlaw19.PowerTables'. -/
def powerTablesUptoCard : Claim7 := { stood := { row := powerTablesUptoRow, standIns := [], harness := (true, "c7fb32289482b537a7d2414420cff358eefc5e80010bb7637385a79ecfd95664"), looks := false }, kinds := [], alts := [], laidByText := true, laidKinds := [.data], laidTests := true, laidLooks := .later }
def PowerTablesUptoCardSaid : Prop := Claim7.holds Tryz.pinned (.plain (OpenSpec.upto powerTablesSpec)) powerTablesUptoCard

/-- THE SECOND FORM's CARD OF 'zigguratlaw17.RadixTexts'. -/
def radixTextsUptoCard : Claim7 := { stood := { row := radixTextsUptoRow, standIns := [], harness := (true, "c7fb32289482b537a7d2414420cff358eefc5e80010bb7637385a79ecfd95664"), looks := false }, kinds := [], alts := [], laidByText := true, laidKinds := [.data], laidTests := true, laidLooks := .later }
def RadixTextsUptoCardSaid : Prop := Claim7.holds Tryz.pinned (.plain (OpenSpec.upto radixTextsSpec)) radixTextsUptoCard

/-- THE SECOND FORM's CARD OF 'zigguratlaw17.RadixParses'. -/
def radixParsesUptoCard : Claim7 := { stood := { row := radixParsesUptoRow, standIns := [], harness := (true, "c7fb32289482b537a7d2414420cff358eefc5e80010bb7637385a79ecfd95664"), looks := false }, kinds := [], alts := [], laidByText := true, laidKinds := [.data], laidTests := true, laidLooks := .later }
def RadixParsesUptoCardSaid : Prop := Claim7.holds Tryz.pinned (.plain (OpenSpec.upto radixParsesSpec)) radixParsesUptoCard

/-- THE SECOND FORM's CARD OF 'zigguratlaw17.RadixBack'. -/
def radixBackUptoCard : Claim7 := { stood := { row := radixBackUptoRow, standIns := [], harness := (true, "c7fb32289482b537a7d2414420cff358eefc5e80010bb7637385a79ecfd95664"), looks := false }, kinds := [], alts := [], laidByText := true, laidKinds := [.data], laidTests := true, laidLooks := .later }
def RadixBackUptoCardSaid : Prop := Claim7.holds Tryz.pinned (.plain (OpenSpec.upto radixBackSpec)) radixBackUptoCard

/-- THE SECOND FORM's CARD OF 'zigguratlaw17.RadixDigits'. -/
def radixDigitsUptoCard : Claim7 := { stood := { row := radixDigitsUptoRow, standIns := [], harness := (true, "c7fb32289482b537a7d2414420cff358eefc5e80010bb7637385a79ecfd95664"), looks := false }, kinds := [], alts := [], laidByText := true, laidKinds := [.data], laidTests := true, laidLooks := .later }
def RadixDigitsUptoCardSaid : Prop := Claim7.holds Tryz.pinned (.plain (OpenSpec.upto radixDigitsSpec)) radixDigitsUptoCard

/-- THE SECOND FORM's CARD OF 'zigguratlaw17.RadixValues'. -/
def radixValuesUptoCard : Claim7 := { stood := { row := radixValuesUptoRow, standIns := [], harness := (true, "c7fb32289482b537a7d2414420cff358eefc5e80010bb7637385a79ecfd95664"), looks := false }, kinds := [], alts := [], laidByText := true, laidKinds := [.data], laidTests := true, laidLooks := .later }
def RadixValuesUptoCardSaid : Prop := Claim7.holds Tryz.pinned (.plain (OpenSpec.upto radixValuesSpec)) radixValuesUptoCard

/-- THE SECOND FORM's CARD OF 'zigguratlaw17.RadixRound'. -/
def radixRoundUptoCard : Claim7 := { stood := { row := radixRoundUptoRow, standIns := [], harness := (true, "c7fb32289482b537a7d2414420cff358eefc5e80010bb7637385a79ecfd95664"), looks := false }, kinds := [], alts := [], laidByText := true, laidKinds := [.data], laidTests := true, laidLooks := .later }
def RadixRoundUptoCardSaid : Prop := Claim7.holds Tryz.pinned (.plain (OpenSpec.upto radixRoundSpec)) radixRoundUptoCard
end Rows
end Go.Proofs.YtnlkbdmmoplkoaaGreatDoor
