/-
  DERIVED. GIVEN WITH THE SEED: THE CARDS: each row of YtdfpgoppcflpjaaGreatDoorRows.lean that lists a variable, with what it lists TIED to the program's text (the seventh form; the later family's looks); each row that meets fmt, with fmt's text TOLD by the authors' own Lean function (tested against real Go, not proved from fmt's source: count such statements apart). THE CARD IS WHAT COUNTS. Prove the row's statement (the work); the ties are given (YtdfpgoppcflpjaaGreatDoorTie.lean); close each card by the builder's one call (the guide's Derived/Test/ToyasCard.lean, 'card_holds'). Laid BY PROGRAM, IN A SANDBOX (cutbox-door.mjs). By AI agents, Wed Nov 11 2026. No macro, syntax, notation, axiom, sorry.
-/
import Derived.Test.YtdfpgoppcflpjaaGreatDoorRows
import GoSem.ClaimSeven
namespace Go.Proofs.YtdfpgoppcflpjaaGreatDoor
namespace Rows

/-- THE TIED CARD OF 'zigguratlaw14.RecipRecips'. -/
def recipRecipsCard : Claim7 := { stood := { row := recipRecipsRow, standIns := [], harness := (true, "f33e0fee195ba2c27d1eb72ff0e368270e998ed717819186719ea89ce6d4b572"), looks := false }, kinds := [], alts := [], laidByText := true, laidKinds := [.data], laidTests := true, laidLooks := .later }
def RecipRecipsCardSaid : Prop := Claim7.holds Tryz.pinned (.plain (OpenSpec.ofChange recipRecipsSpec)) recipRecipsCard

/-- THE TIED CARD OF 'zigguratlaw14.RecipBounds'. -/
def recipBoundsCard : Claim7 := { stood := { row := recipBoundsRow, standIns := [], harness := (true, "f33e0fee195ba2c27d1eb72ff0e368270e998ed717819186719ea89ce6d4b572"), looks := false }, kinds := [], alts := [], laidByText := true, laidKinds := [.data], laidTests := true, laidLooks := .later }
def RecipBoundsCardSaid : Prop := Claim7.holds Tryz.pinned (.plain (OpenSpec.ofChange recipBoundsSpec)) recipBoundsCard

/-- THE TIED CARD OF 'zigguratlaw14.RecipTables'. -/
def recipTablesCard : Claim7 := { stood := { row := recipTablesRow, standIns := [], harness := (true, "f33e0fee195ba2c27d1eb72ff0e368270e998ed717819186719ea89ce6d4b572"), looks := false }, kinds := [], alts := [], laidByText := true, laidKinds := [.data], laidTests := true, laidLooks := .later }
def RecipTablesCardSaid : Prop := Claim7.holds Tryz.pinned (.plain (OpenSpec.ofChange recipTablesSpec)) recipTablesCard

/-- THE TIED CARD OF 'zigguratlaw14.RecipBys'. -/
def recipBysCard : Claim7 := { stood := { row := recipBysRow, standIns := [], harness := (true, "f33e0fee195ba2c27d1eb72ff0e368270e998ed717819186719ea89ce6d4b572"), looks := false }, kinds := [], alts := [], laidByText := true, laidKinds := [.data], laidTests := true, laidLooks := .later }
def RecipBysCardSaid : Prop := Claim7.holds Tryz.pinned (.plain (OpenSpec.ofChange recipBysSpec)) recipBysCard

/-- THE TIED CARD OF 'zigguratlaw15.DivTables'. -/
def divTablesCard : Claim7 := { stood := { row := divTablesRow, standIns := [], harness := (true, "f33e0fee195ba2c27d1eb72ff0e368270e998ed717819186719ea89ce6d4b572"), looks := false }, kinds := [], alts := [], laidByText := true, laidKinds := [.data], laidTests := true, laidLooks := .later }
def DivTablesCardSaid : Prop := Claim7.holds Tryz.pinned (.plain (OpenSpec.ofChange divTablesSpec)) divTablesCard

/-- THE TIED CARD OF 'zigguratlaw15.DivMods'. -/
def divModsCard : Claim7 := { stood := { row := divModsRow, standIns := [], harness := (true, "f33e0fee195ba2c27d1eb72ff0e368270e998ed717819186719ea89ce6d4b572"), looks := false }, kinds := [], alts := [], laidByText := true, laidKinds := [.data], laidTests := true, laidLooks := .later }
def DivModsCardSaid : Prop := Claim7.holds Tryz.pinned (.plain (OpenSpec.ofChange divModsSpec)) divModsCard

/-- THE TIED CARD OF 'zigguratlaw15.DivExacts'. -/
def divExactsCard : Claim7 := { stood := { row := divExactsRow, standIns := [], harness := (true, "f33e0fee195ba2c27d1eb72ff0e368270e998ed717819186719ea89ce6d4b572"), looks := false }, kinds := [], alts := [], laidByText := true, laidKinds := [.data], laidTests := true, laidLooks := .later }
def DivExactsCardSaid : Prop := Claim7.holds Tryz.pinned (.plain (OpenSpec.ofChange divExactsSpec)) divExactsCard

/-- THE TIED CARD OF 'zigguratlaw15.DivBack'. -/
def divBackCard : Claim7 := { stood := { row := divBackRow, standIns := [], harness := (true, "f33e0fee195ba2c27d1eb72ff0e368270e998ed717819186719ea89ce6d4b572"), looks := false }, kinds := [], alts := [], laidByText := true, laidKinds := [.data], laidTests := true, laidLooks := .later }
def DivBackCardSaid : Prop := Claim7.holds Tryz.pinned (.plain (OpenSpec.ofChange divBackSpec)) divBackCard

/-- THE TIED CARD OF 'zigguratlaw15.DivWays'. -/
def divWaysCard : Claim7 := { stood := { row := divWaysRow, standIns := [], harness := (true, "f33e0fee195ba2c27d1eb72ff0e368270e998ed717819186719ea89ce6d4b572"), looks := false }, kinds := [], alts := [], laidByText := true, laidKinds := [.data], laidTests := true, laidLooks := .later }
def DivWaysCardSaid : Prop := Claim7.holds Tryz.pinned (.plain (OpenSpec.ofChange divWaysSpec)) divWaysCard

/-- THE TIED CARD OF 'zigguratlaw15.DivTrees'. -/
def divTreesCard : Claim7 := { stood := { row := divTreesRow, standIns := [], harness := (true, "f33e0fee195ba2c27d1eb72ff0e368270e998ed717819186719ea89ce6d4b572"), looks := false }, kinds := [], alts := [], laidByText := true, laidKinds := [.data], laidTests := true, laidLooks := .later }
def DivTreesCardSaid : Prop := Claim7.holds Tryz.pinned (.plain (OpenSpec.ofChange divTreesSpec)) divTreesCard

/-- THE TIED CARD OF 'zigguratlaw16.RootSqrts'. -/
def rootSqrtsCard : Claim7 := { stood := { row := rootSqrtsRow, standIns := [], harness := (true, "f33e0fee195ba2c27d1eb72ff0e368270e998ed717819186719ea89ce6d4b572"), looks := false }, kinds := [], alts := [], laidByText := true, laidKinds := [.data], laidTests := true, laidLooks := .later }
def RootSqrtsCardSaid : Prop := Claim7.holds Tryz.pinned (.plain (OpenSpec.ofChange rootSqrtsSpec)) rootSqrtsCard

/-- THE TIED CARD OF 'zigguratlaw16.RootRoots'. -/
def rootRootsCard : Claim7 := { stood := { row := rootRootsRow, standIns := [], harness := (true, "f33e0fee195ba2c27d1eb72ff0e368270e998ed717819186719ea89ce6d4b572"), looks := false }, kinds := [], alts := [], laidByText := true, laidKinds := [.data], laidTests := true, laidLooks := .later }
def RootRootsCardSaid : Prop := Claim7.holds Tryz.pinned (.plain (OpenSpec.ofChange rootRootsSpec)) rootRootsCard

/-- THE TIED CARD OF 'zigguratlaw16.RootBounds'. -/
def rootBoundsCard : Claim7 := { stood := { row := rootBoundsRow, standIns := [], harness := (true, "f33e0fee195ba2c27d1eb72ff0e368270e998ed717819186719ea89ce6d4b572"), looks := false }, kinds := [], alts := [], laidByText := true, laidKinds := [.data], laidTests := true, laidLooks := .later }
def RootBoundsCardSaid : Prop := Claim7.holds Tryz.pinned (.plain (OpenSpec.ofChange rootBoundsSpec)) rootBoundsCard

/-- THE TIED CARD OF 'zigguratlaw16.RootTables'. -/
def rootTablesCard : Claim7 := { stood := { row := rootTablesRow, standIns := [], harness := (true, "f33e0fee195ba2c27d1eb72ff0e368270e998ed717819186719ea89ce6d4b572"), looks := false }, kinds := [], alts := [], laidByText := true, laidKinds := [.data], laidTests := true, laidLooks := .later }
def RootTablesCardSaid : Prop := Claim7.holds Tryz.pinned (.plain (OpenSpec.ofChange rootTablesSpec)) rootTablesCard

/-- THE TIED CARD OF 'zigguratlaw16.RootSquares'. -/
def rootSquaresCard : Claim7 := { stood := { row := rootSquaresRow, standIns := [], harness := (true, "f33e0fee195ba2c27d1eb72ff0e368270e998ed717819186719ea89ce6d4b572"), looks := false }, kinds := [], alts := [], laidByText := true, laidKinds := [.data], laidTests := true, laidLooks := .later }
def RootSquaresCardSaid : Prop := Claim7.holds Tryz.pinned (.plain (OpenSpec.ofChange rootSquaresSpec)) rootSquaresCard

/-- THE SECOND FORM's CARD OF 'zigguratlaw14.RecipRecips'. -/
def recipRecipsUptoCard : Claim7 := { stood := { row := recipRecipsUptoRow, standIns := [], harness := (true, "f33e0fee195ba2c27d1eb72ff0e368270e998ed717819186719ea89ce6d4b572"), looks := false }, kinds := [], alts := [], laidByText := true, laidKinds := [.data], laidTests := true, laidLooks := .later }
def RecipRecipsUptoCardSaid : Prop := Claim7.holds Tryz.pinned (.plain (OpenSpec.upto recipRecipsSpec)) recipRecipsUptoCard

/-- THE SECOND FORM's CARD OF 'zigguratlaw14.RecipBounds'. -/
def recipBoundsUptoCard : Claim7 := { stood := { row := recipBoundsUptoRow, standIns := [], harness := (true, "f33e0fee195ba2c27d1eb72ff0e368270e998ed717819186719ea89ce6d4b572"), looks := false }, kinds := [], alts := [], laidByText := true, laidKinds := [.data], laidTests := true, laidLooks := .later }
def RecipBoundsUptoCardSaid : Prop := Claim7.holds Tryz.pinned (.plain (OpenSpec.upto recipBoundsSpec)) recipBoundsUptoCard

/-- THE SECOND FORM's CARD OF 'zigguratlaw14.RecipTables'. -/
def recipTablesUptoCard : Claim7 := { stood := { row := recipTablesUptoRow, standIns := [], harness := (true, "f33e0fee195ba2c27d1eb72ff0e368270e998ed717819186719ea89ce6d4b572"), looks := false }, kinds := [], alts := [], laidByText := true, laidKinds := [.data], laidTests := true, laidLooks := .later }
def RecipTablesUptoCardSaid : Prop := Claim7.holds Tryz.pinned (.plain (OpenSpec.upto recipTablesSpec)) recipTablesUptoCard

/-- THE SECOND FORM's CARD OF 'zigguratlaw14.RecipBys'. -/
def recipBysUptoCard : Claim7 := { stood := { row := recipBysUptoRow, standIns := [], harness := (true, "f33e0fee195ba2c27d1eb72ff0e368270e998ed717819186719ea89ce6d4b572"), looks := false }, kinds := [], alts := [], laidByText := true, laidKinds := [.data], laidTests := true, laidLooks := .later }
def RecipBysUptoCardSaid : Prop := Claim7.holds Tryz.pinned (.plain (OpenSpec.upto recipBysSpec)) recipBysUptoCard

/-- THE SECOND FORM's CARD OF 'zigguratlaw15.DivTables'. -/
def divTablesUptoCard : Claim7 := { stood := { row := divTablesUptoRow, standIns := [], harness := (true, "f33e0fee195ba2c27d1eb72ff0e368270e998ed717819186719ea89ce6d4b572"), looks := false }, kinds := [], alts := [], laidByText := true, laidKinds := [.data], laidTests := true, laidLooks := .later }
def DivTablesUptoCardSaid : Prop := Claim7.holds Tryz.pinned (.plain (OpenSpec.upto divTablesSpec)) divTablesUptoCard

/-- THE SECOND FORM's CARD OF 'zigguratlaw15.DivMods'. -/
def divModsUptoCard : Claim7 := { stood := { row := divModsUptoRow, standIns := [], harness := (true, "f33e0fee195ba2c27d1eb72ff0e368270e998ed717819186719ea89ce6d4b572"), looks := false }, kinds := [], alts := [], laidByText := true, laidKinds := [.data], laidTests := true, laidLooks := .later }
def DivModsUptoCardSaid : Prop := Claim7.holds Tryz.pinned (.plain (OpenSpec.upto divModsSpec)) divModsUptoCard

/-- THE SECOND FORM's CARD OF 'zigguratlaw15.DivExacts'. -/
def divExactsUptoCard : Claim7 := { stood := { row := divExactsUptoRow, standIns := [], harness := (true, "f33e0fee195ba2c27d1eb72ff0e368270e998ed717819186719ea89ce6d4b572"), looks := false }, kinds := [], alts := [], laidByText := true, laidKinds := [.data], laidTests := true, laidLooks := .later }
def DivExactsUptoCardSaid : Prop := Claim7.holds Tryz.pinned (.plain (OpenSpec.upto divExactsSpec)) divExactsUptoCard

/-- THE SECOND FORM's CARD OF 'zigguratlaw15.DivBack'. -/
def divBackUptoCard : Claim7 := { stood := { row := divBackUptoRow, standIns := [], harness := (true, "f33e0fee195ba2c27d1eb72ff0e368270e998ed717819186719ea89ce6d4b572"), looks := false }, kinds := [], alts := [], laidByText := true, laidKinds := [.data], laidTests := true, laidLooks := .later }
def DivBackUptoCardSaid : Prop := Claim7.holds Tryz.pinned (.plain (OpenSpec.upto divBackSpec)) divBackUptoCard

/-- THE SECOND FORM's CARD OF 'zigguratlaw15.DivWays'. -/
def divWaysUptoCard : Claim7 := { stood := { row := divWaysUptoRow, standIns := [], harness := (true, "f33e0fee195ba2c27d1eb72ff0e368270e998ed717819186719ea89ce6d4b572"), looks := false }, kinds := [], alts := [], laidByText := true, laidKinds := [.data], laidTests := true, laidLooks := .later }
def DivWaysUptoCardSaid : Prop := Claim7.holds Tryz.pinned (.plain (OpenSpec.upto divWaysSpec)) divWaysUptoCard

/-- THE SECOND FORM's CARD OF 'zigguratlaw15.DivTrees'. -/
def divTreesUptoCard : Claim7 := { stood := { row := divTreesUptoRow, standIns := [], harness := (true, "f33e0fee195ba2c27d1eb72ff0e368270e998ed717819186719ea89ce6d4b572"), looks := false }, kinds := [], alts := [], laidByText := true, laidKinds := [.data], laidTests := true, laidLooks := .later }
def DivTreesUptoCardSaid : Prop := Claim7.holds Tryz.pinned (.plain (OpenSpec.upto divTreesSpec)) divTreesUptoCard

/-- THE SECOND FORM's CARD OF 'zigguratlaw16.RootSqrts'. -/
def rootSqrtsUptoCard : Claim7 := { stood := { row := rootSqrtsUptoRow, standIns := [], harness := (true, "f33e0fee195ba2c27d1eb72ff0e368270e998ed717819186719ea89ce6d4b572"), looks := false }, kinds := [], alts := [], laidByText := true, laidKinds := [.data], laidTests := true, laidLooks := .later }
def RootSqrtsUptoCardSaid : Prop := Claim7.holds Tryz.pinned (.plain (OpenSpec.upto rootSqrtsSpec)) rootSqrtsUptoCard

/-- THE SECOND FORM's CARD OF 'zigguratlaw16.RootRoots'. -/
def rootRootsUptoCard : Claim7 := { stood := { row := rootRootsUptoRow, standIns := [], harness := (true, "f33e0fee195ba2c27d1eb72ff0e368270e998ed717819186719ea89ce6d4b572"), looks := false }, kinds := [], alts := [], laidByText := true, laidKinds := [.data], laidTests := true, laidLooks := .later }
def RootRootsUptoCardSaid : Prop := Claim7.holds Tryz.pinned (.plain (OpenSpec.upto rootRootsSpec)) rootRootsUptoCard

/-- THE SECOND FORM's CARD OF 'zigguratlaw16.RootBounds'. -/
def rootBoundsUptoCard : Claim7 := { stood := { row := rootBoundsUptoRow, standIns := [], harness := (true, "f33e0fee195ba2c27d1eb72ff0e368270e998ed717819186719ea89ce6d4b572"), looks := false }, kinds := [], alts := [], laidByText := true, laidKinds := [.data], laidTests := true, laidLooks := .later }
def RootBoundsUptoCardSaid : Prop := Claim7.holds Tryz.pinned (.plain (OpenSpec.upto rootBoundsSpec)) rootBoundsUptoCard

/-- THE SECOND FORM's CARD OF 'zigguratlaw16.RootTables'. -/
def rootTablesUptoCard : Claim7 := { stood := { row := rootTablesUptoRow, standIns := [], harness := (true, "f33e0fee195ba2c27d1eb72ff0e368270e998ed717819186719ea89ce6d4b572"), looks := false }, kinds := [], alts := [], laidByText := true, laidKinds := [.data], laidTests := true, laidLooks := .later }
def RootTablesUptoCardSaid : Prop := Claim7.holds Tryz.pinned (.plain (OpenSpec.upto rootTablesSpec)) rootTablesUptoCard

/-- THE SECOND FORM's CARD OF 'zigguratlaw16.RootSquares'. -/
def rootSquaresUptoCard : Claim7 := { stood := { row := rootSquaresUptoRow, standIns := [], harness := (true, "f33e0fee195ba2c27d1eb72ff0e368270e998ed717819186719ea89ce6d4b572"), looks := false }, kinds := [], alts := [], laidByText := true, laidKinds := [.data], laidTests := true, laidLooks := .later }
def RootSquaresUptoCardSaid : Prop := Claim7.holds Tryz.pinned (.plain (OpenSpec.upto rootSquaresSpec)) rootSquaresUptoCard
end Rows
end Go.Proofs.YtdfpgoppcflpjaaGreatDoor
