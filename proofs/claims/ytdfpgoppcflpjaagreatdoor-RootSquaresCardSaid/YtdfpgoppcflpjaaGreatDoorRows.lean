/-
  NARROWER THAN 'FOR EVERY INPUT', by the rows' own cells (each row's printed sentence says how): RecipRecips: laid · RecipBounds: laid · RecipTables: laid · RecipBys: laid · DivTables: laid · DivMods: laid · DivExacts: laid · DivBack: laid · DivWays: laid · DivTrees: laid · RootSqrts: laid · RootRoots: laid · RootBounds: laid · RootTables: laid · RootSquares: laid.
  DERIVED. THE GIVEN ROWS OF THIS SEAT. 15 by the template 'for every input the law returns true; each argument reads behind the call as it read before'; 0 by the template 'total and deterministic' (their statements: YtdfpgoppcflpjaaGreatDoorTotals.lean).
  GIVEN WITH THE SEED: the statements are not yours to turn. If you find one false, say at which input.
  Laid BY PROGRAM, IN A SANDBOX (cutbox-rows.mjs): the forced cells as the released guide's own fill.sh prints them over the translation 33e335afc95633d5… (all of the seat's roots in one cut). By AI agents, Wed Nov 11 2026. No macro, syntax, notation, axiom, sorry.
-/
import Derived.Test.YtdfpgoppcflpjaaGreatDoorChecked
import GoSem.Claim
import GoSem.ClaimJoined
import GoSem.ClaimMapViews
import Derived.JoinedTies
import Derived.KernelRfl
namespace Go.Proofs.YtdfpgoppcflpjaaGreatDoor
/- THE CELL 'sum', in the pinned program and in every row, IS THE sha256 OF THE DUMP (.gsa) THAT YtdfpgoppcflpjaaGreatDoorProg.lean LOADS. Nothing in Lean hashes anything: it is a label: what it is worth is what the hold of that sum in a sandbox is worth. -/
noncomputable def Tryz.pinned : Pinned := { name := "ytdfpgoppcflpjaagreatdoor", sum := "33e335afc95633d5d3a5fdb497157f93bc43b6a72564e6fe63479a04102614cb", checked := Tryz.checked }
namespace Rows
def none {H : Type} : Left H := { results := [], args := [] }

/- WHAT THE LISTED PACKAGE-LEVEL VARIABLES READ AS WHEN THE CALL BEGINS. Each datum BY PROGRAM (the guide's laid-datum.mjs) off the statement by which the dump's own 'gosem.cut.vars' lays the variable. In a bare row this is a premise. The card (YtdfpgoppcflpjaaGreatDoorCards.lean) ties it to the program's text. -/
def laid_math_bits_deBruijn64tab {H : Type} : DataW H := .agg [.lit (.int .u8 0), .lit (.int .u8 1), .lit (.int .u8 56), .lit (.int .u8 2), .lit (.int .u8 57), .lit (.int .u8 49), .lit (.int .u8 28), .lit (.int .u8 3), .lit (.int .u8 61), .lit (.int .u8 58), .lit (.int .u8 42), .lit (.int .u8 50), .lit (.int .u8 38), .lit (.int .u8 29), .lit (.int .u8 17), .lit (.int .u8 4), .lit (.int .u8 62), .lit (.int .u8 47), .lit (.int .u8 59), .lit (.int .u8 36), .lit (.int .u8 45), .lit (.int .u8 43), .lit (.int .u8 51), .lit (.int .u8 22), .lit (.int .u8 53), .lit (.int .u8 39), .lit (.int .u8 33), .lit (.int .u8 30), .lit (.int .u8 24), .lit (.int .u8 18), .lit (.int .u8 12), .lit (.int .u8 5), .lit (.int .u8 63), .lit (.int .u8 55), .lit (.int .u8 48), .lit (.int .u8 27), .lit (.int .u8 60), .lit (.int .u8 41), .lit (.int .u8 37), .lit (.int .u8 16), .lit (.int .u8 46), .lit (.int .u8 35), .lit (.int .u8 44), .lit (.int .u8 21), .lit (.int .u8 52), .lit (.int .u8 32), .lit (.int .u8 23), .lit (.int .u8 11), .lit (.int .u8 54), .lit (.int .u8 26), .lit (.int .u8 40), .lit (.int .u8 15), .lit (.int .u8 34), .lit (.int .u8 20), .lit (.int .u8 31), .lit (.int .u8 10), .lit (.int .u8 25), .lit (.int .u8 14), .lit (.int .u8 19), .lit (.int .u8 9), .lit (.int .u8 13), .lit (.int .u8 8), .lit (.int .u8 7), .lit (.int .u8 6)]

/-- 'zigguratlaw14.RecipRecips': WHATEVER THE INPUT: true; the input reads as it did. -/
def recipRecipsSpec : ChangeSpec := { name := "recipRecips", fn := fun _ => fun
  | [d1, d2, d3] => { results := [.lit (.bool true)], args := [d1, d2, d3] }
  | _ => none }
def recipRecipsRow : OpenClaim := { program := "ytdfpgoppcflpjaagreatdoor", sum := "33e335afc95633d5d3a5fdb497157f93bc43b6a72564e6fe63479a04102614cb", func := "ziggurat/zigguratlaw14.RecipRecips", spec := "recipRecips", inPlace := ["math/bits.Add64", "math/bits.Sub64"], unfollowed := true, recurses := true, named := ["math/bits.divideError", "math/bits.overflowError", "math/bits.deBruijn64tab"], apart := false, laid := [("math/bits.deBruijn64tab", laid_math_bits_deBruijn64tab)] }
def RecipRecipsSaid : Prop := recipRecipsRow.holds Tryz.pinned (OpenSpec.ofChange recipRecipsSpec)

/-- ITS FALSE NEIGHBOUR: 'it returns false'. Refute it at one input. -/
def recipRecipsWrong : ChangeSpec := { name := "recipRecips", fn := fun _ => fun
  | [d1, d2, d3] => { results := [.lit (.bool false)], args := [d1, d2, d3] }
  | _ => none }
def RecipRecipsWrongFalsely : Prop := recipRecipsRow.holds Tryz.pinned (OpenSpec.ofChange recipRecipsWrong)

/-- 'zigguratlaw14.RecipBounds': WHATEVER THE INPUT: true; the input reads as it did. -/
def recipBoundsSpec : ChangeSpec := { name := "recipBounds", fn := fun _ => fun
  | [d1, d2, d3] => { results := [.lit (.bool true)], args := [d1, d2, d3] }
  | _ => none }
def recipBoundsRow : OpenClaim := { program := "ytdfpgoppcflpjaagreatdoor", sum := "33e335afc95633d5d3a5fdb497157f93bc43b6a72564e6fe63479a04102614cb", func := "ziggurat/zigguratlaw14.RecipBounds", spec := "recipBounds", inPlace := ["math/bits.Add64", "math/bits.Sub64"], unfollowed := true, recurses := true, named := ["math/bits.divideError", "math/bits.overflowError", "math/bits.deBruijn64tab"], apart := false, laid := [("math/bits.deBruijn64tab", laid_math_bits_deBruijn64tab)] }
def RecipBoundsSaid : Prop := recipBoundsRow.holds Tryz.pinned (OpenSpec.ofChange recipBoundsSpec)

/-- ITS FALSE NEIGHBOUR: 'it returns false'. Refute it at one input. -/
def recipBoundsWrong : ChangeSpec := { name := "recipBounds", fn := fun _ => fun
  | [d1, d2, d3] => { results := [.lit (.bool false)], args := [d1, d2, d3] }
  | _ => none }
def RecipBoundsWrongFalsely : Prop := recipBoundsRow.holds Tryz.pinned (OpenSpec.ofChange recipBoundsWrong)

/-- 'zigguratlaw14.RecipTables': WHATEVER THE INPUT: true; the input reads as it did. -/
def recipTablesSpec : ChangeSpec := { name := "recipTables", fn := fun _ => fun
  | [d1, d2, d3, d4] => { results := [.lit (.bool true)], args := [d1, d2, d3, d4] }
  | _ => none }
def recipTablesRow : OpenClaim := { program := "ytdfpgoppcflpjaagreatdoor", sum := "33e335afc95633d5d3a5fdb497157f93bc43b6a72564e6fe63479a04102614cb", func := "ziggurat/zigguratlaw14.RecipTables", spec := "recipTables", inPlace := ["math/bits.Add64", "math/bits.Sub64"], unfollowed := true, recurses := true, named := ["math/bits.divideError", "math/bits.overflowError", "math/bits.deBruijn64tab"], apart := false, laid := [("math/bits.deBruijn64tab", laid_math_bits_deBruijn64tab)] }
def RecipTablesSaid : Prop := recipTablesRow.holds Tryz.pinned (OpenSpec.ofChange recipTablesSpec)

/-- ITS FALSE NEIGHBOUR: 'it returns false'. Refute it at one input. -/
def recipTablesWrong : ChangeSpec := { name := "recipTables", fn := fun _ => fun
  | [d1, d2, d3, d4] => { results := [.lit (.bool false)], args := [d1, d2, d3, d4] }
  | _ => none }
def RecipTablesWrongFalsely : Prop := recipTablesRow.holds Tryz.pinned (OpenSpec.ofChange recipTablesWrong)

/-- 'zigguratlaw14.RecipBys': WHATEVER THE INPUT: true; the input reads as it did. -/
def recipBysSpec : ChangeSpec := { name := "recipBys", fn := fun _ => fun
  | [d1, d2, d3, d4, d5] => { results := [.lit (.bool true)], args := [d1, d2, d3, d4, d5] }
  | _ => none }
def recipBysRow : OpenClaim := { program := "ytdfpgoppcflpjaagreatdoor", sum := "33e335afc95633d5d3a5fdb497157f93bc43b6a72564e6fe63479a04102614cb", func := "ziggurat/zigguratlaw14.RecipBys", spec := "recipBys", inPlace := ["math/bits.Add64", "math/bits.Sub64"], unfollowed := true, recurses := true, named := ["math/bits.divideError", "math/bits.overflowError", "math/bits.deBruijn64tab"], apart := false, laid := [("math/bits.deBruijn64tab", laid_math_bits_deBruijn64tab)] }
def RecipBysSaid : Prop := recipBysRow.holds Tryz.pinned (OpenSpec.ofChange recipBysSpec)

/-- ITS FALSE NEIGHBOUR: 'it returns false'. Refute it at one input. -/
def recipBysWrong : ChangeSpec := { name := "recipBys", fn := fun _ => fun
  | [d1, d2, d3, d4, d5] => { results := [.lit (.bool false)], args := [d1, d2, d3, d4, d5] }
  | _ => none }
def RecipBysWrongFalsely : Prop := recipBysRow.holds Tryz.pinned (OpenSpec.ofChange recipBysWrong)

/-- 'zigguratlaw15.DivTables': WHATEVER THE INPUT: true; the input reads as it did. -/
def divTablesSpec : ChangeSpec := { name := "divTables", fn := fun _ => fun
  | [d1, d2, d3, d4] => { results := [.lit (.bool true)], args := [d1, d2, d3, d4] }
  | _ => none }
def divTablesRow : OpenClaim := { program := "ytdfpgoppcflpjaagreatdoor", sum := "33e335afc95633d5d3a5fdb497157f93bc43b6a72564e6fe63479a04102614cb", func := "ziggurat/zigguratlaw15.DivTables", spec := "divTables", inPlace := ["math/bits.Add64", "math/bits.Sub64"], unfollowed := true, recurses := true, named := ["math/bits.divideError", "math/bits.overflowError", "math/bits.deBruijn64tab"], apart := false, laid := [("math/bits.deBruijn64tab", laid_math_bits_deBruijn64tab)] }
def DivTablesSaid : Prop := divTablesRow.holds Tryz.pinned (OpenSpec.ofChange divTablesSpec)

/-- ITS FALSE NEIGHBOUR: 'it returns false'. Refute it at one input. -/
def divTablesWrong : ChangeSpec := { name := "divTables", fn := fun _ => fun
  | [d1, d2, d3, d4] => { results := [.lit (.bool false)], args := [d1, d2, d3, d4] }
  | _ => none }
def DivTablesWrongFalsely : Prop := divTablesRow.holds Tryz.pinned (OpenSpec.ofChange divTablesWrong)

/-- 'zigguratlaw15.DivMods': WHATEVER THE INPUT: true; the input reads as it did. -/
def divModsSpec : ChangeSpec := { name := "divMods", fn := fun _ => fun
  | [d1, d2, d3] => { results := [.lit (.bool true)], args := [d1, d2, d3] }
  | _ => none }
def divModsRow : OpenClaim := { program := "ytdfpgoppcflpjaagreatdoor", sum := "33e335afc95633d5d3a5fdb497157f93bc43b6a72564e6fe63479a04102614cb", func := "ziggurat/zigguratlaw15.DivMods", spec := "divMods", inPlace := ["math/bits.Add64", "math/bits.Sub64"], unfollowed := true, recurses := true, named := ["math/bits.divideError", "math/bits.overflowError", "math/bits.deBruijn64tab"], apart := false, laid := [("math/bits.deBruijn64tab", laid_math_bits_deBruijn64tab)] }
def DivModsSaid : Prop := divModsRow.holds Tryz.pinned (OpenSpec.ofChange divModsSpec)

/-- ITS FALSE NEIGHBOUR: 'it returns false'. Refute it at one input. -/
def divModsWrong : ChangeSpec := { name := "divMods", fn := fun _ => fun
  | [d1, d2, d3] => { results := [.lit (.bool false)], args := [d1, d2, d3] }
  | _ => none }
def DivModsWrongFalsely : Prop := divModsRow.holds Tryz.pinned (OpenSpec.ofChange divModsWrong)

/-- 'zigguratlaw15.DivExacts': WHATEVER THE INPUT: true; the input reads as it did. -/
def divExactsSpec : ChangeSpec := { name := "divExacts", fn := fun _ => fun
  | [d1, d2, d3, d4] => { results := [.lit (.bool true)], args := [d1, d2, d3, d4] }
  | _ => none }
def divExactsRow : OpenClaim := { program := "ytdfpgoppcflpjaagreatdoor", sum := "33e335afc95633d5d3a5fdb497157f93bc43b6a72564e6fe63479a04102614cb", func := "ziggurat/zigguratlaw15.DivExacts", spec := "divExacts", inPlace := ["math/bits.Add64", "math/bits.Sub64"], unfollowed := true, recurses := true, named := ["math/bits.divideError", "math/bits.overflowError", "math/bits.deBruijn64tab"], apart := false, laid := [("math/bits.deBruijn64tab", laid_math_bits_deBruijn64tab)] }
def DivExactsSaid : Prop := divExactsRow.holds Tryz.pinned (OpenSpec.ofChange divExactsSpec)

/-- ITS FALSE NEIGHBOUR: 'it returns false'. Refute it at one input. -/
def divExactsWrong : ChangeSpec := { name := "divExacts", fn := fun _ => fun
  | [d1, d2, d3, d4] => { results := [.lit (.bool false)], args := [d1, d2, d3, d4] }
  | _ => none }
def DivExactsWrongFalsely : Prop := divExactsRow.holds Tryz.pinned (OpenSpec.ofChange divExactsWrong)

/-- 'zigguratlaw15.DivBack': WHATEVER THE INPUT: true; the input reads as it did. -/
def divBackSpec : ChangeSpec := { name := "divBack", fn := fun _ => fun
  | [d1, d2, d3, d4] => { results := [.lit (.bool true)], args := [d1, d2, d3, d4] }
  | _ => none }
def divBackRow : OpenClaim := { program := "ytdfpgoppcflpjaagreatdoor", sum := "33e335afc95633d5d3a5fdb497157f93bc43b6a72564e6fe63479a04102614cb", func := "ziggurat/zigguratlaw15.DivBack", spec := "divBack", inPlace := ["math/bits.Add64", "math/bits.Sub64"], unfollowed := true, recurses := true, named := ["math/bits.divideError", "math/bits.overflowError", "math/bits.deBruijn64tab"], apart := false, laid := [("math/bits.deBruijn64tab", laid_math_bits_deBruijn64tab)] }
def DivBackSaid : Prop := divBackRow.holds Tryz.pinned (OpenSpec.ofChange divBackSpec)

/-- ITS FALSE NEIGHBOUR: 'it returns false'. Refute it at one input. -/
def divBackWrong : ChangeSpec := { name := "divBack", fn := fun _ => fun
  | [d1, d2, d3, d4] => { results := [.lit (.bool false)], args := [d1, d2, d3, d4] }
  | _ => none }
def DivBackWrongFalsely : Prop := divBackRow.holds Tryz.pinned (OpenSpec.ofChange divBackWrong)

/-- 'zigguratlaw15.DivWays': WHATEVER THE INPUT: true; the input reads as it did. -/
def divWaysSpec : ChangeSpec := { name := "divWays", fn := fun _ => fun
  | [d1, d2, d3] => { results := [.lit (.bool true)], args := [d1, d2, d3] }
  | _ => none }
def divWaysRow : OpenClaim := { program := "ytdfpgoppcflpjaagreatdoor", sum := "33e335afc95633d5d3a5fdb497157f93bc43b6a72564e6fe63479a04102614cb", func := "ziggurat/zigguratlaw15.DivWays", spec := "divWays", inPlace := ["math/bits.Add64", "math/bits.Sub64"], unfollowed := true, recurses := true, named := ["math/bits.divideError", "math/bits.overflowError", "math/bits.deBruijn64tab"], apart := false, laid := [("math/bits.deBruijn64tab", laid_math_bits_deBruijn64tab)] }
def DivWaysSaid : Prop := divWaysRow.holds Tryz.pinned (OpenSpec.ofChange divWaysSpec)

/-- ITS FALSE NEIGHBOUR: 'it returns false'. Refute it at one input. -/
def divWaysWrong : ChangeSpec := { name := "divWays", fn := fun _ => fun
  | [d1, d2, d3] => { results := [.lit (.bool false)], args := [d1, d2, d3] }
  | _ => none }
def DivWaysWrongFalsely : Prop := divWaysRow.holds Tryz.pinned (OpenSpec.ofChange divWaysWrong)

/-- 'zigguratlaw15.DivTrees': WHATEVER THE INPUT: true; the input reads as it did. -/
def divTreesSpec : ChangeSpec := { name := "divTrees", fn := fun _ => fun
  | [d1, d2, d3] => { results := [.lit (.bool true)], args := [d1, d2, d3] }
  | _ => none }
def divTreesRow : OpenClaim := { program := "ytdfpgoppcflpjaagreatdoor", sum := "33e335afc95633d5d3a5fdb497157f93bc43b6a72564e6fe63479a04102614cb", func := "ziggurat/zigguratlaw15.DivTrees", spec := "divTrees", inPlace := ["math/bits.Add64", "math/bits.Sub64"], unfollowed := true, recurses := true, named := ["math/bits.divideError", "math/bits.overflowError", "math/bits.deBruijn64tab"], apart := false, laid := [("math/bits.deBruijn64tab", laid_math_bits_deBruijn64tab)] }
def DivTreesSaid : Prop := divTreesRow.holds Tryz.pinned (OpenSpec.ofChange divTreesSpec)

/-- ITS FALSE NEIGHBOUR: 'it returns false'. Refute it at one input. -/
def divTreesWrong : ChangeSpec := { name := "divTrees", fn := fun _ => fun
  | [d1, d2, d3] => { results := [.lit (.bool false)], args := [d1, d2, d3] }
  | _ => none }
def DivTreesWrongFalsely : Prop := divTreesRow.holds Tryz.pinned (OpenSpec.ofChange divTreesWrong)

/-- 'zigguratlaw16.RootSqrts': WHATEVER THE INPUT: true; the input reads as it did. -/
def rootSqrtsSpec : ChangeSpec := { name := "rootSqrts", fn := fun _ => fun
  | [d1, d2] => { results := [.lit (.bool true)], args := [d1, d2] }
  | _ => none }
def rootSqrtsRow : OpenClaim := { program := "ytdfpgoppcflpjaagreatdoor", sum := "33e335afc95633d5d3a5fdb497157f93bc43b6a72564e6fe63479a04102614cb", func := "ziggurat/zigguratlaw16.RootSqrts", spec := "rootSqrts", inPlace := ["math/bits.Add64", "math/bits.Sub64"], unfollowed := true, recurses := true, named := ["math/bits.divideError", "math/bits.overflowError", "math/bits.deBruijn64tab"], apart := false, laid := [("math/bits.deBruijn64tab", laid_math_bits_deBruijn64tab)] }
def RootSqrtsSaid : Prop := rootSqrtsRow.holds Tryz.pinned (OpenSpec.ofChange rootSqrtsSpec)

/-- ITS FALSE NEIGHBOUR: 'it returns false'. Refute it at one input. -/
def rootSqrtsWrong : ChangeSpec := { name := "rootSqrts", fn := fun _ => fun
  | [d1, d2] => { results := [.lit (.bool false)], args := [d1, d2] }
  | _ => none }
def RootSqrtsWrongFalsely : Prop := rootSqrtsRow.holds Tryz.pinned (OpenSpec.ofChange rootSqrtsWrong)

/-- 'zigguratlaw16.RootRoots': WHATEVER THE INPUT: true; the input reads as it did. -/
def rootRootsSpec : ChangeSpec := { name := "rootRoots", fn := fun _ => fun
  | [d1, d2, d3] => { results := [.lit (.bool true)], args := [d1, d2, d3] }
  | _ => none }
def rootRootsRow : OpenClaim := { program := "ytdfpgoppcflpjaagreatdoor", sum := "33e335afc95633d5d3a5fdb497157f93bc43b6a72564e6fe63479a04102614cb", func := "ziggurat/zigguratlaw16.RootRoots", spec := "rootRoots", inPlace := ["math/bits.Add64", "math/bits.Sub64"], unfollowed := true, recurses := true, named := ["math/bits.divideError", "math/bits.overflowError", "math/bits.deBruijn64tab"], apart := false, laid := [("math/bits.deBruijn64tab", laid_math_bits_deBruijn64tab)] }
def RootRootsSaid : Prop := rootRootsRow.holds Tryz.pinned (OpenSpec.ofChange rootRootsSpec)

/-- ITS FALSE NEIGHBOUR: 'it returns false'. Refute it at one input. -/
def rootRootsWrong : ChangeSpec := { name := "rootRoots", fn := fun _ => fun
  | [d1, d2, d3] => { results := [.lit (.bool false)], args := [d1, d2, d3] }
  | _ => none }
def RootRootsWrongFalsely : Prop := rootRootsRow.holds Tryz.pinned (OpenSpec.ofChange rootRootsWrong)

/-- 'zigguratlaw16.RootBounds': WHATEVER THE INPUT: true; the input reads as it did. -/
def rootBoundsSpec : ChangeSpec := { name := "rootBounds", fn := fun _ => fun
  | [d1, d2] => { results := [.lit (.bool true)], args := [d1, d2] }
  | _ => none }
def rootBoundsRow : OpenClaim := { program := "ytdfpgoppcflpjaagreatdoor", sum := "33e335afc95633d5d3a5fdb497157f93bc43b6a72564e6fe63479a04102614cb", func := "ziggurat/zigguratlaw16.RootBounds", spec := "rootBounds", inPlace := ["math/bits.Add64", "math/bits.Sub64"], unfollowed := true, recurses := true, named := ["math/bits.divideError", "math/bits.overflowError", "math/bits.deBruijn64tab"], apart := false, laid := [("math/bits.deBruijn64tab", laid_math_bits_deBruijn64tab)] }
def RootBoundsSaid : Prop := rootBoundsRow.holds Tryz.pinned (OpenSpec.ofChange rootBoundsSpec)

/-- ITS FALSE NEIGHBOUR: 'it returns false'. Refute it at one input. -/
def rootBoundsWrong : ChangeSpec := { name := "rootBounds", fn := fun _ => fun
  | [d1, d2] => { results := [.lit (.bool false)], args := [d1, d2] }
  | _ => none }
def RootBoundsWrongFalsely : Prop := rootBoundsRow.holds Tryz.pinned (OpenSpec.ofChange rootBoundsWrong)

/-- 'zigguratlaw16.RootTables': WHATEVER THE INPUT: true; the input reads as it did. -/
def rootTablesSpec : ChangeSpec := { name := "rootTables", fn := fun _ => fun
  | [d1, d2, d3, d4] => { results := [.lit (.bool true)], args := [d1, d2, d3, d4] }
  | _ => none }
def rootTablesRow : OpenClaim := { program := "ytdfpgoppcflpjaagreatdoor", sum := "33e335afc95633d5d3a5fdb497157f93bc43b6a72564e6fe63479a04102614cb", func := "ziggurat/zigguratlaw16.RootTables", spec := "rootTables", inPlace := ["math/bits.Add64", "math/bits.Sub64"], unfollowed := true, recurses := true, named := ["math/bits.divideError", "math/bits.overflowError", "math/bits.deBruijn64tab"], apart := false, laid := [("math/bits.deBruijn64tab", laid_math_bits_deBruijn64tab)] }
def RootTablesSaid : Prop := rootTablesRow.holds Tryz.pinned (OpenSpec.ofChange rootTablesSpec)

/-- ITS FALSE NEIGHBOUR: 'it returns false'. Refute it at one input. -/
def rootTablesWrong : ChangeSpec := { name := "rootTables", fn := fun _ => fun
  | [d1, d2, d3, d4] => { results := [.lit (.bool false)], args := [d1, d2, d3, d4] }
  | _ => none }
def RootTablesWrongFalsely : Prop := rootTablesRow.holds Tryz.pinned (OpenSpec.ofChange rootTablesWrong)

/-- 'zigguratlaw16.RootSquares': WHATEVER THE INPUT: true; the input reads as it did. -/
def rootSquaresSpec : ChangeSpec := { name := "rootSquares", fn := fun _ => fun
  | [d1, d2, d3, d4] => { results := [.lit (.bool true)], args := [d1, d2, d3, d4] }
  | _ => none }
def rootSquaresRow : OpenClaim := { program := "ytdfpgoppcflpjaagreatdoor", sum := "33e335afc95633d5d3a5fdb497157f93bc43b6a72564e6fe63479a04102614cb", func := "ziggurat/zigguratlaw16.RootSquares", spec := "rootSquares", inPlace := ["math/bits.Add64", "math/bits.Sub64"], unfollowed := true, recurses := true, named := ["math/bits.divideError", "math/bits.overflowError", "math/bits.deBruijn64tab"], apart := false, laid := [("math/bits.deBruijn64tab", laid_math_bits_deBruijn64tab)] }
def RootSquaresSaid : Prop := rootSquaresRow.holds Tryz.pinned (OpenSpec.ofChange rootSquaresSpec)

/-- ITS FALSE NEIGHBOUR: 'it returns false'. Refute it at one input. -/
def rootSquaresWrong : ChangeSpec := { name := "rootSquares", fn := fun _ => fun
  | [d1, d2, d3, d4] => { results := [.lit (.bool false)], args := [d1, d2, d3, d4] }
  | _ => none }
def RootSquaresWrongFalsely : Prop := rootSquaresRow.holds Tryz.pinned (OpenSpec.ofChange rootSquaresWrong)

/- THE SECOND FORM. 'bulk': how many values and letters a reading holds, each counted each time it is reached (what is shared counts as often as it is met; a slice's spare places count too). A statement '..UptoSaid' is the law's where the arguments, and the package variables that the reading takes, are together of bulk at most 1048576: NARROWER than '..Said'. Prove '..Said' where nothing that the law and all that it calls make is longer than what came in: it says more and counts as full. Else prove '..UptoSaid'. A law counts once. -/
mutual
def uptoBulk {H : Type} : DataW H → Nat
  | .lit (.string bytes) => bytes.length + 1
  | .lit _ => 1
  | .nil => 1
  | .ptr d => uptoBulk d + 1
  | .slice elems spare => uptoBulkAll elems + uptoBulkAll spare + 1
  | .agg parts => uptoBulkAll parts + 1
  | .iface _ d => uptoBulk d + 1
  | .map entries => uptoBulkEntries entries + 1
  | .held _ => 1
def uptoBulkAll {H : Type} : List (DataW H) → Nat
  | [] => 0
  | d :: r => uptoBulk d + uptoBulkAll r
def uptoBulkEntries {H : Type} : List (Lit × DataW H) → Nat
  | [] => 0
  | x :: r => uptoBulkEntry x + uptoBulkEntries r
def uptoBulkEntry {H : Type} : Lit × DataW H → Nat
  | (.string bytes, d) => bytes.length + uptoBulk d + 1
  | (_, d) => uptoBulk d + 1
 end
def uptoSmall : (H : Type) → List (DataW H) → Bool := fun _ ds => decide (uptoBulkAll ds ≤ 1048576)
def OpenSpec.upto (s : _root_.Go.ChangeSpec) : _root_.Go.OpenSpec := { _root_.Go.OpenSpec.ofChange s with cond := some uptoSmall }

/-- 'zigguratlaw14.RecipRecips', WHERE WHAT IT READS IS OF BULK AT MOST 1048576: true; the input reads as it did. -/
def recipRecipsUptoRow : OpenClaim := { program := "ytdfpgoppcflpjaagreatdoor", sum := "33e335afc95633d5d3a5fdb497157f93bc43b6a72564e6fe63479a04102614cb", func := "ziggurat/zigguratlaw14.RecipRecips", spec := "recipRecips", inPlace := ["math/bits.Add64", "math/bits.Sub64"], unfollowed := true, recurses := true, named := ["math/bits.divideError", "math/bits.overflowError", "math/bits.deBruijn64tab"], apart := false, laid := [("math/bits.deBruijn64tab", laid_math_bits_deBruijn64tab)], narrowed := true }
def RecipRecipsUptoSaid : Prop := recipRecipsUptoRow.holds Tryz.pinned (OpenSpec.upto recipRecipsSpec)

/-- 'zigguratlaw14.RecipBounds', WHERE WHAT IT READS IS OF BULK AT MOST 1048576: true; the input reads as it did. -/
def recipBoundsUptoRow : OpenClaim := { program := "ytdfpgoppcflpjaagreatdoor", sum := "33e335afc95633d5d3a5fdb497157f93bc43b6a72564e6fe63479a04102614cb", func := "ziggurat/zigguratlaw14.RecipBounds", spec := "recipBounds", inPlace := ["math/bits.Add64", "math/bits.Sub64"], unfollowed := true, recurses := true, named := ["math/bits.divideError", "math/bits.overflowError", "math/bits.deBruijn64tab"], apart := false, laid := [("math/bits.deBruijn64tab", laid_math_bits_deBruijn64tab)], narrowed := true }
def RecipBoundsUptoSaid : Prop := recipBoundsUptoRow.holds Tryz.pinned (OpenSpec.upto recipBoundsSpec)

/-- 'zigguratlaw14.RecipTables', WHERE WHAT IT READS IS OF BULK AT MOST 1048576: true; the input reads as it did. -/
def recipTablesUptoRow : OpenClaim := { program := "ytdfpgoppcflpjaagreatdoor", sum := "33e335afc95633d5d3a5fdb497157f93bc43b6a72564e6fe63479a04102614cb", func := "ziggurat/zigguratlaw14.RecipTables", spec := "recipTables", inPlace := ["math/bits.Add64", "math/bits.Sub64"], unfollowed := true, recurses := true, named := ["math/bits.divideError", "math/bits.overflowError", "math/bits.deBruijn64tab"], apart := false, laid := [("math/bits.deBruijn64tab", laid_math_bits_deBruijn64tab)], narrowed := true }
def RecipTablesUptoSaid : Prop := recipTablesUptoRow.holds Tryz.pinned (OpenSpec.upto recipTablesSpec)

/-- 'zigguratlaw14.RecipBys', WHERE WHAT IT READS IS OF BULK AT MOST 1048576: true; the input reads as it did. -/
def recipBysUptoRow : OpenClaim := { program := "ytdfpgoppcflpjaagreatdoor", sum := "33e335afc95633d5d3a5fdb497157f93bc43b6a72564e6fe63479a04102614cb", func := "ziggurat/zigguratlaw14.RecipBys", spec := "recipBys", inPlace := ["math/bits.Add64", "math/bits.Sub64"], unfollowed := true, recurses := true, named := ["math/bits.divideError", "math/bits.overflowError", "math/bits.deBruijn64tab"], apart := false, laid := [("math/bits.deBruijn64tab", laid_math_bits_deBruijn64tab)], narrowed := true }
def RecipBysUptoSaid : Prop := recipBysUptoRow.holds Tryz.pinned (OpenSpec.upto recipBysSpec)

/-- 'zigguratlaw15.DivTables', WHERE WHAT IT READS IS OF BULK AT MOST 1048576: true; the input reads as it did. -/
def divTablesUptoRow : OpenClaim := { program := "ytdfpgoppcflpjaagreatdoor", sum := "33e335afc95633d5d3a5fdb497157f93bc43b6a72564e6fe63479a04102614cb", func := "ziggurat/zigguratlaw15.DivTables", spec := "divTables", inPlace := ["math/bits.Add64", "math/bits.Sub64"], unfollowed := true, recurses := true, named := ["math/bits.divideError", "math/bits.overflowError", "math/bits.deBruijn64tab"], apart := false, laid := [("math/bits.deBruijn64tab", laid_math_bits_deBruijn64tab)], narrowed := true }
def DivTablesUptoSaid : Prop := divTablesUptoRow.holds Tryz.pinned (OpenSpec.upto divTablesSpec)

/-- 'zigguratlaw15.DivMods', WHERE WHAT IT READS IS OF BULK AT MOST 1048576: true; the input reads as it did. -/
def divModsUptoRow : OpenClaim := { program := "ytdfpgoppcflpjaagreatdoor", sum := "33e335afc95633d5d3a5fdb497157f93bc43b6a72564e6fe63479a04102614cb", func := "ziggurat/zigguratlaw15.DivMods", spec := "divMods", inPlace := ["math/bits.Add64", "math/bits.Sub64"], unfollowed := true, recurses := true, named := ["math/bits.divideError", "math/bits.overflowError", "math/bits.deBruijn64tab"], apart := false, laid := [("math/bits.deBruijn64tab", laid_math_bits_deBruijn64tab)], narrowed := true }
def DivModsUptoSaid : Prop := divModsUptoRow.holds Tryz.pinned (OpenSpec.upto divModsSpec)

/-- 'zigguratlaw15.DivExacts', WHERE WHAT IT READS IS OF BULK AT MOST 1048576: true; the input reads as it did. -/
def divExactsUptoRow : OpenClaim := { program := "ytdfpgoppcflpjaagreatdoor", sum := "33e335afc95633d5d3a5fdb497157f93bc43b6a72564e6fe63479a04102614cb", func := "ziggurat/zigguratlaw15.DivExacts", spec := "divExacts", inPlace := ["math/bits.Add64", "math/bits.Sub64"], unfollowed := true, recurses := true, named := ["math/bits.divideError", "math/bits.overflowError", "math/bits.deBruijn64tab"], apart := false, laid := [("math/bits.deBruijn64tab", laid_math_bits_deBruijn64tab)], narrowed := true }
def DivExactsUptoSaid : Prop := divExactsUptoRow.holds Tryz.pinned (OpenSpec.upto divExactsSpec)

/-- 'zigguratlaw15.DivBack', WHERE WHAT IT READS IS OF BULK AT MOST 1048576: true; the input reads as it did. -/
def divBackUptoRow : OpenClaim := { program := "ytdfpgoppcflpjaagreatdoor", sum := "33e335afc95633d5d3a5fdb497157f93bc43b6a72564e6fe63479a04102614cb", func := "ziggurat/zigguratlaw15.DivBack", spec := "divBack", inPlace := ["math/bits.Add64", "math/bits.Sub64"], unfollowed := true, recurses := true, named := ["math/bits.divideError", "math/bits.overflowError", "math/bits.deBruijn64tab"], apart := false, laid := [("math/bits.deBruijn64tab", laid_math_bits_deBruijn64tab)], narrowed := true }
def DivBackUptoSaid : Prop := divBackUptoRow.holds Tryz.pinned (OpenSpec.upto divBackSpec)

/-- 'zigguratlaw15.DivWays', WHERE WHAT IT READS IS OF BULK AT MOST 1048576: true; the input reads as it did. -/
def divWaysUptoRow : OpenClaim := { program := "ytdfpgoppcflpjaagreatdoor", sum := "33e335afc95633d5d3a5fdb497157f93bc43b6a72564e6fe63479a04102614cb", func := "ziggurat/zigguratlaw15.DivWays", spec := "divWays", inPlace := ["math/bits.Add64", "math/bits.Sub64"], unfollowed := true, recurses := true, named := ["math/bits.divideError", "math/bits.overflowError", "math/bits.deBruijn64tab"], apart := false, laid := [("math/bits.deBruijn64tab", laid_math_bits_deBruijn64tab)], narrowed := true }
def DivWaysUptoSaid : Prop := divWaysUptoRow.holds Tryz.pinned (OpenSpec.upto divWaysSpec)

/-- 'zigguratlaw15.DivTrees', WHERE WHAT IT READS IS OF BULK AT MOST 1048576: true; the input reads as it did. -/
def divTreesUptoRow : OpenClaim := { program := "ytdfpgoppcflpjaagreatdoor", sum := "33e335afc95633d5d3a5fdb497157f93bc43b6a72564e6fe63479a04102614cb", func := "ziggurat/zigguratlaw15.DivTrees", spec := "divTrees", inPlace := ["math/bits.Add64", "math/bits.Sub64"], unfollowed := true, recurses := true, named := ["math/bits.divideError", "math/bits.overflowError", "math/bits.deBruijn64tab"], apart := false, laid := [("math/bits.deBruijn64tab", laid_math_bits_deBruijn64tab)], narrowed := true }
def DivTreesUptoSaid : Prop := divTreesUptoRow.holds Tryz.pinned (OpenSpec.upto divTreesSpec)

/-- 'zigguratlaw16.RootSqrts', WHERE WHAT IT READS IS OF BULK AT MOST 1048576: true; the input reads as it did. -/
def rootSqrtsUptoRow : OpenClaim := { program := "ytdfpgoppcflpjaagreatdoor", sum := "33e335afc95633d5d3a5fdb497157f93bc43b6a72564e6fe63479a04102614cb", func := "ziggurat/zigguratlaw16.RootSqrts", spec := "rootSqrts", inPlace := ["math/bits.Add64", "math/bits.Sub64"], unfollowed := true, recurses := true, named := ["math/bits.divideError", "math/bits.overflowError", "math/bits.deBruijn64tab"], apart := false, laid := [("math/bits.deBruijn64tab", laid_math_bits_deBruijn64tab)], narrowed := true }
def RootSqrtsUptoSaid : Prop := rootSqrtsUptoRow.holds Tryz.pinned (OpenSpec.upto rootSqrtsSpec)

/-- 'zigguratlaw16.RootRoots', WHERE WHAT IT READS IS OF BULK AT MOST 1048576: true; the input reads as it did. -/
def rootRootsUptoRow : OpenClaim := { program := "ytdfpgoppcflpjaagreatdoor", sum := "33e335afc95633d5d3a5fdb497157f93bc43b6a72564e6fe63479a04102614cb", func := "ziggurat/zigguratlaw16.RootRoots", spec := "rootRoots", inPlace := ["math/bits.Add64", "math/bits.Sub64"], unfollowed := true, recurses := true, named := ["math/bits.divideError", "math/bits.overflowError", "math/bits.deBruijn64tab"], apart := false, laid := [("math/bits.deBruijn64tab", laid_math_bits_deBruijn64tab)], narrowed := true }
def RootRootsUptoSaid : Prop := rootRootsUptoRow.holds Tryz.pinned (OpenSpec.upto rootRootsSpec)

/-- 'zigguratlaw16.RootBounds', WHERE WHAT IT READS IS OF BULK AT MOST 1048576: true; the input reads as it did. -/
def rootBoundsUptoRow : OpenClaim := { program := "ytdfpgoppcflpjaagreatdoor", sum := "33e335afc95633d5d3a5fdb497157f93bc43b6a72564e6fe63479a04102614cb", func := "ziggurat/zigguratlaw16.RootBounds", spec := "rootBounds", inPlace := ["math/bits.Add64", "math/bits.Sub64"], unfollowed := true, recurses := true, named := ["math/bits.divideError", "math/bits.overflowError", "math/bits.deBruijn64tab"], apart := false, laid := [("math/bits.deBruijn64tab", laid_math_bits_deBruijn64tab)], narrowed := true }
def RootBoundsUptoSaid : Prop := rootBoundsUptoRow.holds Tryz.pinned (OpenSpec.upto rootBoundsSpec)

/-- 'zigguratlaw16.RootTables', WHERE WHAT IT READS IS OF BULK AT MOST 1048576: true; the input reads as it did. -/
def rootTablesUptoRow : OpenClaim := { program := "ytdfpgoppcflpjaagreatdoor", sum := "33e335afc95633d5d3a5fdb497157f93bc43b6a72564e6fe63479a04102614cb", func := "ziggurat/zigguratlaw16.RootTables", spec := "rootTables", inPlace := ["math/bits.Add64", "math/bits.Sub64"], unfollowed := true, recurses := true, named := ["math/bits.divideError", "math/bits.overflowError", "math/bits.deBruijn64tab"], apart := false, laid := [("math/bits.deBruijn64tab", laid_math_bits_deBruijn64tab)], narrowed := true }
def RootTablesUptoSaid : Prop := rootTablesUptoRow.holds Tryz.pinned (OpenSpec.upto rootTablesSpec)

/-- 'zigguratlaw16.RootSquares', WHERE WHAT IT READS IS OF BULK AT MOST 1048576: true; the input reads as it did. -/
def rootSquaresUptoRow : OpenClaim := { program := "ytdfpgoppcflpjaagreatdoor", sum := "33e335afc95633d5d3a5fdb497157f93bc43b6a72564e6fe63479a04102614cb", func := "ziggurat/zigguratlaw16.RootSquares", spec := "rootSquares", inPlace := ["math/bits.Add64", "math/bits.Sub64"], unfollowed := true, recurses := true, named := ["math/bits.divideError", "math/bits.overflowError", "math/bits.deBruijn64tab"], apart := false, laid := [("math/bits.deBruijn64tab", laid_math_bits_deBruijn64tab)], narrowed := true }
def RootSquaresUptoSaid : Prop := rootSquaresUptoRow.holds Tryz.pinned (OpenSpec.upto rootSquaresSpec)

end Rows
end Go.Proofs.YtdfpgoppcflpjaaGreatDoor
