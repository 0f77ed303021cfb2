/-
  NARROWER THAN 'FOR EVERY INPUT', by the rows' own cells (each row's printed sentence says how): PowerPows: laid · PowerBits: laid · PowerFactorials: laid · NumTimes: laid · NumAll: laid · NumEmbeds: laid · NumDivs: laid · NumSums: laid · NumEvens: laid · NumLaws: laid · PowerMods: laid · PowerLaws: laid · PowerTables: laid · RadixTexts: laid · RadixParses: laid · RadixBack: laid · RadixDigits: laid · RadixValues: laid · RadixRound: laid.
  DERIVED. THE GIVEN ROWS OF THIS SEAT. 19 by the template 'for every input the law returns true; each argument reads behind the call as it read before'; 0 by the template 'total and deterministic' (their statements: YtnlkbdmmoplkoaaGreatDoorTotals.lean).
  GIVEN WITH THE SEED: the statements are not yours to turn. If you find one false, say at which input.
  Laid BY PROGRAM, IN A SANDBOX (cutbox-rows.mjs): the forced cells as the released guide's own fill.sh prints them over the translation 7750d4aecf961470… (all of the seat's roots in one cut). By AI agents, Wed Nov 11 2026. No macro, syntax, notation, axiom, sorry.
-/
import Derived.Test.YtnlkbdmmoplkoaaGreatDoorChecked
import GoSem.Claim
import GoSem.ClaimJoined
import GoSem.ClaimMapViews
import Derived.JoinedTies
import Derived.KernelRfl
namespace Go.Proofs.YtnlkbdmmoplkoaaGreatDoor
/- THE CELL 'sum', in the pinned program and in every row, IS THE sha256 OF THE DUMP (.gsa) THAT YtnlkbdmmoplkoaaGreatDoorProg.lean LOADS. Nothing in Lean hashes anything: it is a label: what it is worth is what the hold of that sum in a sandbox is worth. -/
noncomputable def Tryz.pinned : Pinned := { name := "ytnlkbdmmoplkoaagreatdoor", sum := "7750d4aecf961470b6c6afba90329a2162eab33d8c07819f39e1c7a48e9c9c59", checked := Tryz.checked }
namespace Rows
def none {H : Type} : Left H := { results := [], args := [] }

/- WHAT THE LISTED PACKAGE-LEVEL VARIABLES READ AS WHEN THE CALL BEGINS. Each datum BY PROGRAM (the guide's laid-datum.mjs) off the statement by which the dump's own 'gosem.cut.vars' lays the variable. In a bare row this is a premise. The card (YtnlkbdmmoplkoaaGreatDoorCards.lean) ties it to the program's text. -/
def laid_math_bits_deBruijn64tab {H : Type} : DataW H := .agg [.lit (.int .u8 0), .lit (.int .u8 1), .lit (.int .u8 56), .lit (.int .u8 2), .lit (.int .u8 57), .lit (.int .u8 49), .lit (.int .u8 28), .lit (.int .u8 3), .lit (.int .u8 61), .lit (.int .u8 58), .lit (.int .u8 42), .lit (.int .u8 50), .lit (.int .u8 38), .lit (.int .u8 29), .lit (.int .u8 17), .lit (.int .u8 4), .lit (.int .u8 62), .lit (.int .u8 47), .lit (.int .u8 59), .lit (.int .u8 36), .lit (.int .u8 45), .lit (.int .u8 43), .lit (.int .u8 51), .lit (.int .u8 22), .lit (.int .u8 53), .lit (.int .u8 39), .lit (.int .u8 33), .lit (.int .u8 30), .lit (.int .u8 24), .lit (.int .u8 18), .lit (.int .u8 12), .lit (.int .u8 5), .lit (.int .u8 63), .lit (.int .u8 55), .lit (.int .u8 48), .lit (.int .u8 27), .lit (.int .u8 60), .lit (.int .u8 41), .lit (.int .u8 37), .lit (.int .u8 16), .lit (.int .u8 46), .lit (.int .u8 35), .lit (.int .u8 44), .lit (.int .u8 21), .lit (.int .u8 52), .lit (.int .u8 32), .lit (.int .u8 23), .lit (.int .u8 11), .lit (.int .u8 54), .lit (.int .u8 26), .lit (.int .u8 40), .lit (.int .u8 15), .lit (.int .u8 34), .lit (.int .u8 20), .lit (.int .u8 31), .lit (.int .u8 10), .lit (.int .u8 25), .lit (.int .u8 14), .lit (.int .u8 19), .lit (.int .u8 9), .lit (.int .u8 13), .lit (.int .u8 8), .lit (.int .u8 7), .lit (.int .u8 6)]

/-- 'zigguratlaw19.PowerPows': WHATEVER THE INPUT: true; the input reads as it did. -/
def powerPowsSpec : ChangeSpec := { name := "powerPows", fn := fun _ => fun
  | [d1, d2, d3, d4] => { results := [.lit (.bool true)], args := [d1, d2, d3, d4] }
  | _ => none }
def powerPowsRow : OpenClaim := { program := "ytnlkbdmmoplkoaagreatdoor", sum := "7750d4aecf961470b6c6afba90329a2162eab33d8c07819f39e1c7a48e9c9c59", func := "ziggurat/zigguratlaw19.PowerPows", spec := "powerPows", inPlace := ["math/bits.Add64", "math/bits.Sub64"], unfollowed := true, recurses := true, named := ["math/bits.divideError", "math/bits.overflowError", "math/bits.deBruijn64tab"], apart := false, laid := [("math/bits.deBruijn64tab", laid_math_bits_deBruijn64tab)] }
def PowerPowsSaid : Prop := powerPowsRow.holds Tryz.pinned (OpenSpec.ofChange powerPowsSpec)

/-- ITS FALSE NEIGHBOUR: 'it returns false'. Refute it at one input. -/
def powerPowsWrong : ChangeSpec := { name := "powerPows", fn := fun _ => fun
  | [d1, d2, d3, d4] => { results := [.lit (.bool false)], args := [d1, d2, d3, d4] }
  | _ => none }
def PowerPowsWrongFalsely : Prop := powerPowsRow.holds Tryz.pinned (OpenSpec.ofChange powerPowsWrong)

/-- 'zigguratlaw19.PowerBits': WHATEVER THE INPUT: true; the input reads as it did. -/
def powerBitsSpec : ChangeSpec := { name := "powerBits", fn := fun _ => fun
  | [d1, d2] => { results := [.lit (.bool true)], args := [d1, d2] }
  | _ => none }
def powerBitsRow : OpenClaim := { program := "ytnlkbdmmoplkoaagreatdoor", sum := "7750d4aecf961470b6c6afba90329a2162eab33d8c07819f39e1c7a48e9c9c59", func := "ziggurat/zigguratlaw19.PowerBits", spec := "powerBits", inPlace := ["math/bits.Add64", "math/bits.Sub64"], unfollowed := true, recurses := true, named := ["math/bits.divideError", "math/bits.overflowError", "math/bits.deBruijn64tab"], apart := false, laid := [("math/bits.deBruijn64tab", laid_math_bits_deBruijn64tab)] }
def PowerBitsSaid : Prop := powerBitsRow.holds Tryz.pinned (OpenSpec.ofChange powerBitsSpec)

/-- ITS FALSE NEIGHBOUR: 'it returns false'. Refute it at one input. -/
def powerBitsWrong : ChangeSpec := { name := "powerBits", fn := fun _ => fun
  | [d1, d2] => { results := [.lit (.bool false)], args := [d1, d2] }
  | _ => none }
def PowerBitsWrongFalsely : Prop := powerBitsRow.holds Tryz.pinned (OpenSpec.ofChange powerBitsWrong)

/-- 'zigguratlaw19.PowerFactorials': WHATEVER THE INPUT: true; the input reads as it did. -/
def powerFactorialsSpec : ChangeSpec := { name := "powerFactorials", fn := fun _ => fun
  | [d1, d2, d3] => { results := [.lit (.bool true)], args := [d1, d2, d3] }
  | _ => none }
def powerFactorialsRow : OpenClaim := { program := "ytnlkbdmmoplkoaagreatdoor", sum := "7750d4aecf961470b6c6afba90329a2162eab33d8c07819f39e1c7a48e9c9c59", func := "ziggurat/zigguratlaw19.PowerFactorials", spec := "powerFactorials", inPlace := ["math/bits.Add64", "math/bits.Sub64"], unfollowed := true, recurses := true, named := ["math/bits.divideError", "math/bits.overflowError", "math/bits.deBruijn64tab"], apart := false, laid := [("math/bits.deBruijn64tab", laid_math_bits_deBruijn64tab)] }
def PowerFactorialsSaid : Prop := powerFactorialsRow.holds Tryz.pinned (OpenSpec.ofChange powerFactorialsSpec)

/-- ITS FALSE NEIGHBOUR: 'it returns false'. Refute it at one input. -/
def powerFactorialsWrong : ChangeSpec := { name := "powerFactorials", fn := fun _ => fun
  | [d1, d2, d3] => { results := [.lit (.bool false)], args := [d1, d2, d3] }
  | _ => none }
def PowerFactorialsWrongFalsely : Prop := powerFactorialsRow.holds Tryz.pinned (OpenSpec.ofChange powerFactorialsWrong)

/-- 'zigguratlaw18.NumTimes': WHATEVER THE INPUT: true; the input reads as it did. -/
def numTimesSpec : ChangeSpec := { name := "numTimes", fn := fun _ => fun
  | [d1, d2, d3] => { results := [.lit (.bool true)], args := [d1, d2, d3] }
  | _ => none }
def numTimesRow : OpenClaim := { program := "ytnlkbdmmoplkoaagreatdoor", sum := "7750d4aecf961470b6c6afba90329a2162eab33d8c07819f39e1c7a48e9c9c59", func := "ziggurat/zigguratlaw18.NumTimes", spec := "numTimes", inPlace := ["math/bits.Add64", "math/bits.Sub64"], unfollowed := true, recurses := true, named := ["math/bits.divideError", "math/bits.overflowError", "math/bits.deBruijn64tab"], apart := false, laid := [("math/bits.deBruijn64tab", laid_math_bits_deBruijn64tab)] }
def NumTimesSaid : Prop := numTimesRow.holds Tryz.pinned (OpenSpec.ofChange numTimesSpec)

/-- ITS FALSE NEIGHBOUR: 'it returns false'. Refute it at one input. -/
def numTimesWrong : ChangeSpec := { name := "numTimes", fn := fun _ => fun
  | [d1, d2, d3] => { results := [.lit (.bool false)], args := [d1, d2, d3] }
  | _ => none }
def NumTimesWrongFalsely : Prop := numTimesRow.holds Tryz.pinned (OpenSpec.ofChange numTimesWrong)

/-- 'zigguratlaw18.NumAll': WHATEVER THE INPUT: true; the input reads as it did. -/
def numAllSpec : ChangeSpec := { name := "numAll", fn := fun _ => fun
  | [d1, d2] => { results := [.lit (.bool true)], args := [d1, d2] }
  | _ => none }
def numAllRow : OpenClaim := { program := "ytnlkbdmmoplkoaagreatdoor", sum := "7750d4aecf961470b6c6afba90329a2162eab33d8c07819f39e1c7a48e9c9c59", func := "ziggurat/zigguratlaw18.NumAll", spec := "numAll", inPlace := ["math/bits.Add64", "math/bits.Sub64"], unfollowed := true, recurses := true, named := ["math/bits.divideError", "math/bits.overflowError", "math/bits.deBruijn64tab"], apart := false, laid := [("math/bits.deBruijn64tab", laid_math_bits_deBruijn64tab)] }
def NumAllSaid : Prop := numAllRow.holds Tryz.pinned (OpenSpec.ofChange numAllSpec)

/-- ITS FALSE NEIGHBOUR: 'it returns false'. Refute it at one input. -/
def numAllWrong : ChangeSpec := { name := "numAll", fn := fun _ => fun
  | [d1, d2] => { results := [.lit (.bool false)], args := [d1, d2] }
  | _ => none }
def NumAllWrongFalsely : Prop := numAllRow.holds Tryz.pinned (OpenSpec.ofChange numAllWrong)

/-- 'zigguratlaw18.NumEmbeds': WHATEVER THE INPUT: true; the input reads as it did. -/
def numEmbedsSpec : ChangeSpec := { name := "numEmbeds", fn := fun _ => fun
  | [d1, d2] => { results := [.lit (.bool true)], args := [d1, d2] }
  | _ => none }
def numEmbedsRow : OpenClaim := { program := "ytnlkbdmmoplkoaagreatdoor", sum := "7750d4aecf961470b6c6afba90329a2162eab33d8c07819f39e1c7a48e9c9c59", func := "ziggurat/zigguratlaw18.NumEmbeds", spec := "numEmbeds", inPlace := ["math/bits.Add64", "math/bits.Sub64"], unfollowed := true, recurses := true, named := ["math/bits.divideError", "math/bits.overflowError", "math/bits.deBruijn64tab"], apart := false, laid := [("math/bits.deBruijn64tab", laid_math_bits_deBruijn64tab)] }
def NumEmbedsSaid : Prop := numEmbedsRow.holds Tryz.pinned (OpenSpec.ofChange numEmbedsSpec)

/-- ITS FALSE NEIGHBOUR: 'it returns false'. Refute it at one input. -/
def numEmbedsWrong : ChangeSpec := { name := "numEmbeds", fn := fun _ => fun
  | [d1, d2] => { results := [.lit (.bool false)], args := [d1, d2] }
  | _ => none }
def NumEmbedsWrongFalsely : Prop := numEmbedsRow.holds Tryz.pinned (OpenSpec.ofChange numEmbedsWrong)

/-- 'zigguratlaw18.NumDivs': WHATEVER THE INPUT: true; the input reads as it did. -/
def numDivsSpec : ChangeSpec := { name := "numDivs", fn := fun _ => fun
  | [d1, d2, d3] => { results := [.lit (.bool true)], args := [d1, d2, d3] }
  | _ => none }
def numDivsRow : OpenClaim := { program := "ytnlkbdmmoplkoaagreatdoor", sum := "7750d4aecf961470b6c6afba90329a2162eab33d8c07819f39e1c7a48e9c9c59", func := "ziggurat/zigguratlaw18.NumDivs", spec := "numDivs", inPlace := ["math/bits.Add64", "math/bits.Sub64"], unfollowed := true, recurses := true, named := ["math/bits.divideError", "math/bits.overflowError", "math/bits.deBruijn64tab"], apart := false, laid := [("math/bits.deBruijn64tab", laid_math_bits_deBruijn64tab)] }
def NumDivsSaid : Prop := numDivsRow.holds Tryz.pinned (OpenSpec.ofChange numDivsSpec)

/-- ITS FALSE NEIGHBOUR: 'it returns false'. Refute it at one input. -/
def numDivsWrong : ChangeSpec := { name := "numDivs", fn := fun _ => fun
  | [d1, d2, d3] => { results := [.lit (.bool false)], args := [d1, d2, d3] }
  | _ => none }
def NumDivsWrongFalsely : Prop := numDivsRow.holds Tryz.pinned (OpenSpec.ofChange numDivsWrong)

/-- 'zigguratlaw18.NumSums': WHATEVER THE INPUT: true; the input reads as it did. -/
def numSumsSpec : ChangeSpec := { name := "numSums", fn := fun _ => fun
  | [d1, d2] => { results := [.lit (.bool true)], args := [d1, d2] }
  | _ => none }
def numSumsRow : OpenClaim := { program := "ytnlkbdmmoplkoaagreatdoor", sum := "7750d4aecf961470b6c6afba90329a2162eab33d8c07819f39e1c7a48e9c9c59", func := "ziggurat/zigguratlaw18.NumSums", spec := "numSums", inPlace := ["math/bits.Add64", "math/bits.Sub64"], unfollowed := true, recurses := true, named := ["math/bits.divideError", "math/bits.overflowError", "math/bits.deBruijn64tab"], apart := false, laid := [("math/bits.deBruijn64tab", laid_math_bits_deBruijn64tab)] }
def NumSumsSaid : Prop := numSumsRow.holds Tryz.pinned (OpenSpec.ofChange numSumsSpec)

/-- ITS FALSE NEIGHBOUR: 'it returns false'. Refute it at one input. -/
def numSumsWrong : ChangeSpec := { name := "numSums", fn := fun _ => fun
  | [d1, d2] => { results := [.lit (.bool false)], args := [d1, d2] }
  | _ => none }
def NumSumsWrongFalsely : Prop := numSumsRow.holds Tryz.pinned (OpenSpec.ofChange numSumsWrong)

/-- 'zigguratlaw18.NumEvens': WHATEVER THE INPUT: true; the input reads as it did. -/
def numEvensSpec : ChangeSpec := { name := "numEvens", fn := fun _ => fun
  | [d1, d2, d3, d4] => { results := [.lit (.bool true)], args := [d1, d2, d3, d4] }
  | _ => none }
def numEvensRow : OpenClaim := { program := "ytnlkbdmmoplkoaagreatdoor", sum := "7750d4aecf961470b6c6afba90329a2162eab33d8c07819f39e1c7a48e9c9c59", func := "ziggurat/zigguratlaw18.NumEvens", spec := "numEvens", inPlace := ["math/bits.Add64", "math/bits.Sub64"], unfollowed := true, recurses := true, named := ["math/bits.divideError", "math/bits.overflowError", "math/bits.deBruijn64tab"], apart := false, laid := [("math/bits.deBruijn64tab", laid_math_bits_deBruijn64tab)] }
def NumEvensSaid : Prop := numEvensRow.holds Tryz.pinned (OpenSpec.ofChange numEvensSpec)

/-- ITS FALSE NEIGHBOUR: 'it returns false'. Refute it at one input. -/
def numEvensWrong : ChangeSpec := { name := "numEvens", fn := fun _ => fun
  | [d1, d2, d3, d4] => { results := [.lit (.bool false)], args := [d1, d2, d3, d4] }
  | _ => none }
def NumEvensWrongFalsely : Prop := numEvensRow.holds Tryz.pinned (OpenSpec.ofChange numEvensWrong)

/-- 'zigguratlaw18.NumLaws': WHATEVER THE INPUT: true; the input reads as it did. -/
def numLawsSpec : ChangeSpec := { name := "numLaws", fn := fun _ => fun
  | [d1, d2, d3] => { results := [.lit (.bool true)], args := [d1, d2, d3] }
  | _ => none }
def numLawsRow : OpenClaim := { program := "ytnlkbdmmoplkoaagreatdoor", sum := "7750d4aecf961470b6c6afba90329a2162eab33d8c07819f39e1c7a48e9c9c59", func := "ziggurat/zigguratlaw18.NumLaws", spec := "numLaws", inPlace := ["math/bits.Add64", "math/bits.Sub64"], unfollowed := true, recurses := true, named := ["math/bits.divideError", "math/bits.overflowError", "math/bits.deBruijn64tab"], apart := false, laid := [("math/bits.deBruijn64tab", laid_math_bits_deBruijn64tab)] }
def NumLawsSaid : Prop := numLawsRow.holds Tryz.pinned (OpenSpec.ofChange numLawsSpec)

/-- ITS FALSE NEIGHBOUR: 'it returns false'. Refute it at one input. -/
def numLawsWrong : ChangeSpec := { name := "numLaws", fn := fun _ => fun
  | [d1, d2, d3] => { results := [.lit (.bool false)], args := [d1, d2, d3] }
  | _ => none }
def NumLawsWrongFalsely : Prop := numLawsRow.holds Tryz.pinned (OpenSpec.ofChange numLawsWrong)

/-- 'zigguratlaw19.PowerMods': WHATEVER THE INPUT: true; the input reads as it did. -/
def powerModsSpec : ChangeSpec := { name := "powerMods", fn := fun _ => fun
  | [d1, d2, d3, d4] => { results := [.lit (.bool true)], args := [d1, d2, d3, d4] }
  | _ => none }
def powerModsRow : OpenClaim := { program := "ytnlkbdmmoplkoaagreatdoor", sum := "7750d4aecf961470b6c6afba90329a2162eab33d8c07819f39e1c7a48e9c9c59", func := "ziggurat/zigguratlaw19.PowerMods", spec := "powerMods", inPlace := ["math/bits.Add64", "math/bits.Sub64"], unfollowed := true, recurses := true, named := ["math/bits.divideError", "math/bits.overflowError", "math/bits.deBruijn64tab"], apart := false, laid := [("math/bits.deBruijn64tab", laid_math_bits_deBruijn64tab)] }
def PowerModsSaid : Prop := powerModsRow.holds Tryz.pinned (OpenSpec.ofChange powerModsSpec)

/-- ITS FALSE NEIGHBOUR: 'it returns false'. Refute it at one input. -/
def powerModsWrong : ChangeSpec := { name := "powerMods", fn := fun _ => fun
  | [d1, d2, d3, d4] => { results := [.lit (.bool false)], args := [d1, d2, d3, d4] }
  | _ => none }
def PowerModsWrongFalsely : Prop := powerModsRow.holds Tryz.pinned (OpenSpec.ofChange powerModsWrong)

/-- 'zigguratlaw19.PowerLaws': WHATEVER THE INPUT: true; the input reads as it did. -/
def powerLawsSpec : ChangeSpec := { name := "powerLaws", fn := fun _ => fun
  | [d1, d2, d3, d4, d5] => { results := [.lit (.bool true)], args := [d1, d2, d3, d4, d5] }
  | _ => none }
def powerLawsRow : OpenClaim := { program := "ytnlkbdmmoplkoaagreatdoor", sum := "7750d4aecf961470b6c6afba90329a2162eab33d8c07819f39e1c7a48e9c9c59", func := "ziggurat/zigguratlaw19.PowerLaws", spec := "powerLaws", inPlace := ["math/bits.Add64", "math/bits.Sub64"], unfollowed := true, recurses := true, named := ["math/bits.divideError", "math/bits.overflowError", "math/bits.deBruijn64tab"], apart := false, laid := [("math/bits.deBruijn64tab", laid_math_bits_deBruijn64tab)] }
def PowerLawsSaid : Prop := powerLawsRow.holds Tryz.pinned (OpenSpec.ofChange powerLawsSpec)

/-- ITS FALSE NEIGHBOUR: 'it returns false'. Refute it at one input. -/
def powerLawsWrong : ChangeSpec := { name := "powerLaws", fn := fun _ => fun
  | [d1, d2, d3, d4, d5] => { results := [.lit (.bool false)], args := [d1, d2, d3, d4, d5] }
  | _ => none }
def PowerLawsWrongFalsely : Prop := powerLawsRow.holds Tryz.pinned (OpenSpec.ofChange powerLawsWrong)

/-- 'zigguratlaw19.PowerTables': WHATEVER THE INPUT: true; the input reads as it did. -/
def powerTablesSpec : ChangeSpec := { name := "powerTables", fn := fun _ => fun
  | [d1, d2, d3, d4, d5, d6, d7] => { results := [.lit (.bool true)], args := [d1, d2, d3, d4, d5, d6, d7] }
  | _ => none }
def powerTablesRow : OpenClaim := { program := "ytnlkbdmmoplkoaagreatdoor", sum := "7750d4aecf961470b6c6afba90329a2162eab33d8c07819f39e1c7a48e9c9c59", func := "ziggurat/zigguratlaw19.PowerTables", spec := "powerTables", inPlace := ["math/bits.Add64", "math/bits.Sub64"], unfollowed := true, recurses := true, named := ["math/bits.divideError", "math/bits.overflowError", "math/bits.deBruijn64tab"], apart := false, laid := [("math/bits.deBruijn64tab", laid_math_bits_deBruijn64tab)] }
def PowerTablesSaid : Prop := powerTablesRow.holds Tryz.pinned (OpenSpec.ofChange powerTablesSpec)

/-- ITS FALSE NEIGHBOUR: 'it returns false'. Refute it at one input. -/
def powerTablesWrong : ChangeSpec := { name := "powerTables", fn := fun _ => fun
  | [d1, d2, d3, d4, d5, d6, d7] => { results := [.lit (.bool false)], args := [d1, d2, d3, d4, d5, d6, d7] }
  | _ => none }
def PowerTablesWrongFalsely : Prop := powerTablesRow.holds Tryz.pinned (OpenSpec.ofChange powerTablesWrong)

/-- 'zigguratlaw17.RadixTexts': WHATEVER THE INPUT: true; the input reads as it did. -/
def radixTextsSpec : ChangeSpec := { name := "radixTexts", fn := fun _ => fun
  | [d1, d2, d3] => { results := [.lit (.bool true)], args := [d1, d2, d3] }
  | _ => none }
def radixTextsRow : OpenClaim := { program := "ytnlkbdmmoplkoaagreatdoor", sum := "7750d4aecf961470b6c6afba90329a2162eab33d8c07819f39e1c7a48e9c9c59", func := "ziggurat/zigguratlaw17.RadixTexts", spec := "radixTexts", inPlace := ["math/bits.Add64", "math/bits.Sub64"], unfollowed := true, recurses := true, named := ["math/bits.divideError", "math/bits.overflowError", "math/bits.deBruijn64tab"], apart := false, laid := [("math/bits.deBruijn64tab", laid_math_bits_deBruijn64tab)] }
def RadixTextsSaid : Prop := radixTextsRow.holds Tryz.pinned (OpenSpec.ofChange radixTextsSpec)

/-- ITS FALSE NEIGHBOUR: 'it returns false'. Refute it at one input. -/
def radixTextsWrong : ChangeSpec := { name := "radixTexts", fn := fun _ => fun
  | [d1, d2, d3] => { results := [.lit (.bool false)], args := [d1, d2, d3] }
  | _ => none }
def RadixTextsWrongFalsely : Prop := radixTextsRow.holds Tryz.pinned (OpenSpec.ofChange radixTextsWrong)

/-- 'zigguratlaw17.RadixParses': WHATEVER THE INPUT: true; the input reads as it did. -/
def radixParsesSpec : ChangeSpec := { name := "radixParses", fn := fun _ => fun
  | [d1, d2, d3] => { results := [.lit (.bool true)], args := [d1, d2, d3] }
  | _ => none }
def radixParsesRow : OpenClaim := { program := "ytnlkbdmmoplkoaagreatdoor", sum := "7750d4aecf961470b6c6afba90329a2162eab33d8c07819f39e1c7a48e9c9c59", func := "ziggurat/zigguratlaw17.RadixParses", spec := "radixParses", inPlace := ["math/bits.Add64", "math/bits.Sub64"], unfollowed := true, recurses := true, named := ["math/bits.divideError", "math/bits.overflowError", "math/bits.deBruijn64tab"], apart := false, laid := [("math/bits.deBruijn64tab", laid_math_bits_deBruijn64tab)] }
def RadixParsesSaid : Prop := radixParsesRow.holds Tryz.pinned (OpenSpec.ofChange radixParsesSpec)

/-- ITS FALSE NEIGHBOUR: 'it returns false'. Refute it at one input. -/
def radixParsesWrong : ChangeSpec := { name := "radixParses", fn := fun _ => fun
  | [d1, d2, d3] => { results := [.lit (.bool false)], args := [d1, d2, d3] }
  | _ => none }
def RadixParsesWrongFalsely : Prop := radixParsesRow.holds Tryz.pinned (OpenSpec.ofChange radixParsesWrong)

/-- 'zigguratlaw17.RadixBack': WHATEVER THE INPUT: true; the input reads as it did. -/
def radixBackSpec : ChangeSpec := { name := "radixBack", fn := fun _ => fun
  | [d1, d2, d3, d4, d5] => { results := [.lit (.bool true)], args := [d1, d2, d3, d4, d5] }
  | _ => none }
def radixBackRow : OpenClaim := { program := "ytnlkbdmmoplkoaagreatdoor", sum := "7750d4aecf961470b6c6afba90329a2162eab33d8c07819f39e1c7a48e9c9c59", func := "ziggurat/zigguratlaw17.RadixBack", spec := "radixBack", inPlace := ["math/bits.Add64", "math/bits.Sub64"], unfollowed := true, recurses := true, named := ["math/bits.divideError", "math/bits.overflowError", "math/bits.deBruijn64tab"], apart := false, laid := [("math/bits.deBruijn64tab", laid_math_bits_deBruijn64tab)] }
def RadixBackSaid : Prop := radixBackRow.holds Tryz.pinned (OpenSpec.ofChange radixBackSpec)

/-- ITS FALSE NEIGHBOUR: 'it returns false'. Refute it at one input. -/
def radixBackWrong : ChangeSpec := { name := "radixBack", fn := fun _ => fun
  | [d1, d2, d3, d4, d5] => { results := [.lit (.bool false)], args := [d1, d2, d3, d4, d5] }
  | _ => none }
def RadixBackWrongFalsely : Prop := radixBackRow.holds Tryz.pinned (OpenSpec.ofChange radixBackWrong)

/-- 'zigguratlaw17.RadixDigits': WHATEVER THE INPUT: true; the input reads as it did. -/
def radixDigitsSpec : ChangeSpec := { name := "radixDigits", fn := fun _ => fun
  | [d1, d2, d3] => { results := [.lit (.bool true)], args := [d1, d2, d3] }
  | _ => none }
def radixDigitsRow : OpenClaim := { program := "ytnlkbdmmoplkoaagreatdoor", sum := "7750d4aecf961470b6c6afba90329a2162eab33d8c07819f39e1c7a48e9c9c59", func := "ziggurat/zigguratlaw17.RadixDigits", spec := "radixDigits", inPlace := ["math/bits.Add64", "math/bits.Sub64"], unfollowed := true, recurses := true, named := ["math/bits.divideError", "math/bits.overflowError", "math/bits.deBruijn64tab"], apart := false, laid := [("math/bits.deBruijn64tab", laid_math_bits_deBruijn64tab)] }
def RadixDigitsSaid : Prop := radixDigitsRow.holds Tryz.pinned (OpenSpec.ofChange radixDigitsSpec)

/-- ITS FALSE NEIGHBOUR: 'it returns false'. Refute it at one input. -/
def radixDigitsWrong : ChangeSpec := { name := "radixDigits", fn := fun _ => fun
  | [d1, d2, d3] => { results := [.lit (.bool false)], args := [d1, d2, d3] }
  | _ => none }
def RadixDigitsWrongFalsely : Prop := radixDigitsRow.holds Tryz.pinned (OpenSpec.ofChange radixDigitsWrong)

/-- 'zigguratlaw17.RadixValues': WHATEVER THE INPUT: true; the input reads as it did. -/
def radixValuesSpec : ChangeSpec := { name := "radixValues", fn := fun _ => fun
  | [d1, d2, d3, d4] => { results := [.lit (.bool true)], args := [d1, d2, d3, d4] }
  | _ => none }
def radixValuesRow : OpenClaim := { program := "ytnlkbdmmoplkoaagreatdoor", sum := "7750d4aecf961470b6c6afba90329a2162eab33d8c07819f39e1c7a48e9c9c59", func := "ziggurat/zigguratlaw17.RadixValues", spec := "radixValues", inPlace := ["math/bits.Add64", "math/bits.Sub64"], unfollowed := true, recurses := true, named := ["math/bits.divideError", "math/bits.overflowError", "math/bits.deBruijn64tab"], apart := false, laid := [("math/bits.deBruijn64tab", laid_math_bits_deBruijn64tab)] }
def RadixValuesSaid : Prop := radixValuesRow.holds Tryz.pinned (OpenSpec.ofChange radixValuesSpec)

/-- ITS FALSE NEIGHBOUR: 'it returns false'. Refute it at one input. -/
def radixValuesWrong : ChangeSpec := { name := "radixValues", fn := fun _ => fun
  | [d1, d2, d3, d4] => { results := [.lit (.bool false)], args := [d1, d2, d3, d4] }
  | _ => none }
def RadixValuesWrongFalsely : Prop := radixValuesRow.holds Tryz.pinned (OpenSpec.ofChange radixValuesWrong)

/-- 'zigguratlaw17.RadixRound': WHATEVER THE INPUT: true; the input reads as it did. -/
def radixRoundSpec : ChangeSpec := { name := "radixRound", fn := fun _ => fun
  | [d1, d2, d3, d4] => { results := [.lit (.bool true)], args := [d1, d2, d3, d4] }
  | _ => none }
def radixRoundRow : OpenClaim := { program := "ytnlkbdmmoplkoaagreatdoor", sum := "7750d4aecf961470b6c6afba90329a2162eab33d8c07819f39e1c7a48e9c9c59", func := "ziggurat/zigguratlaw17.RadixRound", spec := "radixRound", inPlace := ["math/bits.Add64", "math/bits.Sub64"], unfollowed := true, recurses := true, named := ["math/bits.divideError", "math/bits.overflowError", "math/bits.deBruijn64tab"], apart := false, laid := [("math/bits.deBruijn64tab", laid_math_bits_deBruijn64tab)] }
def RadixRoundSaid : Prop := radixRoundRow.holds Tryz.pinned (OpenSpec.ofChange radixRoundSpec)

/-- ITS FALSE NEIGHBOUR: 'it returns false'. Refute it at one input. -/
def radixRoundWrong : ChangeSpec := { name := "radixRound", fn := fun _ => fun
  | [d1, d2, d3, d4] => { results := [.lit (.bool false)], args := [d1, d2, d3, d4] }
  | _ => none }
def RadixRoundWrongFalsely : Prop := radixRoundRow.holds Tryz.pinned (OpenSpec.ofChange radixRoundWrong)

/- THE SECOND FORM. 'bulk': how many values and letters a reading holds, each counted each time it is reached (what is shared counts as often as it is met; a slice's spare places count too). A statement '..UptoSaid' is the law's where the arguments, and the package variables that the reading takes, are together of bulk at most 1048576: NARROWER than '..Said'. Prove '..Said' where nothing that the law and all that it calls make is longer than what came in: it says more and counts as full. Else prove '..UptoSaid'. A law counts once. -/
mutual
def uptoBulk {H : Type} : DataW H → Nat
  | .lit (.string bytes) => bytes.length + 1
  | .lit _ => 1
  | .nil => 1
  | .ptr d => uptoBulk d + 1
  | .slice elems spare => uptoBulkAll elems + uptoBulkAll spare + 1
  | .agg parts => uptoBulkAll parts + 1
  | .iface _ d => uptoBulk d + 1
  | .map entries => uptoBulkEntries entries + 1
  | .held _ => 1
def uptoBulkAll {H : Type} : List (DataW H) → Nat
  | [] => 0
  | d :: r => uptoBulk d + uptoBulkAll r
def uptoBulkEntries {H : Type} : List (Lit × DataW H) → Nat
  | [] => 0
  | x :: r => uptoBulkEntry x + uptoBulkEntries r
def uptoBulkEntry {H : Type} : Lit × DataW H → Nat
  | (.string bytes, d) => bytes.length + uptoBulk d + 1
  | (_, d) => uptoBulk d + 1
 end
def uptoSmall : (H : Type) → List (DataW H) → Bool := fun _ ds => decide (uptoBulkAll ds ≤ 1048576)
def OpenSpec.upto (s : _root_.Go.ChangeSpec) : _root_.Go.OpenSpec := { _root_.Go.OpenSpec.ofChange s with cond := some uptoSmall }

/-- 'zigguratlaw19.PowerPows', WHERE WHAT IT READS IS OF BULK AT MOST 1048576: true; the input reads as it did. -/
def powerPowsUptoRow : OpenClaim := { program := "ytnlkbdmmoplkoaagreatdoor", sum := "7750d4aecf961470b6c6afba90329a2162eab33d8c07819f39e1c7a48e9c9c59", func := "ziggurat/zigguratlaw19.PowerPows", spec := "powerPows", inPlace := ["math/bits.Add64", "math/bits.Sub64"], unfollowed := true, recurses := true, named := ["math/bits.divideError", "math/bits.overflowError", "math/bits.deBruijn64tab"], apart := false, laid := [("math/bits.deBruijn64tab", laid_math_bits_deBruijn64tab)], narrowed := true }
def PowerPowsUptoSaid : Prop := powerPowsUptoRow.holds Tryz.pinned (OpenSpec.upto powerPowsSpec)

/-- 'zigguratlaw19.PowerBits', WHERE WHAT IT READS IS OF BULK AT MOST 1048576: true; the input reads as it did. -/
def powerBitsUptoRow : OpenClaim := { program := "ytnlkbdmmoplkoaagreatdoor", sum := "7750d4aecf961470b6c6afba90329a2162eab33d8c07819f39e1c7a48e9c9c59", func := "ziggurat/zigguratlaw19.PowerBits", spec := "powerBits", inPlace := ["math/bits.Add64", "math/bits.Sub64"], unfollowed := true, recurses := true, named := ["math/bits.divideError", "math/bits.overflowError", "math/bits.deBruijn64tab"], apart := false, laid := [("math/bits.deBruijn64tab", laid_math_bits_deBruijn64tab)], narrowed := true }
def PowerBitsUptoSaid : Prop := powerBitsUptoRow.holds Tryz.pinned (OpenSpec.upto powerBitsSpec)

/-- 'zigguratlaw19.PowerFactorials', WHERE WHAT IT READS IS OF BULK AT MOST 1048576: true; the input reads as it did. -/
def powerFactorialsUptoRow : OpenClaim := { program := "ytnlkbdmmoplkoaagreatdoor", sum := "7750d4aecf961470b6c6afba90329a2162eab33d8c07819f39e1c7a48e9c9c59", func := "ziggurat/zigguratlaw19.PowerFactorials", spec := "powerFactorials", inPlace := ["math/bits.Add64", "math/bits.Sub64"], unfollowed := true, recurses := true, named := ["math/bits.divideError", "math/bits.overflowError", "math/bits.deBruijn64tab"], apart := false, laid := [("math/bits.deBruijn64tab", laid_math_bits_deBruijn64tab)], narrowed := true }
def PowerFactorialsUptoSaid : Prop := powerFactorialsUptoRow.holds Tryz.pinned (OpenSpec.upto powerFactorialsSpec)

/-- 'zigguratlaw18.NumTimes', WHERE WHAT IT READS IS OF BULK AT MOST 1048576: true; the input reads as it did. -/
def numTimesUptoRow : OpenClaim := { program := "ytnlkbdmmoplkoaagreatdoor", sum := "7750d4aecf961470b6c6afba90329a2162eab33d8c07819f39e1c7a48e9c9c59", func := "ziggurat/zigguratlaw18.NumTimes", spec := "numTimes", inPlace := ["math/bits.Add64", "math/bits.Sub64"], unfollowed := true, recurses := true, named := ["math/bits.divideError", "math/bits.overflowError", "math/bits.deBruijn64tab"], apart := false, laid := [("math/bits.deBruijn64tab", laid_math_bits_deBruijn64tab)], narrowed := true }
def NumTimesUptoSaid : Prop := numTimesUptoRow.holds Tryz.pinned (OpenSpec.upto numTimesSpec)

/-- 'zigguratlaw18.NumAll', WHERE WHAT IT READS IS OF BULK AT MOST 1048576: true; the input reads as it did. -/
def numAllUptoRow : OpenClaim := { program := "ytnlkbdmmoplkoaagreatdoor", sum := "7750d4aecf961470b6c6afba90329a2162eab33d8c07819f39e1c7a48e9c9c59", func := "ziggurat/zigguratlaw18.NumAll", spec := "numAll", inPlace := ["math/bits.Add64", "math/bits.Sub64"], unfollowed := true, recurses := true, named := ["math/bits.divideError", "math/bits.overflowError", "math/bits.deBruijn64tab"], apart := false, laid := [("math/bits.deBruijn64tab", laid_math_bits_deBruijn64tab)], narrowed := true }
def NumAllUptoSaid : Prop := numAllUptoRow.holds Tryz.pinned (OpenSpec.upto numAllSpec)

/-- 'zigguratlaw18.NumEmbeds', WHERE WHAT IT READS IS OF BULK AT MOST 1048576: true; the input reads as it did. -/
def numEmbedsUptoRow : OpenClaim := { program := "ytnlkbdmmoplkoaagreatdoor", sum := "7750d4aecf961470b6c6afba90329a2162eab33d8c07819f39e1c7a48e9c9c59", func := "ziggurat/zigguratlaw18.NumEmbeds", spec := "numEmbeds", inPlace := ["math/bits.Add64", "math/bits.Sub64"], unfollowed := true, recurses := true, named := ["math/bits.divideError", "math/bits.overflowError", "math/bits.deBruijn64tab"], apart := false, laid := [("math/bits.deBruijn64tab", laid_math_bits_deBruijn64tab)], narrowed := true }
def NumEmbedsUptoSaid : Prop := numEmbedsUptoRow.holds Tryz.pinned (OpenSpec.upto numEmbedsSpec)

/-- 'zigguratlaw18.NumDivs', WHERE WHAT IT READS IS OF BULK AT MOST 1048576: true; the input reads as it did. -/
def numDivsUptoRow : OpenClaim := { program := "ytnlkbdmmoplkoaagreatdoor", sum := "7750d4aecf961470b6c6afba90329a2162eab33d8c07819f39e1c7a48e9c9c59", func := "ziggurat/zigguratlaw18.NumDivs", spec := "numDivs", inPlace := ["math/bits.Add64", "math/bits.Sub64"], unfollowed := true, recurses := true, named := ["math/bits.divideError", "math/bits.overflowError", "math/bits.deBruijn64tab"], apart := false, laid := [("math/bits.deBruijn64tab", laid_math_bits_deBruijn64tab)], narrowed := true }
def NumDivsUptoSaid : Prop := numDivsUptoRow.holds Tryz.pinned (OpenSpec.upto numDivsSpec)

/-- 'zigguratlaw18.NumSums', WHERE WHAT IT READS IS OF BULK AT MOST 1048576: true; the input reads as it did. -/
def numSumsUptoRow : OpenClaim := { program := "ytnlkbdmmoplkoaagreatdoor", sum := "7750d4aecf961470b6c6afba90329a2162eab33d8c07819f39e1c7a48e9c9c59", func := "ziggurat/zigguratlaw18.NumSums", spec := "numSums", inPlace := ["math/bits.Add64", "math/bits.Sub64"], unfollowed := true, recurses := true, named := ["math/bits.divideError", "math/bits.overflowError", "math/bits.deBruijn64tab"], apart := false, laid := [("math/bits.deBruijn64tab", laid_math_bits_deBruijn64tab)], narrowed := true }
def NumSumsUptoSaid : Prop := numSumsUptoRow.holds Tryz.pinned (OpenSpec.upto numSumsSpec)

/-- 'zigguratlaw18.NumEvens', WHERE WHAT IT READS IS OF BULK AT MOST 1048576: true; the input reads as it did. -/
def numEvensUptoRow : OpenClaim := { program := "ytnlkbdmmoplkoaagreatdoor", sum := "7750d4aecf961470b6c6afba90329a2162eab33d8c07819f39e1c7a48e9c9c59", func := "ziggurat/zigguratlaw18.NumEvens", spec := "numEvens", inPlace := ["math/bits.Add64", "math/bits.Sub64"], unfollowed := true, recurses := true, named := ["math/bits.divideError", "math/bits.overflowError", "math/bits.deBruijn64tab"], apart := false, laid := [("math/bits.deBruijn64tab", laid_math_bits_deBruijn64tab)], narrowed := true }
def NumEvensUptoSaid : Prop := numEvensUptoRow.holds Tryz.pinned (OpenSpec.upto numEvensSpec)

/-- 'zigguratlaw18.NumLaws', WHERE WHAT IT READS IS OF BULK AT MOST 1048576: true; the input reads as it did. -/
def numLawsUptoRow : OpenClaim := { program := "ytnlkbdmmoplkoaagreatdoor", sum := "7750d4aecf961470b6c6afba90329a2162eab33d8c07819f39e1c7a48e9c9c59", func := "ziggurat/zigguratlaw18.NumLaws", spec := "numLaws", inPlace := ["math/bits.Add64", "math/bits.Sub64"], unfollowed := true, recurses := true, named := ["math/bits.divideError", "math/bits.overflowError", "math/bits.deBruijn64tab"], apart := false, laid := [("math/bits.deBruijn64tab", laid_math_bits_deBruijn64tab)], narrowed := true }
def NumLawsUptoSaid : Prop := numLawsUptoRow.holds Tryz.pinned (OpenSpec.upto numLawsSpec)

/-- 'zigguratlaw19.PowerMods', WHERE WHAT IT READS IS OF BULK AT MOST 1048576: true; the input reads as it did. -/
def powerModsUptoRow : OpenClaim := { program := "ytnlkbdmmoplkoaagreatdoor", sum := "7750d4aecf961470b6c6afba90329a2162eab33d8c07819f39e1c7a48e9c9c59", func := "ziggurat/zigguratlaw19.PowerMods", spec := "powerMods", inPlace := ["math/bits.Add64", "math/bits.Sub64"], unfollowed := true, recurses := true, named := ["math/bits.divideError", "math/bits.overflowError", "math/bits.deBruijn64tab"], apart := false, laid := [("math/bits.deBruijn64tab", laid_math_bits_deBruijn64tab)], narrowed := true }
def PowerModsUptoSaid : Prop := powerModsUptoRow.holds Tryz.pinned (OpenSpec.upto powerModsSpec)

/-- 'zigguratlaw19.PowerLaws', WHERE WHAT IT READS IS OF BULK AT MOST 1048576: true; the input reads as it did. -/
def powerLawsUptoRow : OpenClaim := { program := "ytnlkbdmmoplkoaagreatdoor", sum := "7750d4aecf961470b6c6afba90329a2162eab33d8c07819f39e1c7a48e9c9c59", func := "ziggurat/zigguratlaw19.PowerLaws", spec := "powerLaws", inPlace := ["math/bits.Add64", "math/bits.Sub64"], unfollowed := true, recurses := true, named := ["math/bits.divideError", "math/bits.overflowError", "math/bits.deBruijn64tab"], apart := false, laid := [("math/bits.deBruijn64tab", laid_math_bits_deBruijn64tab)], narrowed := true }
def PowerLawsUptoSaid : Prop := powerLawsUptoRow.holds Tryz.pinned (OpenSpec.upto powerLawsSpec)

/-- 'zigguratlaw19.PowerTables', WHERE WHAT IT READS IS OF BULK AT MOST 1048576: true; the input reads as it did. -/
def powerTablesUptoRow : OpenClaim := { program := "ytnlkbdmmoplkoaagreatdoor", sum := "7750d4aecf961470b6c6afba90329a2162eab33d8c07819f39e1c7a48e9c9c59", func := "ziggurat/zigguratlaw19.PowerTables", spec := "powerTables", inPlace := ["math/bits.Add64", "math/bits.Sub64"], unfollowed := true, recurses := true, named := ["math/bits.divideError", "math/bits.overflowError", "math/bits.deBruijn64tab"], apart := false, laid := [("math/bits.deBruijn64tab", laid_math_bits_deBruijn64tab)], narrowed := true }
def PowerTablesUptoSaid : Prop := powerTablesUptoRow.holds Tryz.pinned (OpenSpec.upto powerTablesSpec)

/-- 'zigguratlaw17.RadixTexts', WHERE WHAT IT READS IS OF BULK AT MOST 1048576: true; the input reads as it did. -/
def radixTextsUptoRow : OpenClaim := { program := "ytnlkbdmmoplkoaagreatdoor", sum := "7750d4aecf961470b6c6afba90329a2162eab33d8c07819f39e1c7a48e9c9c59", func := "ziggurat/zigguratlaw17.RadixTexts", spec := "radixTexts", inPlace := ["math/bits.Add64", "math/bits.Sub64"], unfollowed := true, recurses := true, named := ["math/bits.divideError", "math/bits.overflowError", "math/bits.deBruijn64tab"], apart := false, laid := [("math/bits.deBruijn64tab", laid_math_bits_deBruijn64tab)], narrowed := true }
def RadixTextsUptoSaid : Prop := radixTextsUptoRow.holds Tryz.pinned (OpenSpec.upto radixTextsSpec)

/-- 'zigguratlaw17.RadixParses', WHERE WHAT IT READS IS OF BULK AT MOST 1048576: true; the input reads as it did. -/
def radixParsesUptoRow : OpenClaim := { program := "ytnlkbdmmoplkoaagreatdoor", sum := "7750d4aecf961470b6c6afba90329a2162eab33d8c07819f39e1c7a48e9c9c59", func := "ziggurat/zigguratlaw17.RadixParses", spec := "radixParses", inPlace := ["math/bits.Add64", "math/bits.Sub64"], unfollowed := true, recurses := true, named := ["math/bits.divideError", "math/bits.overflowError", "math/bits.deBruijn64tab"], apart := false, laid := [("math/bits.deBruijn64tab", laid_math_bits_deBruijn64tab)], narrowed := true }
def RadixParsesUptoSaid : Prop := radixParsesUptoRow.holds Tryz.pinned (OpenSpec.upto radixParsesSpec)

/-- 'zigguratlaw17.RadixBack', WHERE WHAT IT READS IS OF BULK AT MOST 1048576: true; the input reads as it did. -/
def radixBackUptoRow : OpenClaim := { program := "ytnlkbdmmoplkoaagreatdoor", sum := "7750d4aecf961470b6c6afba90329a2162eab33d8c07819f39e1c7a48e9c9c59", func := "ziggurat/zigguratlaw17.RadixBack", spec := "radixBack", inPlace := ["math/bits.Add64", "math/bits.Sub64"], unfollowed := true, recurses := true, named := ["math/bits.divideError", "math/bits.overflowError", "math/bits.deBruijn64tab"], apart := false, laid := [("math/bits.deBruijn64tab", laid_math_bits_deBruijn64tab)], narrowed := true }
def RadixBackUptoSaid : Prop := radixBackUptoRow.holds Tryz.pinned (OpenSpec.upto radixBackSpec)

/-- 'zigguratlaw17.RadixDigits', WHERE WHAT IT READS IS OF BULK AT MOST 1048576: true; the input reads as it did. -/
def radixDigitsUptoRow : OpenClaim := { program := "ytnlkbdmmoplkoaagreatdoor", sum := "7750d4aecf961470b6c6afba90329a2162eab33d8c07819f39e1c7a48e9c9c59", func := "ziggurat/zigguratlaw17.RadixDigits", spec := "radixDigits", inPlace := ["math/bits.Add64", "math/bits.Sub64"], unfollowed := true, recurses := true, named := ["math/bits.divideError", "math/bits.overflowError", "math/bits.deBruijn64tab"], apart := false, laid := [("math/bits.deBruijn64tab", laid_math_bits_deBruijn64tab)], narrowed := true }
def RadixDigitsUptoSaid : Prop := radixDigitsUptoRow.holds Tryz.pinned (OpenSpec.upto radixDigitsSpec)

/-- 'zigguratlaw17.RadixValues', WHERE WHAT IT READS IS OF BULK AT MOST 1048576: true; the input reads as it did. -/
def radixValuesUptoRow : OpenClaim := { program := "ytnlkbdmmoplkoaagreatdoor", sum := "7750d4aecf961470b6c6afba90329a2162eab33d8c07819f39e1c7a48e9c9c59", func := "ziggurat/zigguratlaw17.RadixValues", spec := "radixValues", inPlace := ["math/bits.Add64", "math/bits.Sub64"], unfollowed := true, recurses := true, named := ["math/bits.divideError", "math/bits.overflowError", "math/bits.deBruijn64tab"], apart := false, laid := [("math/bits.deBruijn64tab", laid_math_bits_deBruijn64tab)], narrowed := true }
def RadixValuesUptoSaid : Prop := radixValuesUptoRow.holds Tryz.pinned (OpenSpec.upto radixValuesSpec)

/-- 'zigguratlaw17.RadixRound', WHERE WHAT IT READS IS OF BULK AT MOST 1048576: true; the input reads as it did. -/
def radixRoundUptoRow : OpenClaim := { program := "ytnlkbdmmoplkoaagreatdoor", sum := "7750d4aecf961470b6c6afba90329a2162eab33d8c07819f39e1c7a48e9c9c59", func := "ziggurat/zigguratlaw17.RadixRound", spec := "radixRound", inPlace := ["math/bits.Add64", "math/bits.Sub64"], unfollowed := true, recurses := true, named := ["math/bits.divideError", "math/bits.overflowError", "math/bits.deBruijn64tab"], apart := false, laid := [("math/bits.deBruijn64tab", laid_math_bits_deBruijn64tab)], narrowed := true }
def RadixRoundUptoSaid : Prop := radixRoundUptoRow.holds Tryz.pinned (OpenSpec.upto radixRoundSpec)

end Rows
end Go.Proofs.YtnlkbdmmoplkoaaGreatDoor
