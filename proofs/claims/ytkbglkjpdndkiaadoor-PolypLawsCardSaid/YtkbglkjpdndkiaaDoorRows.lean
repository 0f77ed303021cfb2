/-
  NARROWER THAN 'FOR EVERY INPUT', by the rows' own cells (each row's printed sentence says how): PolypNews: laid · PolypShifts: laid · PolypTimes: laid · PolypValues: laid · PolypSums: laid · PolypLaws: laid.
  DERIVED. THE GIVEN ROWS OF THIS SEAT. 6 by the template 'for every input the law returns true; each argument reads behind the call as it read before'; 0 by the template 'total and deterministic' (their statements: YtkbglkjpdndkiaaDoorTotals.lean).
  GIVEN WITH THE SEED: the statements are not yours to turn. If you find one false, say at which input.
  Laid BY PROGRAM, IN A SANDBOX (cutbox-rows.mjs): the forced cells as the released guide's own fill.sh prints them over the translation a275d0b27b2f3344… (all of the seat's roots in one cut). By AI agents, Wed Nov 11 2026. No macro, syntax, notation, axiom, sorry.
-/
import Derived.Test.YtkbglkjpdndkiaaDoorChecked
import GoSem.Claim
import GoSem.ClaimJoined
import GoSem.ClaimMapViews
import Derived.JoinedTies
import Derived.KernelRfl
namespace Go.Proofs.YtkbglkjpdndkiaaDoor
/- THE CELL 'sum', in the pinned program and in every row, IS THE sha256 OF THE DUMP (.gsa) THAT YtkbglkjpdndkiaaDoorProg.lean LOADS. Nothing in Lean hashes anything: it is a label: what it is worth is what the hold of that sum in a sandbox is worth. -/
noncomputable def Tryd.pinned : Pinned := { name := "ytkbglkjpdndkiaadoor", sum := "a275d0b27b2f334493e58ffe2606775651b2c1ca99bfd6545ae72149b02d876d", checked := Tryd.checked }
namespace Rows
def none {H : Type} : Left H := { results := [], args := [] }

/- WHAT THE LISTED PACKAGE-LEVEL VARIABLES READ AS WHEN THE CALL BEGINS. Each datum BY PROGRAM (the guide's laid-datum.mjs) off the statement by which the dump's own 'gosem.cut.vars' lays the variable. In a bare row this is a premise. The card (YtkbglkjpdndkiaaDoorCards.lean) ties it to the program's text. -/
def laid_math_bits_deBruijn64tab {H : Type} : DataW H := .agg [.lit (.int .u8 0), .lit (.int .u8 1), .lit (.int .u8 56), .lit (.int .u8 2), .lit (.int .u8 57), .lit (.int .u8 49), .lit (.int .u8 28), .lit (.int .u8 3), .lit (.int .u8 61), .lit (.int .u8 58), .lit (.int .u8 42), .lit (.int .u8 50), .lit (.int .u8 38), .lit (.int .u8 29), .lit (.int .u8 17), .lit (.int .u8 4), .lit (.int .u8 62), .lit (.int .u8 47), .lit (.int .u8 59), .lit (.int .u8 36), .lit (.int .u8 45), .lit (.int .u8 43), .lit (.int .u8 51), .lit (.int .u8 22), .lit (.int .u8 53), .lit (.int .u8 39), .lit (.int .u8 33), .lit (.int .u8 30), .lit (.int .u8 24), .lit (.int .u8 18), .lit (.int .u8 12), .lit (.int .u8 5), .lit (.int .u8 63), .lit (.int .u8 55), .lit (.int .u8 48), .lit (.int .u8 27), .lit (.int .u8 60), .lit (.int .u8 41), .lit (.int .u8 37), .lit (.int .u8 16), .lit (.int .u8 46), .lit (.int .u8 35), .lit (.int .u8 44), .lit (.int .u8 21), .lit (.int .u8 52), .lit (.int .u8 32), .lit (.int .u8 23), .lit (.int .u8 11), .lit (.int .u8 54), .lit (.int .u8 26), .lit (.int .u8 40), .lit (.int .u8 15), .lit (.int .u8 34), .lit (.int .u8 20), .lit (.int .u8 31), .lit (.int .u8 10), .lit (.int .u8 25), .lit (.int .u8 14), .lit (.int .u8 19), .lit (.int .u8 9), .lit (.int .u8 13), .lit (.int .u8 8), .lit (.int .u8 7), .lit (.int .u8 6)]

/-- 'zigguratlaw23.PolypNews': WHATEVER THE INPUT: true; the input reads as it did. -/
def polypNewsSpec : ChangeSpec := { name := "polypNews", fn := fun _ => fun
  | [d] => { results := [.lit (.bool true)], args := [d] }
  | _ => none }
def polypNewsRow : OpenClaim := { program := "ytkbglkjpdndkiaadoor", sum := "a275d0b27b2f334493e58ffe2606775651b2c1ca99bfd6545ae72149b02d876d", func := "ziggurat/zigguratlaw23.PolypNews", spec := "polypNews", named := ["math/bits.deBruijn64tab", "math/bits.divideError", "math/bits.overflowError"], apart := false, laid := [("math/bits.deBruijn64tab", laid_math_bits_deBruijn64tab)] }
def PolypNewsSaid : Prop := polypNewsRow.holds Tryd.pinned (OpenSpec.ofChange polypNewsSpec)

/-- ITS FALSE NEIGHBOUR: 'it returns false'. Refute it at one input. -/
def polypNewsWrong : ChangeSpec := { name := "polypNews", fn := fun _ => fun
  | [d] => { results := [.lit (.bool false)], args := [d] }
  | _ => none }
def PolypNewsWrongFalsely : Prop := polypNewsRow.holds Tryd.pinned (OpenSpec.ofChange polypNewsWrong)

/-- 'zigguratlaw23.PolypShifts': WHATEVER THE INPUT: true; the input reads as it did. -/
def polypShiftsSpec : ChangeSpec := { name := "polypShifts", fn := fun _ => fun
  | [d1, d2, d3] => { results := [.lit (.bool true)], args := [d1, d2, d3] }
  | _ => none }
def polypShiftsRow : OpenClaim := { program := "ytkbglkjpdndkiaadoor", sum := "a275d0b27b2f334493e58ffe2606775651b2c1ca99bfd6545ae72149b02d876d", func := "ziggurat/zigguratlaw23.PolypShifts", spec := "polypShifts", named := ["math/bits.deBruijn64tab", "math/bits.divideError", "math/bits.overflowError"], apart := false, laid := [("math/bits.deBruijn64tab", laid_math_bits_deBruijn64tab)] }
def PolypShiftsSaid : Prop := polypShiftsRow.holds Tryd.pinned (OpenSpec.ofChange polypShiftsSpec)

/-- ITS FALSE NEIGHBOUR: 'it returns false'. Refute it at one input. -/
def polypShiftsWrong : ChangeSpec := { name := "polypShifts", fn := fun _ => fun
  | [d1, d2, d3] => { results := [.lit (.bool false)], args := [d1, d2, d3] }
  | _ => none }
def PolypShiftsWrongFalsely : Prop := polypShiftsRow.holds Tryd.pinned (OpenSpec.ofChange polypShiftsWrong)

/-- 'zigguratlaw23.PolypTimes': WHATEVER THE INPUT: true; the input reads as it did. -/
def polypTimesSpec : ChangeSpec := { name := "polypTimes", fn := fun _ => fun
  | [d1, d2, d3, d4] => { results := [.lit (.bool true)], args := [d1, d2, d3, d4] }
  | _ => none }
def polypTimesRow : OpenClaim := { program := "ytkbglkjpdndkiaadoor", sum := "a275d0b27b2f334493e58ffe2606775651b2c1ca99bfd6545ae72149b02d876d", func := "ziggurat/zigguratlaw23.PolypTimes", spec := "polypTimes", named := ["math/bits.deBruijn64tab", "math/bits.divideError", "math/bits.overflowError"], apart := false, laid := [("math/bits.deBruijn64tab", laid_math_bits_deBruijn64tab)] }
def PolypTimesSaid : Prop := polypTimesRow.holds Tryd.pinned (OpenSpec.ofChange polypTimesSpec)

/-- ITS FALSE NEIGHBOUR: 'it returns false'. Refute it at one input. -/
def polypTimesWrong : ChangeSpec := { name := "polypTimes", fn := fun _ => fun
  | [d1, d2, d3, d4] => { results := [.lit (.bool false)], args := [d1, d2, d3, d4] }
  | _ => none }
def PolypTimesWrongFalsely : Prop := polypTimesRow.holds Tryd.pinned (OpenSpec.ofChange polypTimesWrong)

/-- 'zigguratlaw23.PolypValues': WHATEVER THE INPUT: true; the input reads as it did. -/
def polypValuesSpec : ChangeSpec := { name := "polypValues", fn := fun _ => fun
  | [d1, d2, d3] => { results := [.lit (.bool true)], args := [d1, d2, d3] }
  | _ => none }
def polypValuesRow : OpenClaim := { program := "ytkbglkjpdndkiaadoor", sum := "a275d0b27b2f334493e58ffe2606775651b2c1ca99bfd6545ae72149b02d876d", func := "ziggurat/zigguratlaw23.PolypValues", spec := "polypValues", named := ["math/bits.deBruijn64tab", "math/bits.divideError", "math/bits.overflowError"], apart := false, laid := [("math/bits.deBruijn64tab", laid_math_bits_deBruijn64tab)] }
def PolypValuesSaid : Prop := polypValuesRow.holds Tryd.pinned (OpenSpec.ofChange polypValuesSpec)

/-- ITS FALSE NEIGHBOUR: 'it returns false'. Refute it at one input. -/
def polypValuesWrong : ChangeSpec := { name := "polypValues", fn := fun _ => fun
  | [d1, d2, d3] => { results := [.lit (.bool false)], args := [d1, d2, d3] }
  | _ => none }
def PolypValuesWrongFalsely : Prop := polypValuesRow.holds Tryd.pinned (OpenSpec.ofChange polypValuesWrong)

/-- 'zigguratlaw23.PolypSums': WHATEVER THE INPUT: true; the input reads as it did. -/
def polypSumsSpec : ChangeSpec := { name := "polypSums", fn := fun _ => fun
  | [d1, d2, d3, d4] => { results := [.lit (.bool true)], args := [d1, d2, d3, d4] }
  | _ => none }
def polypSumsRow : OpenClaim := { program := "ytkbglkjpdndkiaadoor", sum := "a275d0b27b2f334493e58ffe2606775651b2c1ca99bfd6545ae72149b02d876d", func := "ziggurat/zigguratlaw23.PolypSums", spec := "polypSums", named := ["math/bits.deBruijn64tab", "math/bits.divideError", "math/bits.overflowError"], apart := false, laid := [("math/bits.deBruijn64tab", laid_math_bits_deBruijn64tab)] }
def PolypSumsSaid : Prop := polypSumsRow.holds Tryd.pinned (OpenSpec.ofChange polypSumsSpec)

/-- ITS FALSE NEIGHBOUR: 'it returns false'. Refute it at one input. -/
def polypSumsWrong : ChangeSpec := { name := "polypSums", fn := fun _ => fun
  | [d1, d2, d3, d4] => { results := [.lit (.bool false)], args := [d1, d2, d3, d4] }
  | _ => none }
def PolypSumsWrongFalsely : Prop := polypSumsRow.holds Tryd.pinned (OpenSpec.ofChange polypSumsWrong)

/-- 'zigguratlaw23.PolypLaws': WHATEVER THE INPUT: true; the input reads as it did. -/
def polypLawsSpec : ChangeSpec := { name := "polypLaws", fn := fun _ => fun
  | [d1, d2, d3, d4, d5] => { results := [.lit (.bool true)], args := [d1, d2, d3, d4, d5] }
  | _ => none }
def polypLawsRow : OpenClaim := { program := "ytkbglkjpdndkiaadoor", sum := "a275d0b27b2f334493e58ffe2606775651b2c1ca99bfd6545ae72149b02d876d", func := "ziggurat/zigguratlaw23.PolypLaws", spec := "polypLaws", named := ["math/bits.deBruijn64tab", "math/bits.divideError", "math/bits.overflowError"], apart := false, laid := [("math/bits.deBruijn64tab", laid_math_bits_deBruijn64tab)] }
def PolypLawsSaid : Prop := polypLawsRow.holds Tryd.pinned (OpenSpec.ofChange polypLawsSpec)

/-- ITS FALSE NEIGHBOUR: 'it returns false'. Refute it at one input. -/
def polypLawsWrong : ChangeSpec := { name := "polypLaws", fn := fun _ => fun
  | [d1, d2, d3, d4, d5] => { results := [.lit (.bool false)], args := [d1, d2, d3, d4, d5] }
  | _ => none }
def PolypLawsWrongFalsely : Prop := polypLawsRow.holds Tryd.pinned (OpenSpec.ofChange polypLawsWrong)

/- THE SECOND FORM. 'bulk': how many values and letters a reading holds, each counted each time it is reached (what is shared counts as often as it is met; a slice's spare places count too). A statement '..UptoSaid' is the law's where the arguments, and the package variables that the reading takes, are together of bulk at most 1048576: NARROWER than '..Said'. Prove '..Said' where nothing that the law and all that it calls make is longer than what came in: it says more and counts as full. Else prove '..UptoSaid'. A law counts once. -/
mutual
def uptoBulk {H : Type} : DataW H → Nat
  | .lit (.string bytes) => bytes.length + 1
  | .lit _ => 1
  | .nil => 1
  | .ptr d => uptoBulk d + 1
  | .slice elems spare => uptoBulkAll elems + uptoBulkAll spare + 1
  | .agg parts => uptoBulkAll parts + 1
  | .iface _ d => uptoBulk d + 1
  | .map entries => uptoBulkEntries entries + 1
  | .held _ => 1
def uptoBulkAll {H : Type} : List (DataW H) → Nat
  | [] => 0
  | d :: r => uptoBulk d + uptoBulkAll r
def uptoBulkEntries {H : Type} : List (Lit × DataW H) → Nat
  | [] => 0
  | x :: r => uptoBulkEntry x + uptoBulkEntries r
def uptoBulkEntry {H : Type} : Lit × DataW H → Nat
  | (.string bytes, d) => bytes.length + uptoBulk d + 1
  | (_, d) => uptoBulk d + 1
 end
def uptoSmall : (H : Type) → List (DataW H) → Bool := fun _ ds => decide (uptoBulkAll ds ≤ 1048576)
def OpenSpec.upto (s : _root_.Go.ChangeSpec) : _root_.Go.OpenSpec := { _root_.Go.OpenSpec.ofChange s with cond := some uptoSmall }

/-- 'zigguratlaw23.PolypNews', WHERE WHAT IT READS IS OF BULK AT MOST 1048576: true; the input reads as it did. -/
def polypNewsUptoRow : OpenClaim := { program := "ytkbglkjpdndkiaadoor", sum := "a275d0b27b2f334493e58ffe2606775651b2c1ca99bfd6545ae72149b02d876d", func := "ziggurat/zigguratlaw23.PolypNews", spec := "polypNews", named := ["math/bits.deBruijn64tab", "math/bits.divideError", "math/bits.overflowError"], apart := false, laid := [("math/bits.deBruijn64tab", laid_math_bits_deBruijn64tab)], narrowed := true }
def PolypNewsUptoSaid : Prop := polypNewsUptoRow.holds Tryd.pinned (OpenSpec.upto polypNewsSpec)

/-- 'zigguratlaw23.PolypShifts', WHERE WHAT IT READS IS OF BULK AT MOST 1048576: true; the input reads as it did. -/
def polypShiftsUptoRow : OpenClaim := { program := "ytkbglkjpdndkiaadoor", sum := "a275d0b27b2f334493e58ffe2606775651b2c1ca99bfd6545ae72149b02d876d", func := "ziggurat/zigguratlaw23.PolypShifts", spec := "polypShifts", named := ["math/bits.deBruijn64tab", "math/bits.divideError", "math/bits.overflowError"], apart := false, laid := [("math/bits.deBruijn64tab", laid_math_bits_deBruijn64tab)], narrowed := true }
def PolypShiftsUptoSaid : Prop := polypShiftsUptoRow.holds Tryd.pinned (OpenSpec.upto polypShiftsSpec)

/-- 'zigguratlaw23.PolypTimes', WHERE WHAT IT READS IS OF BULK AT MOST 1048576: true; the input reads as it did. -/
def polypTimesUptoRow : OpenClaim := { program := "ytkbglkjpdndkiaadoor", sum := "a275d0b27b2f334493e58ffe2606775651b2c1ca99bfd6545ae72149b02d876d", func := "ziggurat/zigguratlaw23.PolypTimes", spec := "polypTimes", named := ["math/bits.deBruijn64tab", "math/bits.divideError", "math/bits.overflowError"], apart := false, laid := [("math/bits.deBruijn64tab", laid_math_bits_deBruijn64tab)], narrowed := true }
def PolypTimesUptoSaid : Prop := polypTimesUptoRow.holds Tryd.pinned (OpenSpec.upto polypTimesSpec)

/-- 'zigguratlaw23.PolypValues', WHERE WHAT IT READS IS OF BULK AT MOST 1048576: true; the input reads as it did. -/
def polypValuesUptoRow : OpenClaim := { program := "ytkbglkjpdndkiaadoor", sum := "a275d0b27b2f334493e58ffe2606775651b2c1ca99bfd6545ae72149b02d876d", func := "ziggurat/zigguratlaw23.PolypValues", spec := "polypValues", named := ["math/bits.deBruijn64tab", "math/bits.divideError", "math/bits.overflowError"], apart := false, laid := [("math/bits.deBruijn64tab", laid_math_bits_deBruijn64tab)], narrowed := true }
def PolypValuesUptoSaid : Prop := polypValuesUptoRow.holds Tryd.pinned (OpenSpec.upto polypValuesSpec)

/-- 'zigguratlaw23.PolypSums', WHERE WHAT IT READS IS OF BULK AT MOST 1048576: true; the input reads as it did. -/
def polypSumsUptoRow : OpenClaim := { program := "ytkbglkjpdndkiaadoor", sum := "a275d0b27b2f334493e58ffe2606775651b2c1ca99bfd6545ae72149b02d876d", func := "ziggurat/zigguratlaw23.PolypSums", spec := "polypSums", named := ["math/bits.deBruijn64tab", "math/bits.divideError", "math/bits.overflowError"], apart := false, laid := [("math/bits.deBruijn64tab", laid_math_bits_deBruijn64tab)], narrowed := true }
def PolypSumsUptoSaid : Prop := polypSumsUptoRow.holds Tryd.pinned (OpenSpec.upto polypSumsSpec)

/-- 'zigguratlaw23.PolypLaws', WHERE WHAT IT READS IS OF BULK AT MOST 1048576: true; the input reads as it did. -/
def polypLawsUptoRow : OpenClaim := { program := "ytkbglkjpdndkiaadoor", sum := "a275d0b27b2f334493e58ffe2606775651b2c1ca99bfd6545ae72149b02d876d", func := "ziggurat/zigguratlaw23.PolypLaws", spec := "polypLaws", named := ["math/bits.deBruijn64tab", "math/bits.divideError", "math/bits.overflowError"], apart := false, laid := [("math/bits.deBruijn64tab", laid_math_bits_deBruijn64tab)], narrowed := true }
def PolypLawsUptoSaid : Prop := polypLawsUptoRow.holds Tryd.pinned (OpenSpec.upto polypLawsSpec)

end Rows
end Go.Proofs.YtkbglkjpdndkiaaDoor
