/-
  No cell of these rows narrows 'for every input' (looked for: loops, veiled, ifaces, maps, wideKeys, modest, calm, conditions, laid).
  DERIVED. THE GIVEN ROWS OF THIS SEAT. 14 by the template 'for every input the law returns true; each argument reads behind the call as it read before'; 0 by the template 'total and deterministic' (their statements: YteoagnggnekfiaaTotals.lean).
  GIVEN WITH THE SEED: the statements are not yours to turn. If you find one false, say at which input.
  Laid BY PROGRAM, IN A SANDBOX (cutbox-rows.mjs): the forced cells as the released guide's own fill.sh prints them over the translation 5e117380229693ee… (all of the seat's roots in one cut). By AI agents, Wed Nov 11 2026. No macro, syntax, notation, axiom, sorry.
-/
import Derived.Test.YteoagnggnekfiaaChecked
import GoSem.Claim
import GoSem.ClaimJoined
import GoSem.ClaimMapViews
import Derived.JoinedTies
import Derived.KernelRfl
namespace Go.Proofs.Yteoagnggnekfiaa
/- THE CELL 'sum', in the pinned program and in every row, IS THE sha256 OF THE DUMP (.gsa) THAT YteoagnggnekfiaaProg.lean LOADS. Nothing in Lean hashes anything: it is a label: what it is worth is what the hold of that sum in a sandbox is worth. -/
noncomputable def Try.pinned : Pinned := { name := "yteoagnggnekfiaa", sum := "5e117380229693ee2d14fadc826977f3597d3e9e7d8746d0ec710f32c99d4833", checked := Try.checked }
namespace Rows
def none {H : Type} : Left H := { results := [], args := [] }

/-- 'zigguratlaw04.TableKara': WHATEVER THE INPUT: true; the input reads as it did. -/
def tableKaraSpec : ChangeSpec := { name := "tableKara", fn := fun _ => fun
  | [d1, d2] => { results := [.lit (.bool true)], args := [d1, d2] }
  | _ => none }
def tableKaraRow : OpenClaim := { program := "yteoagnggnekfiaa", sum := "5e117380229693ee2d14fadc826977f3597d3e9e7d8746d0ec710f32c99d4833", func := "ziggurat/zigguratlaw04.TableKara", spec := "tableKara", unfollowed := true, recurses := true, apart := false }
def TableKaraSaid : Prop := tableKaraRow.holds Try.pinned (OpenSpec.ofChange tableKaraSpec)

/-- ITS FALSE NEIGHBOUR: 'it returns false'. Refute it at one input. -/
def tableKaraWrong : ChangeSpec := { name := "tableKara", fn := fun _ => fun
  | [d1, d2] => { results := [.lit (.bool false)], args := [d1, d2] }
  | _ => none }
def TableKaraWrongFalsely : Prop := tableKaraRow.holds Try.pinned (OpenSpec.ofChange tableKaraWrong)

/-- 'zigguratlaw01.WordMuls': WHATEVER THE INPUT: true; the input reads as it did. -/
def wordMulsSpec : ChangeSpec := { name := "wordMuls", fn := fun _ => fun
  | [d1, d2] => { results := [.lit (.bool true)], args := [d1, d2] }
  | _ => none }
def wordMulsRow : OpenClaim := { program := "yteoagnggnekfiaa", sum := "5e117380229693ee2d14fadc826977f3597d3e9e7d8746d0ec710f32c99d4833", func := "ziggurat/zigguratlaw01.WordMuls", spec := "wordMuls", named := ["math/bits.divideError", "math/bits.overflowError"], apart := false }
def WordMulsSaid : Prop := wordMulsRow.holds Try.pinned (OpenSpec.ofChange wordMulsSpec)

/-- ITS FALSE NEIGHBOUR: 'it returns false'. Refute it at one input. -/
def wordMulsWrong : ChangeSpec := { name := "wordMuls", fn := fun _ => fun
  | [d1, d2] => { results := [.lit (.bool false)], args := [d1, d2] }
  | _ => none }
def WordMulsWrongFalsely : Prop := wordMulsRow.holds Try.pinned (OpenSpec.ofChange wordMulsWrong)

/-- 'zigguratlaw04.TableClamps': WHATEVER THE INPUT: true; the input reads as it did. -/
def tableClampsSpec : ChangeSpec := { name := "tableClamps", fn := fun _ => fun
  | [d1, d2] => { results := [.lit (.bool true)], args := [d1, d2] }
  | _ => none }
def tableClampsRow : OpenClaim := { program := "yteoagnggnekfiaa", sum := "5e117380229693ee2d14fadc826977f3597d3e9e7d8746d0ec710f32c99d4833", func := "ziggurat/zigguratlaw04.TableClamps", spec := "tableClamps", unfollowed := true, recurses := true, apart := false }
def TableClampsSaid : Prop := tableClampsRow.holds Try.pinned (OpenSpec.ofChange tableClampsSpec)

/-- ITS FALSE NEIGHBOUR: 'it returns false'. Refute it at one input. -/
def tableClampsWrong : ChangeSpec := { name := "tableClamps", fn := fun _ => fun
  | [d1, d2] => { results := [.lit (.bool false)], args := [d1, d2] }
  | _ => none }
def TableClampsWrongFalsely : Prop := tableClampsRow.holds Try.pinned (OpenSpec.ofChange tableClampsWrong)

/-- 'zigguratlaw04.TablePieces': WHATEVER THE INPUT: true; the input reads as it did. -/
def tablePiecesSpec : ChangeSpec := { name := "tablePieces", fn := fun _ => fun
  | [d1, d2, d3] => { results := [.lit (.bool true)], args := [d1, d2, d3] }
  | _ => none }
def tablePiecesRow : OpenClaim := { program := "yteoagnggnekfiaa", sum := "5e117380229693ee2d14fadc826977f3597d3e9e7d8746d0ec710f32c99d4833", func := "ziggurat/zigguratlaw04.TablePieces", spec := "tablePieces", unfollowed := true, recurses := true, apart := false }
def TablePiecesSaid : Prop := tablePiecesRow.holds Try.pinned (OpenSpec.ofChange tablePiecesSpec)

/-- ITS FALSE NEIGHBOUR: 'it returns false'. Refute it at one input. -/
def tablePiecesWrong : ChangeSpec := { name := "tablePieces", fn := fun _ => fun
  | [d1, d2, d3] => { results := [.lit (.bool false)], args := [d1, d2, d3] }
  | _ => none }
def TablePiecesWrongFalsely : Prop := tablePiecesRow.holds Try.pinned (OpenSpec.ofChange tablePiecesWrong)

/-- 'zigguratlaw01.WordDivs': WHATEVER THE INPUT: true; the input reads as it did. -/
def wordDivsSpec : ChangeSpec := { name := "wordDivs", fn := fun _ => fun
  | [d1, d2, d3] => { results := [.lit (.bool true)], args := [d1, d2, d3] }
  | _ => none }
def wordDivsRow : OpenClaim := { program := "yteoagnggnekfiaa", sum := "5e117380229693ee2d14fadc826977f3597d3e9e7d8746d0ec710f32c99d4833", func := "ziggurat/zigguratlaw01.WordDivs", spec := "wordDivs", named := ["math/bits.divideError", "math/bits.overflowError"], apart := false }
def WordDivsSaid : Prop := wordDivsRow.holds Try.pinned (OpenSpec.ofChange wordDivsSpec)

/-- ITS FALSE NEIGHBOUR: 'it returns false'. Refute it at one input. -/
def wordDivsWrong : ChangeSpec := { name := "wordDivs", fn := fun _ => fun
  | [d1, d2, d3] => { results := [.lit (.bool false)], args := [d1, d2, d3] }
  | _ => none }
def WordDivsWrongFalsely : Prop := wordDivsRow.holds Try.pinned (OpenSpec.ofChange wordDivsWrong)

/-- 'zigguratlaw04.TableRoutes': WHATEVER THE INPUT: true; the input reads as it did. -/
def tableRoutesSpec : ChangeSpec := { name := "tableRoutes", fn := fun _ => fun
  | [d1, d2, d3] => { results := [.lit (.bool true)], args := [d1, d2, d3] }
  | _ => none }
def tableRoutesRow : OpenClaim := { program := "yteoagnggnekfiaa", sum := "5e117380229693ee2d14fadc826977f3597d3e9e7d8746d0ec710f32c99d4833", func := "ziggurat/zigguratlaw04.TableRoutes", spec := "tableRoutes", unfollowed := true, recurses := true, apart := false }
def TableRoutesSaid : Prop := tableRoutesRow.holds Try.pinned (OpenSpec.ofChange tableRoutesSpec)

/-- ITS FALSE NEIGHBOUR: 'it returns false'. Refute it at one input. -/
def tableRoutesWrong : ChangeSpec := { name := "tableRoutes", fn := fun _ => fun
  | [d1, d2, d3] => { results := [.lit (.bool false)], args := [d1, d2, d3] }
  | _ => none }
def TableRoutesWrongFalsely : Prop := tableRoutesRow.holds Try.pinned (OpenSpec.ofChange tableRoutesWrong)

/-- 'zigguratlaw04.TableCosts': WHATEVER THE INPUT: true; the input reads as it did. -/
def tableCostsSpec : ChangeSpec := { name := "tableCosts", fn := fun _ => fun
  | [d1, d2, d3, d4] => { results := [.lit (.bool true)], args := [d1, d2, d3, d4] }
  | _ => none }
def tableCostsRow : OpenClaim := { program := "yteoagnggnekfiaa", sum := "5e117380229693ee2d14fadc826977f3597d3e9e7d8746d0ec710f32c99d4833", func := "ziggurat/zigguratlaw04.TableCosts", spec := "tableCosts", unfollowed := true, recurses := true, apart := false }
def TableCostsSaid : Prop := tableCostsRow.holds Try.pinned (OpenSpec.ofChange tableCostsSpec)

/-- ITS FALSE NEIGHBOUR: 'it returns false'. Refute it at one input. -/
def tableCostsWrong : ChangeSpec := { name := "tableCosts", fn := fun _ => fun
  | [d1, d2, d3, d4] => { results := [.lit (.bool false)], args := [d1, d2, d3, d4] }
  | _ => none }
def TableCostsWrongFalsely : Prop := tableCostsRow.holds Try.pinned (OpenSpec.ofChange tableCostsWrong)

/-- 'zigguratlaw04.TableSquare': WHATEVER THE INPUT: true; the input reads as it did. -/
def tableSquareSpec : ChangeSpec := { name := "tableSquare", fn := fun _ => fun
  | [d1, d2, d3] => { results := [.lit (.bool true)], args := [d1, d2, d3] }
  | _ => none }
def tableSquareRow : OpenClaim := { program := "yteoagnggnekfiaa", sum := "5e117380229693ee2d14fadc826977f3597d3e9e7d8746d0ec710f32c99d4833", func := "ziggurat/zigguratlaw04.TableSquare", spec := "tableSquare", unfollowed := true, recurses := true, apart := false }
def TableSquareSaid : Prop := tableSquareRow.holds Try.pinned (OpenSpec.ofChange tableSquareSpec)

/-- ITS FALSE NEIGHBOUR: 'it returns false'. Refute it at one input. -/
def tableSquareWrong : ChangeSpec := { name := "tableSquare", fn := fun _ => fun
  | [d1, d2, d3] => { results := [.lit (.bool false)], args := [d1, d2, d3] }
  | _ => none }
def TableSquareWrongFalsely : Prop := tableSquareRow.holds Try.pinned (OpenSpec.ofChange tableSquareWrong)

/-- 'zigguratlaw04.TableMore': WHATEVER THE INPUT: true; the input reads as it did. -/
def tableMoreSpec : ChangeSpec := { name := "tableMore", fn := fun _ => fun
  | [d1, d2, d3, d4] => { results := [.lit (.bool true)], args := [d1, d2, d3, d4] }
  | _ => none }
def tableMoreRow : OpenClaim := { program := "yteoagnggnekfiaa", sum := "5e117380229693ee2d14fadc826977f3597d3e9e7d8746d0ec710f32c99d4833", func := "ziggurat/zigguratlaw04.TableMore", spec := "tableMore", unfollowed := true, recurses := true, apart := false }
def TableMoreSaid : Prop := tableMoreRow.holds Try.pinned (OpenSpec.ofChange tableMoreSpec)

/-- ITS FALSE NEIGHBOUR: 'it returns false'. Refute it at one input. -/
def tableMoreWrong : ChangeSpec := { name := "tableMore", fn := fun _ => fun
  | [d1, d2, d3, d4] => { results := [.lit (.bool false)], args := [d1, d2, d3, d4] }
  | _ => none }
def TableMoreWrongFalsely : Prop := tableMoreRow.holds Try.pinned (OpenSpec.ofChange tableMoreWrong)

/-- 'zigguratlaw01.WordAdds': WHATEVER THE INPUT: true; the input reads as it did. -/
def wordAddsSpec : ChangeSpec := { name := "wordAdds", fn := fun _ => fun
  | [d1, d2, d3] => { results := [.lit (.bool true)], args := [d1, d2, d3] }
  | _ => none }
def wordAddsRow : OpenClaim := { program := "yteoagnggnekfiaa", sum := "5e117380229693ee2d14fadc826977f3597d3e9e7d8746d0ec710f32c99d4833", func := "ziggurat/zigguratlaw01.WordAdds", spec := "wordAdds", inPlace := ["math/bits.Add64", "math/bits.Sub64"], named := ["math/bits.divideError", "math/bits.overflowError"], apart := false }
def WordAddsSaid : Prop := wordAddsRow.holds Try.pinned (OpenSpec.ofChange wordAddsSpec)

/-- ITS FALSE NEIGHBOUR: 'it returns false'. Refute it at one input. -/
def wordAddsWrong : ChangeSpec := { name := "wordAdds", fn := fun _ => fun
  | [d1, d2, d3] => { results := [.lit (.bool false)], args := [d1, d2, d3] }
  | _ => none }
def WordAddsWrongFalsely : Prop := wordAddsRow.holds Try.pinned (OpenSpec.ofChange wordAddsWrong)

/-- 'zigguratlaw01.WordInverses': WHATEVER THE INPUT: true; the input reads as it did. -/
def wordInversesSpec : ChangeSpec := { name := "wordInverses", fn := fun _ => fun
  | [d1, d2, d3] => { results := [.lit (.bool true)], args := [d1, d2, d3] }
  | _ => none }
def wordInversesRow : OpenClaim := { program := "yteoagnggnekfiaa", sum := "5e117380229693ee2d14fadc826977f3597d3e9e7d8746d0ec710f32c99d4833", func := "ziggurat/zigguratlaw01.WordInverses", spec := "wordInverses", inPlace := ["math/bits.Add64"], named := ["math/bits.divideError", "math/bits.overflowError"], apart := false }
def WordInversesSaid : Prop := wordInversesRow.holds Try.pinned (OpenSpec.ofChange wordInversesSpec)

/-- ITS FALSE NEIGHBOUR: 'it returns false'. Refute it at one input. -/
def wordInversesWrong : ChangeSpec := { name := "wordInverses", fn := fun _ => fun
  | [d1, d2, d3] => { results := [.lit (.bool false)], args := [d1, d2, d3] }
  | _ => none }
def WordInversesWrongFalsely : Prop := wordInversesRow.holds Try.pinned (OpenSpec.ofChange wordInversesWrong)

/-- 'zigguratlaw01.WordSums': WHATEVER THE INPUT: true; the input reads as it did. -/
def wordSumsSpec : ChangeSpec := { name := "wordSums", fn := fun _ => fun
  | [d1, d2] => { results := [.lit (.bool true)], args := [d1, d2] }
  | _ => none }
def wordSumsRow : OpenClaim := { program := "yteoagnggnekfiaa", sum := "5e117380229693ee2d14fadc826977f3597d3e9e7d8746d0ec710f32c99d4833", func := "ziggurat/zigguratlaw01.WordSums", spec := "wordSums", inPlace := ["math/bits.Add64"], named := ["math/bits.divideError", "math/bits.overflowError"], apart := false }
def WordSumsSaid : Prop := wordSumsRow.holds Try.pinned (OpenSpec.ofChange wordSumsSpec)

/-- ITS FALSE NEIGHBOUR: 'it returns false'. Refute it at one input. -/
def wordSumsWrong : ChangeSpec := { name := "wordSums", fn := fun _ => fun
  | [d1, d2] => { results := [.lit (.bool false)], args := [d1, d2] }
  | _ => none }
def WordSumsWrongFalsely : Prop := wordSumsRow.holds Try.pinned (OpenSpec.ofChange wordSumsWrong)

/-- 'zigguratlaw01.WordThrees': WHATEVER THE INPUT: true; the input reads as it did. -/
def wordThreesSpec : ChangeSpec := { name := "wordThrees", fn := fun _ => fun
  | [d1, d2, d3, d4, d5] => { results := [.lit (.bool true)], args := [d1, d2, d3, d4, d5] }
  | _ => none }
def wordThreesRow : OpenClaim := { program := "yteoagnggnekfiaa", sum := "5e117380229693ee2d14fadc826977f3597d3e9e7d8746d0ec710f32c99d4833", func := "ziggurat/zigguratlaw01.WordThrees", spec := "wordThrees", inPlace := ["math/bits.Add64", "math/bits.Sub64"], named := ["math/bits.divideError", "math/bits.overflowError"], apart := false }
def WordThreesSaid : Prop := wordThreesRow.holds Try.pinned (OpenSpec.ofChange wordThreesSpec)

/-- ITS FALSE NEIGHBOUR: 'it returns false'. Refute it at one input. -/
def wordThreesWrong : ChangeSpec := { name := "wordThrees", fn := fun _ => fun
  | [d1, d2, d3, d4, d5] => { results := [.lit (.bool false)], args := [d1, d2, d3, d4, d5] }
  | _ => none }
def WordThreesWrongFalsely : Prop := wordThreesRow.holds Try.pinned (OpenSpec.ofChange wordThreesWrong)

/-- 'zigguratlaw01.WordEdges': WHATEVER THE INPUT: true; the input reads as it did. -/
def wordEdgesSpec : ChangeSpec := { name := "wordEdges", fn := fun _ => fun
  | [d1, d2, d3, d4] => { results := [.lit (.bool true)], args := [d1, d2, d3, d4] }
  | _ => none }
def wordEdgesRow : OpenClaim := { program := "yteoagnggnekfiaa", sum := "5e117380229693ee2d14fadc826977f3597d3e9e7d8746d0ec710f32c99d4833", func := "ziggurat/zigguratlaw01.WordEdges", spec := "wordEdges", inPlace := ["math/bits.Add64", "math/bits.Sub64"], named := ["math/bits.divideError", "math/bits.overflowError"], apart := false }
def WordEdgesSaid : Prop := wordEdgesRow.holds Try.pinned (OpenSpec.ofChange wordEdgesSpec)

/-- ITS FALSE NEIGHBOUR: 'it returns false'. Refute it at one input. -/
def wordEdgesWrong : ChangeSpec := { name := "wordEdges", fn := fun _ => fun
  | [d1, d2, d3, d4] => { results := [.lit (.bool false)], args := [d1, d2, d3, d4] }
  | _ => none }
def WordEdgesWrongFalsely : Prop := wordEdgesRow.holds Try.pinned (OpenSpec.ofChange wordEdgesWrong)

/- THE SECOND FORM. 'bulk': how many values and letters a reading holds, each counted each time it is reached (what is shared counts as often as it is met; a slice's spare places count too). A statement '..UptoSaid' is the law's where the arguments, and the package variables that the reading takes, are together of bulk at most 1048576: NARROWER than '..Said'. Prove '..Said' where nothing that the law and all that it calls make is longer than what came in: it says more and counts as full. Else prove '..UptoSaid'. A law counts once. -/
mutual
def uptoBulk {H : Type} : DataW H → Nat
  | .lit (.string bytes) => bytes.length + 1
  | .lit _ => 1
  | .nil => 1
  | .ptr d => uptoBulk d + 1
  | .slice elems spare => uptoBulkAll elems + uptoBulkAll spare + 1
  | .agg parts => uptoBulkAll parts + 1
  | .iface _ d => uptoBulk d + 1
  | .map entries => uptoBulkEntries entries + 1
  | .held _ => 1
def uptoBulkAll {H : Type} : List (DataW H) → Nat
  | [] => 0
  | d :: r => uptoBulk d + uptoBulkAll r
def uptoBulkEntries {H : Type} : List (Lit × DataW H) → Nat
  | [] => 0
  | x :: r => uptoBulkEntry x + uptoBulkEntries r
def uptoBulkEntry {H : Type} : Lit × DataW H → Nat
  | (.string bytes, d) => bytes.length + uptoBulk d + 1
  | (_, d) => uptoBulk d + 1
 end
def uptoSmall : (H : Type) → List (DataW H) → Bool := fun _ ds => decide (uptoBulkAll ds ≤ 1048576)
def OpenSpec.upto (s : _root_.Go.ChangeSpec) : _root_.Go.OpenSpec := { _root_.Go.OpenSpec.ofChange s with cond := some uptoSmall }

/-- 'zigguratlaw04.TableKara', WHERE WHAT IT READS IS OF BULK AT MOST 1048576: true; the input reads as it did. -/
def tableKaraUptoRow : OpenClaim := { program := "yteoagnggnekfiaa", sum := "5e117380229693ee2d14fadc826977f3597d3e9e7d8746d0ec710f32c99d4833", func := "ziggurat/zigguratlaw04.TableKara", spec := "tableKara", unfollowed := true, recurses := true, apart := false, narrowed := true }
def TableKaraUptoSaid : Prop := tableKaraUptoRow.holds Try.pinned (OpenSpec.upto tableKaraSpec)

/-- 'zigguratlaw01.WordMuls', WHERE WHAT IT READS IS OF BULK AT MOST 1048576: true; the input reads as it did. -/
def wordMulsUptoRow : OpenClaim := { program := "yteoagnggnekfiaa", sum := "5e117380229693ee2d14fadc826977f3597d3e9e7d8746d0ec710f32c99d4833", func := "ziggurat/zigguratlaw01.WordMuls", spec := "wordMuls", named := ["math/bits.divideError", "math/bits.overflowError"], apart := false, narrowed := true }
def WordMulsUptoSaid : Prop := wordMulsUptoRow.holds Try.pinned (OpenSpec.upto wordMulsSpec)

/-- 'zigguratlaw04.TableClamps', WHERE WHAT IT READS IS OF BULK AT MOST 1048576: true; the input reads as it did. -/
def tableClampsUptoRow : OpenClaim := { program := "yteoagnggnekfiaa", sum := "5e117380229693ee2d14fadc826977f3597d3e9e7d8746d0ec710f32c99d4833", func := "ziggurat/zigguratlaw04.TableClamps", spec := "tableClamps", unfollowed := true, recurses := true, apart := false, narrowed := true }
def TableClampsUptoSaid : Prop := tableClampsUptoRow.holds Try.pinned (OpenSpec.upto tableClampsSpec)

/-- 'zigguratlaw04.TablePieces', WHERE WHAT IT READS IS OF BULK AT MOST 1048576: true; the input reads as it did. -/
def tablePiecesUptoRow : OpenClaim := { program := "yteoagnggnekfiaa", sum := "5e117380229693ee2d14fadc826977f3597d3e9e7d8746d0ec710f32c99d4833", func := "ziggurat/zigguratlaw04.TablePieces", spec := "tablePieces", unfollowed := true, recurses := true, apart := false, narrowed := true }
def TablePiecesUptoSaid : Prop := tablePiecesUptoRow.holds Try.pinned (OpenSpec.upto tablePiecesSpec)

/-- 'zigguratlaw01.WordDivs', WHERE WHAT IT READS IS OF BULK AT MOST 1048576: true; the input reads as it did. -/
def wordDivsUptoRow : OpenClaim := { program := "yteoagnggnekfiaa", sum := "5e117380229693ee2d14fadc826977f3597d3e9e7d8746d0ec710f32c99d4833", func := "ziggurat/zigguratlaw01.WordDivs", spec := "wordDivs", named := ["math/bits.divideError", "math/bits.overflowError"], apart := false, narrowed := true }
def WordDivsUptoSaid : Prop := wordDivsUptoRow.holds Try.pinned (OpenSpec.upto wordDivsSpec)

/-- 'zigguratlaw04.TableRoutes', WHERE WHAT IT READS IS OF BULK AT MOST 1048576: true; the input reads as it did. -/
def tableRoutesUptoRow : OpenClaim := { program := "yteoagnggnekfiaa", sum := "5e117380229693ee2d14fadc826977f3597d3e9e7d8746d0ec710f32c99d4833", func := "ziggurat/zigguratlaw04.TableRoutes", spec := "tableRoutes", unfollowed := true, recurses := true, apart := false, narrowed := true }
def TableRoutesUptoSaid : Prop := tableRoutesUptoRow.holds Try.pinned (OpenSpec.upto tableRoutesSpec)

/-- 'zigguratlaw04.TableCosts', WHERE WHAT IT READS IS OF BULK AT MOST 1048576: true; the input reads as it did. -/
def tableCostsUptoRow : OpenClaim := { program := "yteoagnggnekfiaa", sum := "5e117380229693ee2d14fadc826977f3597d3e9e7d8746d0ec710f32c99d4833", func := "ziggurat/zigguratlaw04.TableCosts", spec := "tableCosts", unfollowed := true, recurses := true, apart := false, narrowed := true }
def TableCostsUptoSaid : Prop := tableCostsUptoRow.holds Try.pinned (OpenSpec.upto tableCostsSpec)

/-- 'zigguratlaw04.TableSquare', WHERE WHAT IT READS IS OF BULK AT MOST 1048576: true; the input reads as it did. -/
def tableSquareUptoRow : OpenClaim := { program := "yteoagnggnekfiaa", sum := "5e117380229693ee2d14fadc826977f3597d3e9e7d8746d0ec710f32c99d4833", func := "ziggurat/zigguratlaw04.TableSquare", spec := "tableSquare", unfollowed := true, recurses := true, apart := false, narrowed := true }
def TableSquareUptoSaid : Prop := tableSquareUptoRow.holds Try.pinned (OpenSpec.upto tableSquareSpec)

/-- 'zigguratlaw04.TableMore', WHERE WHAT IT READS IS OF BULK AT MOST 1048576: true; the input reads as it did. -/
def tableMoreUptoRow : OpenClaim := { program := "yteoagnggnekfiaa", sum := "5e117380229693ee2d14fadc826977f3597d3e9e7d8746d0ec710f32c99d4833", func := "ziggurat/zigguratlaw04.TableMore", spec := "tableMore", unfollowed := true, recurses := true, apart := false, narrowed := true }
def TableMoreUptoSaid : Prop := tableMoreUptoRow.holds Try.pinned (OpenSpec.upto tableMoreSpec)

/-- 'zigguratlaw01.WordAdds', WHERE WHAT IT READS IS OF BULK AT MOST 1048576: true; the input reads as it did. -/
def wordAddsUptoRow : OpenClaim := { program := "yteoagnggnekfiaa", sum := "5e117380229693ee2d14fadc826977f3597d3e9e7d8746d0ec710f32c99d4833", func := "ziggurat/zigguratlaw01.WordAdds", spec := "wordAdds", inPlace := ["math/bits.Add64", "math/bits.Sub64"], named := ["math/bits.divideError", "math/bits.overflowError"], apart := false, narrowed := true }
def WordAddsUptoSaid : Prop := wordAddsUptoRow.holds Try.pinned (OpenSpec.upto wordAddsSpec)

/-- 'zigguratlaw01.WordInverses', WHERE WHAT IT READS IS OF BULK AT MOST 1048576: true; the input reads as it did. -/
def wordInversesUptoRow : OpenClaim := { program := "yteoagnggnekfiaa", sum := "5e117380229693ee2d14fadc826977f3597d3e9e7d8746d0ec710f32c99d4833", func := "ziggurat/zigguratlaw01.WordInverses", spec := "wordInverses", inPlace := ["math/bits.Add64"], named := ["math/bits.divideError", "math/bits.overflowError"], apart := false, narrowed := true }
def WordInversesUptoSaid : Prop := wordInversesUptoRow.holds Try.pinned (OpenSpec.upto wordInversesSpec)

/-- 'zigguratlaw01.WordSums', WHERE WHAT IT READS IS OF BULK AT MOST 1048576: true; the input reads as it did. -/
def wordSumsUptoRow : OpenClaim := { program := "yteoagnggnekfiaa", sum := "5e117380229693ee2d14fadc826977f3597d3e9e7d8746d0ec710f32c99d4833", func := "ziggurat/zigguratlaw01.WordSums", spec := "wordSums", inPlace := ["math/bits.Add64"], named := ["math/bits.divideError", "math/bits.overflowError"], apart := false, narrowed := true }
def WordSumsUptoSaid : Prop := wordSumsUptoRow.holds Try.pinned (OpenSpec.upto wordSumsSpec)

/-- 'zigguratlaw01.WordThrees', WHERE WHAT IT READS IS OF BULK AT MOST 1048576: true; the input reads as it did. -/
def wordThreesUptoRow : OpenClaim := { program := "yteoagnggnekfiaa", sum := "5e117380229693ee2d14fadc826977f3597d3e9e7d8746d0ec710f32c99d4833", func := "ziggurat/zigguratlaw01.WordThrees", spec := "wordThrees", inPlace := ["math/bits.Add64", "math/bits.Sub64"], named := ["math/bits.divideError", "math/bits.overflowError"], apart := false, narrowed := true }
def WordThreesUptoSaid : Prop := wordThreesUptoRow.holds Try.pinned (OpenSpec.upto wordThreesSpec)

/-- 'zigguratlaw01.WordEdges', WHERE WHAT IT READS IS OF BULK AT MOST 1048576: true; the input reads as it did. -/
def wordEdgesUptoRow : OpenClaim := { program := "yteoagnggnekfiaa", sum := "5e117380229693ee2d14fadc826977f3597d3e9e7d8746d0ec710f32c99d4833", func := "ziggurat/zigguratlaw01.WordEdges", spec := "wordEdges", inPlace := ["math/bits.Add64", "math/bits.Sub64"], named := ["math/bits.divideError", "math/bits.overflowError"], apart := false, narrowed := true }
def WordEdgesUptoSaid : Prop := wordEdgesUptoRow.holds Try.pinned (OpenSpec.upto wordEdgesSpec)

end Rows
end Go.Proofs.Yteoagnggnekfiaa
