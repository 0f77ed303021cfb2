/- The statement PolyzSums holds at all inputs. -/
import Derived.Test.YtkbglkjpdndkiaaRows
import Derived.Test.YtkbglkjpdndkiaaZ10
import Derived.WalkKit
import Derived.ProofKit
import Derived.OpenShut
namespace Go.Proofs.Ytkbglkjpdndkiaa.polyzSums
open Go.ChangeShapes Go.WideShapes Go.ChangeAt Go.RowKit
set_option linter.unusedVariables false
theorem own : ownKnob Try.prog.godebug = none := by kernel_rfl
theorem res : Try.f4.resultTypes = #[4] := by kernel_rfl
theorem walk (h : Ab.H) (avs : List Ab.AV) (hw : h.wf) (hr : Ab.ReadsAll Try.prog h Try.f4.params.toList avs) : Ab.ACalls Try.prog 4 avs h (fun r _ => r = .bool true) := by
  rw [Try.params4] at hr
  exact Ab.PolyzSums_row h avs hw hr
set_option maxRecDepth 100000 in
theorem lifted (os : Os) (started : os.Started) (H : Type) (enc : TypeId × Value → H) :
    ReturnsInHanded {} Try.checked os 4 .any (Rows.polyzSumsSpec.pre6 enc Try.prog Try.f4 Rows.polyzSumsRow.domain false) (Rows.polyzSumsSpec.post enc Try.prog Try.f4 false true false false) := by
  refine returnsInHanded_of_change (C := Try.checked) own started (by kernel_rfl) Try.func4
    (ChangeSpec.witness6 (enc := enc) (C := Try.checked) false ⟨#[], #[.slice none 0 0, .slice none 0 0], []⟩ 8 (by kernel_rfl) (by kernel_rfl) (by kernel_rfl) (by kernel_rfl)) ?_
  intro W base args ds gs before hval hW hcnd _
  exact Ab.law_row (P := Try.prog) (tb := 4) Try.func4 (by kernel_rfl) (by kernel_rfl) (Ab.globOK_none rfl) (by kernel_rfl) (by kernel_rfl) rfl (fun ds hd => by match ds, hd with | [_, _], _ => rfl) res Try.underlying4 walk hval hW
theorem over : Rows.polyzSumsRow.holds Try.pinned (OpenSpec.ofChange Rows.polyzSumsSpec) :=
  OpenClaim.holds_of_wide 4 Try.f4 rfl rfl rfl rfl rfl rfl rfl ⟨rfl, rfl, rfl, rfl, rfl⟩ rfl rfl rfl rfl rfl (by kernel_rfl) Try.func4 (by kernel_rfl)
    (of_decide_eq_true (by kernel_rfl)) (by unfold Func.isWrapper; first | (rw [if_pos (by decide +kernel)]; kernel_rfl) | (rw [if_neg (by decide +kernel)]; exact ⟨rfl, rfl⟩))
    (fun os started H enc _ => lifted os started H enc)
theorem proved : Rows.PolyzSumsSaid := over
end Go.Proofs.Ytkbglkjpdndkiaa.polyzSums
