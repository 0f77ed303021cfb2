/- The statement DivsLongs holds at all inputs. -/
import Derived.Test.YtnmnkocibjdhjaaRows
import Derived.Test.YtnmnkocibjdhjaaZ11
import Derived.WalkKit
import Derived.ProofKit
import Derived.OpenShut
namespace Go.Proofs.Ytnmnkocibjdhjaa.divsLongs
open Go.ChangeShapes Go.WideShapes Go.ChangeAt Go.RowKit
set_option linter.unusedVariables false
theorem own : ownKnob Try.prog.godebug = none := by kernel_rfl
theorem res : Try.f5.resultTypes = #[4] := by kernel_rfl
theorem walk (h : Ab.H) (avs : List Ab.AV) (hw : h.wf) (hr : Ab.ReadsAll Try.prog h Try.f5.params.toList avs) : Ab.ACalls Try.prog 5 avs h (fun r _ => r = .bool true) := by
  rw [Try.params5] at hr
  exact Ab.DivsLongs_row h avs hw hr
set_option maxRecDepth 100000 in
theorem lifted (os : Os) (started : os.Started) (H : Type) (enc : TypeId × Value → H) :
    ReturnsInHanded {} Try.checked os 5 .any (Rows.divsLongsSpec.pre6 enc Try.prog Try.f5 Rows.divsLongsRow.domain false) (Rows.divsLongsSpec.post enc Try.prog Try.f5 false true false false) := by
  refine returnsInHanded_of_change (C := Try.checked) own started (by kernel_rfl) Try.func5
    (ChangeSpec.witness6 (enc := enc) (C := Try.checked) false ⟨#[], #[.agg #[.int .i64 0, .int .i64 0, .int .i64 0, .int .i64 0, .int .i64 0, .int .i64 0, .int .i64 0, .int .i64 0, .int .i64 0, .int .i64 0, .int .i64 0], .slice none 0 0, .slice none 0 0], []⟩ 8 (by kernel_rfl) (by kernel_rfl) (by kernel_rfl) (by kernel_rfl)) ?_
  intro W base args ds gs before hval hW hcnd _
  exact Ab.law_row (P := Try.prog) (tb := 4) Try.func5 (by kernel_rfl) (by kernel_rfl) (Ab.globOK_none rfl) (by kernel_rfl) (by kernel_rfl) rfl (fun ds hd => by match ds, hd with | [_, _, _], _ => rfl) res Try.underlying4 walk hval hW
theorem over : Rows.divsLongsRow.holds Try.pinned (OpenSpec.ofChange Rows.divsLongsSpec) :=
  OpenClaim.holds_of_wide 5 Try.f5 rfl rfl rfl rfl rfl rfl rfl ⟨rfl, rfl, rfl, rfl, rfl⟩ rfl rfl rfl rfl rfl (by kernel_rfl) Try.func5 (by kernel_rfl)
    (of_decide_eq_true (by kernel_rfl)) (by unfold Func.isWrapper; first | (rw [if_pos (by decide +kernel)]; kernel_rfl) | (rw [if_neg (by decide +kernel)]; exact ⟨rfl, rfl⟩))
    (fun os started H enc _ => lifted os started H enc)
theorem proved : Rows.DivsLongsSaid := over
end Go.Proofs.Ytnmnkocibjdhjaa.divsLongs
