/- The statement PolypLaws holds at all inputs: the tied card. -/
import Derived.Test.YtkbglkjpdndkiaaDoorRows
import Derived.Test.YtkbglkjpdndkiaaDoorCards
import Derived.Test.YtkbglkjpdndkiaaDoorTie
import Derived.Test.YtkbglkjpdndkiaaDoorZ9
import Derived.WalkKit
import Derived.ProofKit
import Derived.LaidMore
import Derived.OpenShut
import Derived.Stop.Joined
import Derived.SevenTiedAt
import Derived.Test.YtkbglkjpdndkiaaDoorWPolypLawsP5
import Derived.Test.YtkbglkjpdndkiaaDoorWPolypLawsP6
import Derived.Test.YtkbglkjpdndkiaaDoorWPolypLawsP8
namespace Go.Proofs.YtkbglkjpdndkiaaDoor.polypLaws
open Go.ChangeShapes Go.WideShapes Go.ChangeAt Go.WideElems Go.RowKit
set_option linter.unusedVariables false
theorem own : ownKnob Tryd.prog.godebug = none := by kernel_rfl
theorem gNum : Tryd.prog.globalNamed "math/bits.deBruijn64tab" = some 2 := by kernel_rfl
theorem tNum : (Tryd.prog.globals[2]?).map (·.type) = some 82 := by kernel_rfl
theorem res : Tryd.f8.resultTypes = #[4] := by kernel_rfl
theorem walk (h : Ab.H) (avs : List Ab.AV) (hw : h.wf) (hr : Ab.ReadsAll Tryd.prog h Tryd.f8.params.toList avs) : Ab.ACalls Tryd.prog 8 avs h (fun r _ => r = .bool true) := by
  rw [Tryd.params8] at hr
  exact Ab.PolypLaws_row h avs hw hr
theorem glob_of_laid {W : World} (h : laidMetH Tryd.prog [("math/bits.deBruijn64tab", Rows.laid_math_bits_deBruijn64tab)] W) : Ab.GlobOK W.heap.size W := by
  rw [MakeChecks.laidMetH_plain _ _ _ (by kernel_rfl)] at h
  obtain ⟨ps, ⟨g1, t1, cs1, f1, p1, q1, hg1, ht1, hv1, hd1, _, _⟩, _, _⟩ := h
  obtain rfl := Option.some.inj (gNum.symm.trans hg1)
  obtain rfl := Option.some.inj (tNum.symm.trans ht1)
  obtain ⟨xs, m1, rfl, hx1, hlen, hn3, hel⟩ := DataW.trod_array Tryd.underlying82 hd1
  have ce : Tryd.prog.cellsOf 5 = 1 := by kernel_rfl
  intro g off n hg
  have hgn : Ab.gnum = some 2 := rfl
  simp only [Ab.gcell, hgn, Option.some.injEq] at hg
  split at hg
  · rename_i e
    subst e
    obtain ⟨ho, hv⟩ := List.getElem?_eq_some_iff.1 hg
    have ho64 : off < 64 := ho
    have h1 := hel off ho64
    rw [ce, Nat.mul_one] at h1
    have hx2 : xs.map (·.1) = Ab.gtab.map fun n : Nat => (.lit (.int .u8 n) : DataW Unit) := by
      have hd : (Rows.laid_math_bits_deBruijn64tab : DataW Unit) = .agg (Ab.gtab.map fun n : Nat => .lit (.int .u8 n)) := rfl
      rw [hd] at hx1
      simp only [Prod.mk.injEq, DataW.agg.injEq] at hx1
      exact hx1.1.symm
    have hx3 := congrArg (fun l => l[off]?) hx2
    simp only [List.getElem?_map, hg, Option.map_some] at hx3
    cases hx4 : xs[off]? with
    | none => rw [hx4] at hx3; simp at hx3
    | some x =>
      rw [hx4] at hx3 h1
      obtain ⟨k, e1, e2, _⟩ := DataW.trod_int Tryd.underlying5 h1
      subst e2
      simp only [Option.map_some, Option.some.injEq, DataW.lit.injEq, Lit.int.injEq, true_and] at hx3
      subst hx3
      have hc : cs1[off]? = some (.int .u8 n) := by
        have := congrArg (fun l => l[0]?) e1
        simpa using this
      have hcell := World.var?_cell hg1 hv1 off
      rw [hc] at hcell
      refine ⟨?_, hcell⟩
      rcases Nat.lt_or_ge 2 W.heap.size with hlt | hge
      · exact hlt
      · simp [World.cell?, Array.getElem?_eq_none hge] at hcell
  · cases hg
theorem door_met (os : Os) (args : Array Value) : laidMetH Tryd.prog [("math/bits.deBruijn64tab", Rows.laid_math_bits_deBruijn64tab)] ((World.doorLaid Tryd.prog 400 os).forCall (fun _ _ => 0) ⟨#[], args, []⟩).memory :=
  laidMetH_of_parts3 (fuel := 8) (laidMet_of_run' 8 (by kernel_rfl) (by kernel_rfl)) (by kernel_rfl) (by kernel_rfl)
set_option maxRecDepth 100000 in
theorem lifted (os : Os) (started : os.Started) (H : Type) (enc : TypeId × Value → H) :
    ReturnsInHanded {} Tryd.checked os 8 .any (fun w args => (Rows.polypLawsSpec.pre enc Tryd.prog Tryd.f8 [] false w args ∧ laidMetH Tryd.prog [("math/bits.deBruijn64tab", Rows.laid_math_bits_deBruijn64tab)] w) ∧ sizedMet enc Tryd.prog Tryd.f8 (OpenSpec.ofChange Rows.polypLawsSpec) false w args)
      (Rows.polypLawsSpec.post enc Tryd.prog Tryd.f8 false true false false) := by
  refine returnsInHanded_of_change_and (C := Tryd.checked) (X := fun w _ => laidMetH Tryd.prog [("math/bits.deBruijn64tab", Rows.laid_math_bits_deBruijn64tab)] w) (fun _ _ _ hh h => h.of_heap hh) own started (by kernel_rfl) Tryd.func8
    (ChangeSpec.witness_shaped (enc := enc) (C := Tryd.checked) (os := os) (X := fun w _ => laidMetH Tryd.prog [("math/bits.deBruijn64tab", Rows.laid_math_bits_deBruijn64tab)] w) false (World.doorLaid Tryd.prog 400 os) #[.int .u64 0, .slice none 0 0, .slice none 0 0, .int .u64 0, .slice none 0 0] 8 rfl (World.shaped_of_RefB (by kernel_rfl) (by kernel_rfl)) (by kernel_rfl) (by kernel_rfl) (by kernel_rfl) (door_met os _)) ?_
  intro W base args ds gs before hval hW _ _ hL _
  exact Ab.law_row (P := Tryd.prog) (tb := 4) Tryd.func8 (by kernel_rfl) (by kernel_rfl) (glob_of_laid hL) (by kernel_rfl) (by kernel_rfl) rfl (fun ds hd => by match ds, hd with | [_, _, _, _, _], _ => rfl) res Tryd.underlying4 walk hval hW
theorem over : Rows.PolypLawsSaid :=
  OpenClaim.holds_of_wide 8 Tryd.f8 rfl rfl rfl rfl rfl rfl rfl ⟨rfl, rfl, rfl, rfl, rfl⟩ rfl rfl rfl rfl rfl (by kernel_rfl) Tryd.func8 closed
    (of_decide_eq_true (by kernel_rfl)) (by unfold Func.isWrapper; first | (rw [if_pos (by decide +kernel)]; kernel_rfl) | (rw [if_neg (by decide +kernel)]; exact ⟨rfl, rfl⟩))
    (fun os started H enc _ => lifted os started H enc)
theorem proved : Rows.PolypLawsCardSaid :=
  Claim7.holds_tied_plain_at .later [] [.data] true (true, "af14f83de69b140dac7eb8c5b053a248f1e102b0f35554db1c8c6923d26876c7") false
    over (fun _ h => by cases h) (by kernel_rfl) (fun _ h => by cases h) polypLaws_row_tie rfl ⟨rfl, rfl⟩ j10 rfl
    (fun f fn hf hfn => by
      obtain rfl : f = 8 := Option.some.inj ((show Tryd.prog.funcNamed "ziggurat/zigguratlaw23.PolypLaws" = some 8 by kernel_rfl).symm.trans hf) |>.symm
      obtain rfl : fn = Tryd.f8 := (Option.some.inj (Tryd.func8.symm.trans hfn)).symm
      exact ⟨j11, fun j t ht => by
        rw [Tryd.params8] at ht
        have hm : t ∈ [22, 33] := by
          have := Array.mem_of_getElem? ht
          simp at this ⊢
          first | omega | grind
        have hall : ([22, 33].all fun u => !Tryd.prog.wantsStandIn u) = true := by kernel_rfl
        exact (show Tryd.prog.wantsStandIn t = false by simpa using List.all_eq_true.1 hall t hm)⟩)
    j8
end Go.Proofs.YtkbglkjpdndkiaaDoor.polypLaws
