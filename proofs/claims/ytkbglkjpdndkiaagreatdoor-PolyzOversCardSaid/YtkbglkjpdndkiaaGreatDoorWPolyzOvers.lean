/- The statement PolyzOvers holds at all inputs: the tied card. -/
import Derived.Test.YtkbglkjpdndkiaaGreatDoorRows
import Derived.Test.YtkbglkjpdndkiaaGreatDoorCards
import Derived.Test.YtkbglkjpdndkiaaGreatDoorTie
import Derived.Test.YtkbglkjpdndkiaaGreatDoorZ16
import Derived.WalkKit
import Derived.ProofKit
import Derived.LaidMore
import Derived.OpenShut
import Derived.Stop.Joined
import Derived.SevenTiedAt
import Derived.Test.YtkbglkjpdndkiaaGreatDoorWPolyzOversP5
import Derived.Test.YtkbglkjpdndkiaaGreatDoorWPolyzOversP6
import Derived.Test.YtkbglkjpdndkiaaGreatDoorWPolyzOversP8
namespace Go.Proofs.YtkbglkjpdndkiaaGreatDoor.polyzOvers
open Go.ChangeShapes Go.WideShapes Go.ChangeAt Go.WideElems Go.RowKit
set_option linter.unusedVariables false
theorem own : ownKnob Tryz.prog.godebug = none := by kernel_rfl
theorem gNum : Tryz.prog.globalNamed "math/bits.deBruijn64tab" = some 2 := by kernel_rfl
theorem tNum : (Tryz.prog.globals[2]?).map (·.type) = some 261 := by kernel_rfl
theorem res : Tryz.f5.resultTypes = #[4] := by kernel_rfl
theorem walk (h : Ab.H) (avs : List Ab.AV) (hw : h.wf) (hr : Ab.ReadsAll Tryz.prog h Tryz.f5.params.toList avs) : Ab.ACalls Tryz.prog 5 avs h (fun r _ => r = .bool true) := by
  rw [Tryz.params5] at hr
  exact Ab.PolyzOvers_row h avs hw hr
theorem glob_of_laid {W : World} (h : laidMetH Tryz.prog [("math/bits.deBruijn64tab", Rows.laid_math_bits_deBruijn64tab)] W) : Ab.GlobOK W.heap.size W := by
  rw [MakeChecks.laidMetH_plain _ _ _ (by kernel_rfl)] at h
  obtain ⟨ps, ⟨g1, t1, cs1, f1, p1, q1, hg1, ht1, hv1, hd1, _, _⟩, _, _⟩ := h
  obtain rfl := Option.some.inj (gNum.symm.trans hg1)
  obtain rfl := Option.some.inj (tNum.symm.trans ht1)
  obtain ⟨xs, m1, rfl, hx1, hlen, hn3, hel⟩ := DataW.trod_array Tryz.underlying261 hd1
  have ce : Tryz.prog.cellsOf 5 = 1 := by kernel_rfl
  intro g off n hg
  have hgn : Ab.gnum = some 2 := rfl
  simp only [Ab.gcell, hgn, Option.some.injEq] at hg
  split at hg
  · rename_i e
    subst e
    obtain ⟨ho, hv⟩ := List.getElem?_eq_some_iff.1 hg
    have ho64 : off < 64 := ho
    have h1 := hel off ho64
    rw [ce, Nat.mul_one] at h1
    have hx2 : xs.map (·.1) = Ab.gtab.map fun n : Nat => (.lit (.int .u8 n) : DataW Unit) := by
      have hd : (Rows.laid_math_bits_deBruijn64tab : DataW Unit) = .agg (Ab.gtab.map fun n : Nat => .lit (.int .u8 n)) := rfl
      rw [hd] at hx1
      simp only [Prod.mk.injEq, DataW.agg.injEq] at hx1
      exact hx1.1.symm
    have hx3 := congrArg (fun l => l[off]?) hx2
    simp only [List.getElem?_map, hg, Option.map_some] at hx3
    cases hx4 : xs[off]? with
    | none => rw [hx4] at hx3; simp at hx3
    | some x =>
      rw [hx4] at hx3 h1
      obtain ⟨k, e1, e2, _⟩ := DataW.trod_int Tryz.underlying5 h1
      subst e2
      simp only [Option.map_some, Option.some.injEq, DataW.lit.injEq, Lit.int.injEq, true_and] at hx3
      subst hx3
      have hc : cs1[off]? = some (.int .u8 n) := by
        have := congrArg (fun l => l[0]?) e1
        simpa using this
      have hcell := World.var?_cell hg1 hv1 off
      rw [hc] at hcell
      refine ⟨?_, hcell⟩
      rcases Nat.lt_or_ge 2 W.heap.size with hlt | hge
      · exact hlt
      · simp [World.cell?, Array.getElem?_eq_none hge] at hcell
  · cases hg
theorem door_met (os : Os) (args : Array Value) : laidMetH Tryz.prog [("math/bits.deBruijn64tab", Rows.laid_math_bits_deBruijn64tab)] ((World.doorLaid Tryz.prog 400 os).forCall (fun _ _ => 0) ⟨#[], args, []⟩).memory :=
  laidMetH_of_parts3 (fuel := 8) (laidMet_of_run' 8 (by kernel_rfl) (by kernel_rfl)) (by kernel_rfl) (by kernel_rfl)
set_option maxRecDepth 100000 in
theorem lifted (os : Os) (started : os.Started) (H : Type) (enc : TypeId × Value → H) :
    ReturnsInHanded {} Tryz.checked os 5 .any (fun w args => (Rows.polyzOversSpec.pre enc Tryz.prog Tryz.f5 [] false w args ∧ laidMetH Tryz.prog [("math/bits.deBruijn64tab", Rows.laid_math_bits_deBruijn64tab)] w) ∧ sizedMet enc Tryz.prog Tryz.f5 (OpenSpec.ofChange Rows.polyzOversSpec) false w args)
      (Rows.polyzOversSpec.post enc Tryz.prog Tryz.f5 false true false false) := by
  refine returnsInHanded_of_change_and (C := Tryz.checked) (X := fun w _ => laidMetH Tryz.prog [("math/bits.deBruijn64tab", Rows.laid_math_bits_deBruijn64tab)] w) (fun _ _ _ hh h => h.of_heap hh) own started (by kernel_rfl) Tryz.func5
    (ChangeSpec.witness_shaped (enc := enc) (C := Tryz.checked) (os := os) (X := fun w _ => laidMetH Tryz.prog [("math/bits.deBruijn64tab", Rows.laid_math_bits_deBruijn64tab)] w) false (World.doorLaid Tryz.prog 400 os) #[.agg #[.int .i64 0, .int .i64 0, .int .i64 0, .int .i64 0, .int .i64 0, .int .i64 0, .int .i64 0, .int .i64 0, .int .i64 0, .int .i64 0, .int .i64 0], .slice none 0 0, .agg #[.slice none 0 0, .bool false], .bool false] 8 rfl (World.shaped_of_RefB (by kernel_rfl) (by kernel_rfl)) (by kernel_rfl) (by kernel_rfl) (by kernel_rfl) (door_met os _)) ?_
  intro W base args ds gs before hval hW _ _ hL _
  exact Ab.law_row (P := Tryz.prog) (tb := 4) Tryz.func5 (by kernel_rfl) (by kernel_rfl) (glob_of_laid hL) (by kernel_rfl) (by kernel_rfl) rfl (fun ds hd => by match ds, hd with | [_, _, _, _], _ => rfl) res Tryz.underlying4 walk hval hW
theorem over : Rows.PolyzOversSaid :=
  OpenClaim.holds_of_wide 5 Tryz.f5 rfl rfl rfl rfl rfl rfl rfl ⟨rfl, rfl, rfl, rfl, rfl⟩ rfl rfl rfl rfl rfl (by kernel_rfl) Tryz.func5 closed
    (of_decide_eq_true (by kernel_rfl)) (by unfold Func.isWrapper; first | (rw [if_pos (by decide +kernel)]; kernel_rfl) | (rw [if_neg (by decide +kernel)]; exact ⟨rfl, rfl⟩))
    (fun os started H enc _ => lifted os started H enc)
theorem proved : Rows.PolyzOversCardSaid :=
  Claim7.holds_tied_plain_at .later [] [.data] true (true, "cef991304c91d17f7231d896cc3aecd1c6715373f2600fa28b154f72c864e516") false
    over (fun _ h => by cases h) (by kernel_rfl) (fun _ h => by cases h) polyzOvers_row_tie rfl ⟨rfl, rfl⟩ j10 rfl
    (fun f fn hf hfn => by
      obtain rfl : f = 5 := Option.some.inj ((show Tryz.prog.funcNamed "ziggurat/zigguratlaw28.PolyzOvers" = some 5 by kernel_rfl).symm.trans hf) |>.symm
      obtain rfl : fn = Tryz.f5 := (Option.some.inj (Tryz.func5.symm.trans hfn)).symm
      exact ⟨j11, fun j t ht => by
        rw [Tryz.params5] at ht
        have hm : t ∈ [4, 23, 24, 39] := by
          have := Array.mem_of_getElem? ht
          simp at this ⊢
          first | omega | grind
        have hall : ([4, 23, 24, 39].all fun u => !Tryz.prog.wantsStandIn u) = true := by kernel_rfl
        exact (show Tryz.prog.wantsStandIn t = false by simpa using List.all_eq_true.1 hall t hm)⟩)
    j8
end Go.Proofs.YtkbglkjpdndkiaaGreatDoor.polyzOvers
