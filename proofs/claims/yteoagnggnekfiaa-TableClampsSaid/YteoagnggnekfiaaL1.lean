/- From the abstract call to a statement's row. No condition. -/
import Derived.Test.YteoagnggnekfiaaB2
import Derived.WalkKit
import Derived.ProofKit
import Derived.OpenShut
import Derived.ChangeSame
namespace Go.Proofs.Yteoagnggnekfiaa
namespace Ab
open Go Go.RowKit Go.WideShapes Go.ChangeShapes Go.ChangeAt
def h00 : H := ⟨fun _ => none, 0⟩
theorem globOK_none {base : Nat} {w : World} (h : gnum = none) : GlobOK base w := fun g off n hg => by simp [gcell, h] at hg
theorem rep00 (w : World) (hg : GlobOK w.heap.size w) : Rep w.heap.size w (fun _ => none) w h00 :=
  ⟨Below.refl _ _, Nat.le_refl _, hg, fun _ _ => rfl, fun _ _ hr => (by cases hr), fun _ _ _ _ _ _ hr => (by cases hr)⟩
theorem wf00 : h00.wf := fun _ _ => rfl
/-- A call that answers true, and turns nothing that was there. -/
theorem law_calls {P : Program} {f : FuncId} {fn : Func} {avs : List AV} {vs : List Value} {h : H} {μ : Mu} {w : World} (hf : P.funcs[f]? = some fn) (hb : fn.body.isSome = true) (hname : (fn.name == "runtime.NumGoroutine") = false)
    (R : Rep w.heap.size w μ w h) (hr : RelA μ avs vs) (hc : ACalls P f avs h (fun r _ => r = .bool true)) : Calls P f vs.toArray w (fun e w' => e = .returned (.bool true) ∧ Below w.heap.size w w') := by
  rcases hc _ _ _ _ _ R hr with ⟨_, h2⟩ | ⟨v, h1, _⟩
  · refine h2.mono ?_
    rintro e w' ⟨v, rfl, μ', r, h', _, q2, q3, rfl⟩
    cases q2
    exact ⟨rfl, q3.below⟩
  · exfalso
    have hname' : ¬ fn.name = "runtime.NumGoroutine" := by simpa using hname
    obtain ⟨c, hb⟩ := Option.isSome_iff_exists.1 hb
    simp [callFunc, hf, hname', hb] at h1
section
variable {T : Type} {enc : TypeId × Value → T} {P : Program}
/-- The row's end, where all that was there is kept. -/
theorem post_kept {f : Func} {s : ChangeSpec} {apart fresh handsOn again : Bool} {W W' : World} {args : Array Value} {v : Value} {ds gs : List (DataW T)} {before pa pv : List MemPlace}
    (hW : DataW.Whole enc P f.params.toList s.vars apart W args.toList ds gs before)
    (hres : ∀ (b : Nat) (sp : Nat → Bool) (hd : Bool), DataW.TrodAll enc P W' b sp hd f.resultTypes.toList (v.resultList f.resultTypes.size) (s.fn T (ds ++ gs)).results [])
    (hargs : ∀ sp : Nat → Bool, (∀ p ∈ before, sp p.block = true) → DataW.TrodAll enc P W' 0 sp true f.params.toList args.toList (s.fn T (ds ++ gs)).args pa)
    (hvars : ∀ sp : Nat → Bool, (∀ p ∈ before, sp p.block = true) → DataW.TrodVars enc P W' sp s.vars (s.fn T (ds ++ gs)).vars pv)
    (hsplit : before = pa ++ pv) (hB : Below W.heap.size W W')
    (hok : ∀ (j : Nat) (t : TypeId) (r : Value), f.resultTypes[j]? = some t → (v.resultList f.resultTypes.size)[j]? = some r → Value.okWide P W' .any 0 t r) :
    s.post enc P f apart fresh handsOn again W args v W' := by
  subst hsplit
  have low : ∀ p ∈ pa ++ pv, p.block < W.heap.size := fun p hp => hW.lt p hp
  have mark : ∀ p ∈ pa ++ pv, (fun b => decide (b < W.heap.size)) p.block = true := fun p hp => decide_eq_true (low p hp)
  have keep : W.keptBut W' (· ∈ pa ++ pv) := hB.frame _
  refine ⟨ds, gs, pa ++ pv, [], pa, pv, hW, hres _ _ _, hargs _ mark, hvars _ mark, World.keptBut_mono (fun p hp => ⟨hp, .inr (List.mem_append.1 hp)⟩) keep, fun _ => ⟨hok, _, _, ([] ++ pa) ++ pv, ⟨[] ++ pa, pv, trodAll_append (hargs _ (fun _ _ => rfl)) (hres _ _ _), hvars _ (fun _ _ => rfl), rfl, ?_, ?_⟩, ?_⟩⟩
  · intro b off hp
    have hp' : MemPlace.cell b off ∈ pa ++ pv := by simpa using hp
    obtain ⟨_, _, _, _, _, hz, _⟩ := hW
    rw [hB.frozen (low _ hp')]
    exact hz b off hp'
  · intro ha
    obtain ⟨_, _, _, _, _, _, hn⟩ := hW
    simpa using hn ha
  · intro p hp _
    simpa using hp
end
/-- A whole number that came in. -/
theorem wf_u64 {a : Int} (h : (Lit.int .u64 a).wf = true) : ∃ n : Nat, a = (n : Int) ∧ n < 18446744073709551616 := by
  simp [Lit.wf, IntKind.min, IntKind.max, IntKind.signed, IntKind.bits] at h
  exact ⟨a.toNat, by omega, by omega⟩
theorem wf_i64 {a : Int} (h : (Lit.int .i64 a).wf = true) : -9223372036854775808 ≤ a ∧ a < 9223372036854775808 := by
  simp [Lit.wf, IntKind.min, IntKind.max, IntKind.signed, IntKind.bits] at h
  omega
end Ab
end Go.Proofs.Yteoagnggnekfiaa
