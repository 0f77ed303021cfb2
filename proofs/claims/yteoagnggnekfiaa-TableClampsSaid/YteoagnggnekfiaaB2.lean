/- What follows from a stronger end; a cut behind a block. No condition. -/
import Derived.Test.YteoagnggnekfiaaB1
namespace Go.Proofs.Yteoagnggnekfiaa
namespace Ab
open Go Go.RowKit

theorem aops_mono {P : Program} : ∀ {os : List AOper} {Q Q' : Env → H → Prop} {ρ : Env} {h : H}, (∀ ρ h, Q ρ h → Q' ρ h) → aops P os Q ρ h → aops P os Q' ρ h
  | [], _, _, _, _, hq, hx => hq _ _ hx
  | o :: os, Q, Q', ρ, h, hq, hx => by
    simp only [aops] at hx ⊢
    exact astep_mono (fun v h' hh => ⟨hh.1, aops_mono hq hh.2⟩) hx
theorem awp_mono {P : Program} : ∀ {c : AC} {Q Q' : Post} {ρ : Env} {h : H}, (∀ e ρ h, Q e ρ h → Q' e ρ h) → awp P c Q ρ h → awp P c Q' ρ h := by
  intro c
  induction c with
  | skip => intro Q Q' ρ h hq hx; exact hq _ _ _ hx
  | reg os => intro Q Q' ρ h hq hx; exact aops_mono (fun ρ h => hq .normal ρ h) hx
  | seq a b iha ihb =>
    intro Q Q' ρ h hq hx
    refine iha (fun e ρ h hh => ?_) hx
    cases e <;> first | exact ihb hq hh | exact hq _ _ _ hh
  | cond c x y ihx ihy =>
    rintro Q Q' ρ h hq ⟨t, ht, h1, h2⟩
    exact ⟨t, ht, fun e => ihx hq (h1 e), fun e => ihy hq (h2 e)⟩
  | block id c ih =>
    intro Q Q' ρ h hq hx
    refine ih (fun e ρ h hh => ?_) hx
    cases e with
    | exit id' =>
      simp only [ablk] at hh ⊢
      split
      · rename_i hi; rw [if_pos hi] at hh; exact hq _ _ _ hh
      · rename_i hi; rw [if_neg hi] at hh; exact hq _ _ _ hh
    | _ => exact hq _ _ _ hh
  | loop c ih =>
    rintro Q Q' ρ h hq ⟨I, n, h0, hI⟩
    refine ⟨I, n, h0, fun n ρ h hh => ih (fun e ρ h he => ?_) (hI n ρ h hh)⟩
    cases e <;> first | exact he | exact hq _ _ _ he
  | exit id => intro Q Q' ρ h hq hx; exact hq _ _ _ hx
  | ret => intro Q Q' ρ h hq hx; exact hq _ _ _ hx
/-- A cut behind a piece of code. -/
theorem awp_cut {P : Program} {c : AC} {next : Env → H → Prop} {Q : Post} {ρ : Env} {h : H} (M : Env → H → Prop) (h1 : awp P c (onN M Q) ρ h) (h2 : ∀ ρ h, M ρ h → next ρ h) : awp P c (athen next Q) ρ h := by
  refine awp_mono (fun e ρ h hh => ?_) h1
  cases e <;> first | exact h2 _ _ hh | exact hh
/-- A cut behind a loop that its block ends. -/
theorem loop_cut {P : Program} {c : AC} {id : Nat} {next : Env → H → Prop} {Q : Post} {ρ : Env} {h : H} (M : Env → H → Prop) (h1 : awp P (.loop c) (ablk id (onN M Q)) ρ h) (h2 : ∀ ρ h, M ρ h → next ρ h) : awp P (.loop c) (ablk id (athen next Q)) ρ h := by
  refine awp_mono (fun e ρ h hh => ?_) h1
  cases e with
  | exit id' =>
    simp only [ablk] at hh ⊢
    split
    · rename_i hi; rw [if_pos hi] at hh; exact h2 _ _ hh
    · rename_i hi; rw [if_neg hi] at hh; exact hh
  | normal => exact h2 _ _ hh
  | _ => exact hh
/-- A cut before what two branches share. -/
theorem cond_cut {P : Program} {x y : AC} {v : AV} {next : Env → H → Prop} {Q : Post} {ρ : Env} {h : H} (M : Env → H → Prop) (h1 : condK v (awp P x (onN M Q)) (awp P y (onN M Q)) ρ h) (h2 : ∀ ρ h, M ρ h → next ρ h) : condK v (awp P x (athen next Q)) (awp P y (athen next Q)) ρ h := by
  cases v <;> try exact h1
  exact ⟨fun e => awp_cut M (h1.1 e) h2, fun e => awp_cut M (h1.2 e) h2⟩
end Ab
end Go.Proofs.Yteoagnggnekfiaa
