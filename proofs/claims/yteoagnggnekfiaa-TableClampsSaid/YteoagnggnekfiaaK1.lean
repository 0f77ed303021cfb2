/- Helps of the statements: cuts, lent rows. No condition. -/
import Derived.Test.YteoagnggnekfiaaC3
import Derived.Test.YteoagnggnekfiaaE2
namespace Go.Proofs.Yteoagnggnekfiaa
namespace Ab
open Go Go.RowKit
set_option linter.unusedSimpArgs false
set_option linter.unusedVariables false
attribute [local go_sem ↓] x_mv x_pick x_bin x_beq x_peq x_seq x_cat x_aeq x_idxS x_un x_cvI x_idx x_idxA x_fld x_ld x_st x_nn x_prt x_slc x_mk x_bsl x_bld x_box x_alloc x_len x_capo x_mnx x_app x_cpy x_mkf x_ext x_call x_callV x_bad s_none s_some s_nil s_cons s_chks w_skip w_reg w_seq w_cond w_block w_exit w_ret t_normal t_exit t_ret b_normal b_ret b_exit n_normal n_exit n_ret p_normal p_ret f_nil f_t f_c k_ops k_chk k_fin
attribute [local go_sem] e_t e_c e_f u_some u_none u_at env_at k_v k_pick k_add k_sub k_mul k_quo k_rem k_and k_or k_xor k_shl k_shr k_eql k_neq k_lss k_leq k_gtr k_geq k_beq k_peqn k_peqs k_neg k_not k_com k_cvI k_idxS k_idx k_idxA k_idxG k_ldG k_gld k_seq k_cat k_aeq k_eqs k_fld k_ld1 k_ldn k_get k_gets k_sti k_stb k_stp k_sts k_stf k_sta k_put k_nn k_prt1 k_prtn k_slc_a k_slc_b k_slc_c k_mk k_agg k_bsl k_box k_len k_lenS k_cap k_max k_min k_ext k_callV k_true k_false k_gtt k_gtf k_gft k_gsk k_gff k_lit1i k_lit2i k_lit3i k_c0 k_c1 k_ck List.getElem?_cons_zero List.getElem?_cons_succ List.getElem?_nil Option.getD_some Option.getD_none tupOf List.map_cons List.map_nil Option.map_some Option.map_none List.nil_append List.cons_append List.append_nil Nat.mul_one Int.toNat_natCast Nat.zero_add
/-- A loop that counts up. -/
theorem for_rule {P : Program} {c : AC} {Q : Post} {ρ : Env} {h : H} (I : Nat → Env → H → Prop) (N : Nat) (h0 : I 0 ρ h) (hN : ∀ i ρ h, I i ρ h → i ≤ N) (hs : ∀ i ρ h, I i ρ h → awp P c (athen (fun ρ' h' => I (i + 1) ρ' h') Q) ρ h) : awp P (.loop c) Q ρ h := by
  refine ⟨fun n ρ h => ∃ i, n = N - i ∧ I i ρ h, N, ⟨0, by omega, h0⟩, ?_⟩
  rintro n ρ h ⟨i, rfl, hI⟩
  refine awp_mono (fun e ρ' h' hh => ?_) (hs i ρ h hI)
  cases e with
  | normal =>
    have h1 := hN _ _ _ hh
    exact ⟨N - (i + 1), by omega, i + 1, rfl, hh⟩
  | _ => exact hh
theorem eqF {a b : Int} (h : a ≠ b) : (a == b) = false := beq_eq_false_iff_ne.2 h
theorem eqT {a b : Int} (h : a = b) : (a == b) = true := beq_iff_eq.2 h
theorem neT {a b : Int} (h : a ≠ b) : (a != b) = true := bne_iff_ne.2 h
theorem neF {a b : Int} (h : a = b) : (a != b) = false := by rw [h]; exact bne_self_eq_false b
theorem leT {a b : Nat} (h : a ≤ b) : decide ((a : Int) ≤ (b : Int)) = true := by simp; omega
theorem leF {a b : Nat} (h : b < a) : decide ((a : Int) ≤ (b : Int)) = false := by simp; omega
theorem minN {a b : Nat} : min (a : Int) (b : Int) = ((min a b : Nat) : Int) := by omega
theorem maxN {a b : Nat} : max (a : Int) (b : Int) = ((max a b : Nat) : Int) := by omega
theorem take_min {α : Type} {l : List α} {n : Nat} : l.take (min l.length n) = l.take n := by
  rw [List.take_eq_take_iff]
  omega
theorem Cut_calls {v : AV} {xs : List Nat} {n : Nat} {h : H} {K : AV → H → Prop} (hv : IsN h v xs) (hk : ∀ r, IsN h r (xs.take n) → K r h) : ACalls Try.prog 48 [v, .int .i64 (n : Int)] h K := by
  obtain ⟨id, off, c, rfl⟩ := hv.form
  refine in_keep_Cut (by simp) fun hw => ?_
  unfold c_keep_Cut
  simp only [go_sem, ↓reduceIte, Nat.reduceEqDiff, Nat.reduceAdd, Bool.false_eq_true, Int.reduceToNat, minN]
  refine ⟨by omega, by omega, hv.row, fun _ => ?_⟩
  have := hv.take (b := min xs.length n) (c' := c) (by omega)
  rw [take_min] at this
  exact hk _ this
/-- What lies behind a lent row. -/
def pad : List Nat := [6148914691236517205, 6148914691236517205, 6148914691236517205, 6148914691236517205]
/-- A lent row. -/
def Lent (b : Nat) (h : H) (v : AV) (xs : List Nat) : Prop := ∃ id, v = .sl (some id) 0 xs.length (some (xs.length + 4)) ∧ IsG b h (.sl (some id) 0 (xs.length + 4) (some (xs.length + 4))) (xs ++ pad)
theorem Lent.mono {b : Nat} {h h' : H} {v : AV} {xs : List Nat} (hv : Lent b h v xs) (hl : h.le h') : Lent b h' v xs := by
  obtain ⟨id, e, h1⟩ := hv
  exact ⟨id, e, h1.mono hl⟩
theorem Lent.isN {b : Nat} {h : H} {v : AV} {xs : List Nat} (hv : Lent b h v xs) : IsN h v xs := by
  obtain ⟨id, rfl, h1⟩ := hv
  have := h1.isN.take (b := xs.length) (c' := some (xs.length + 4)) (by simp)
  simpa using this
theorem putAt_zero {l m : List AV} : putAt l 0 m = m ++ l.drop m.length := by simp [putAt]
theorem Lend_calls {v : AV} {xs : List Nat} {h : H} {K : AV → H → Prop} (hv : IsN h v xs) (hl : xs.length ≤ 1000000)
    (hk : ∀ r h', h'.wf → h.le h' → Lent h.next h' r xs → K r h') : ACalls Try.prog 49 [v] h K := by
  obtain ⟨id, off, c, rfl⟩ := hv.form
  refine in_keep_Lend (by simp) fun hw => ?_
  unfold c_keep_Lend
  have e0 : IntKind.i64.wrap ((xs.length : Int) + 4) = ((xs.length + 4 : Nat) : Int) := by rw [wI] <;> omega
  simp only [go_sem, ↓reduceIte, Nat.reduceEqDiff, Nat.reduceAdd, Bool.false_eq_true, Int.reduceToNat, e0]
  refine ⟨by omega, by omega, by omega, ?_⟩
  have hv1 := hv.mono (H.le_new hw (H.le_refl h) ⟨some 29, 1, zs [AV.int .u64 0] (xs.length + 4)⟩)
  have hw1 := H.wf_new hw ⟨some 29, 1, zs [AV.int .u64 0] (xs.length + 4)⟩
  -- the copy
  have hcpy : ∀ K' : AV → H → Prop, (∀ h2, h2.wf → h.le h2 → h2.next = h.next + 1 → IsG h.next h2 (.sl (some h.next) 0 (xs.length + 4) (some (xs.length + 4))) (xs ++ List.replicate 4 0) → K' (.int .i64 xs.length) h2) →
      cpyK 1 (.sl (some h.next) 0 xs.length (some (xs.length + 4))) (.sl id off xs.length c) (h.new ⟨some 29, 1, zs [AV.int .u64 0] (xs.length + 4)⟩) K' := by
    intro K' hk'
    have hle0 : h.le (h.new ⟨some 29, 1, zs [AV.int .u64 0] (xs.length + 4)⟩) := H.le_new hw (H.le_refl h) _
    simp only [cpyK, Nat.min_self, Int.min_self, Nat.mul_one]
    refine ⟨fun hx => ?_, fun hx => ?_⟩
    · have hxs : xs = [] := List.eq_nil_of_length_eq_zero hx
      subst hxs
      refine hk' _ hw1 hle0 rfl ?_
      have := IsG.made (b := h.next) (h := h) (Nat.le_refl _) 4
      simpa using this
    · obtain ⟨id', off', c', e, hr⟩ := hv1
      injection e with e1 e2 e3 e4
      subst e1; subst e2; subst e4
      rcases hr with ⟨_, h0, _⟩ | ⟨i, r, rfl, hr, _, hfit, ht⟩
      · simp at h0
        subst h0
        simp at hx
      · simp only [List.length_map] at hfit ht
        refine ⟨h.next, _, i, r, rfl, H.rows_new _ _, by simp, rfl, hr, hfit, by simp [zs_length] <;> omega, by rw [ht]; exact W_one _ _, ?_⟩
        rw [ht]
        refine hk' _ (H.wf_set hw1 (by simp [H.new]) _) (H.le_set hw hle0 (Nat.le_refl _) _) rfl ?_
        refine ⟨some h.next, some (xs.length + 4), by simp, .inr ⟨h.next, _, rfl, Nat.le_refl _, H.rows_set _ _ _, rfl, rfl, ?_, ?_⟩⟩
        · rw [putAt_length (by simp [W_length, zs_length] <;> omega)]
          simp [zs_length]
        · simp only [putAt_zero, W_length, List.length_map, List.length_append, List.length_replicate]
          rw [List.take_of_length_le (by simp [W_length, zs_length] <;> omega)]
          rw [List.map_append, W_append]
          congr 1
          simp [zs, W]
  refine hcpy _ fun h2 hw2 hl2 hn2 hg => ?_
  simp only [go_sem, ↓reduceIte, Nat.reduceEqDiff, Nat.reduceAdd, Bool.false_eq_true, Int.reduceToNat, e0]
  refine ⟨by omega, .inr ⟨_, rfl, Nat.le_refl _⟩, ?_, ?_⟩
  · intro i hi
    injection hi with hi
    subst hi
    exact hg.isN.row _ rfl
  refine for_rule (fun j ρ h' => j ≤ 4 ∧ h'.wf ∧ h.le h' ∧ ρ 3 = .sl (some h.next) 0 xs.length (some (xs.length + 4)) ∧ ρ 4 = .sl (some h.next) 0 (xs.length + 4) (some (xs.length + 4)) ∧ ρ 5 = .int .i64 ((xs.length + j : Nat) : Int) ∧
    IsG h.next h' (.sl (some h.next) 0 (xs.length + 4) (some (xs.length + 4))) (xs ++ (pad.take j ++ List.replicate (4 - j) 0))) 4 ⟨by omega, hw2, hl2, rfl, rfl, rfl, by simpa using hg⟩ (fun i ρ h hI => hI.1) ?_
  rintro j ρ h' ⟨hj, hw', hle, h3, h4, h5, hs⟩
  rcases Nat.lt_or_ge j 4 with hj4 | hj4
  · simp only [go_sem, ↓reduceIte, Nat.reduceEqDiff, Nat.reduceAdd, Bool.false_eq_true, Int.reduceToNat, h3, h4, h5, ltT (show xs.length + j < xs.length + 4 by omega)]
    refine ⟨by omega, by omega, ?_⟩
    obtain ⟨i3, r, e3, hb3, hn3, hr3, ho3, hc3, hput⟩ := hs.put hw' (j := xs.length + j) (by simp [pad]; omega)
    injection e3 with e3
    subst e3
    simp only [go_sem, ↓reduceIte, Nat.reduceEqDiff, Nat.reduceAdd, Bool.false_eq_true, Int.reduceToNat, hr3]
    refine ⟨ho3, by omega, ?_⟩
    simp only [go_sem, ↓reduceIte, Nat.reduceEqDiff, Nat.reduceAdd, Bool.false_eq_true, Int.reduceToNat, h5, incI (i := xs.length + j) (by omega)]
    refine ⟨by omega, H.wf_set hw' hn3 _, H.le_set hw hle hb3 _, h3, h4, rfl, ?_⟩
    have := hput 6148914691236517205
    have e : (xs ++ (pad.take j ++ List.replicate (4 - j) 0)).set (xs.length + j) 6148914691236517205 = xs ++ (pad.take (j + 1) ++ List.replicate (4 - (j + 1)) 0) := by
      rw [List.set_append_right _ _ (by omega), Nat.add_sub_cancel_left]
      congr 1
      have : j = 0 ∨ j = 1 ∨ j = 2 ∨ j = 3 := by omega
      rcases this with rfl | rfl | rfl | rfl <;> rfl
    rw [e] at this
    exact this
  · have : j = 4 := by omega
    subst this
    simp only [go_sem, ↓reduceIte, Nat.reduceEqDiff, Nat.reduceAdd, Bool.false_eq_true, Int.reduceToNat, h3, h4, h5, ltF (Nat.le_refl (xs.length + 4))]
    exact fun _ => hk _ _ hw' hle ⟨_, rfl, by simpa [pad] using hs⟩
theorem Intact_calls {v u : AV} {xs : List Nat} {b : Nat} {h : H} {K : AV → H → Prop} (hv : Lent b h v xs) (hu : IsN h u xs) (hl : xs.length ≤ 1000000) (hk : K (.bool true) h) : ACalls Try.prog 54 [v, u] h K := by
  obtain ⟨i, rfl, hg⟩ := hv
  obtain ⟨id, off, c, rfl⟩ := hu.form
  refine in_keep_Intact (by simp) fun hw => ?_
  unfold c_keep_Intact
  have e0 : IntKind.i64.wrap ((xs.length : Int) + 4) = ((xs.length + 4 : Nat) : Int) := by rw [wI] <;> omega
  have e1 : ((xs.length : Int) != (xs.length : Int)) = false := by simp
  have e2 : (((xs.length + 4 : Nat) : Int) != ((xs.length + 4 : Nat) : Int)) = false := by simp
  simp only [go_sem, ↓reduceIte, Nat.reduceEqDiff, Nat.reduceAdd, Bool.false_eq_true, Int.reduceToNat, e0, e1, e2]
  refine ⟨by omega, .inr ⟨_, rfl, Nat.le_refl _⟩, ?_, ?_⟩
  · intro j hj
    injection hj with hj
    subst hj
    exact hg.isN.row _ rfl
  refine for_rule (fun j ρ h' => j ≤ xs.length + 4 ∧ h' = h ∧ ρ 1 = .sl id off xs.length c ∧ ρ 5 = .sl (some i) 0 (xs.length + 4) (some (xs.length + 4)) ∧ ρ 6 = .int .i64 (j : Int)) (xs.length + 4) ⟨by omega, rfl, rfl, rfl, rfl⟩ (fun i ρ h hI => hI.1) ?_
  rintro j ρ h' ⟨hj, rfl, h1, h5, h6⟩
  rcases Nat.lt_or_ge j (xs.length + 4) with hj4 | hj4
  · obtain ⟨i', hi', _, hgg⟩ := hg.isN.at (j := j) (by simp [pad]; omega)
    injection hi' with hi'
    subst hi'
    rcases Nat.lt_or_ge j xs.length with hj2 | hj2
    · rw [Nat.zero_add] at hgg
      obtain ⟨i2, rfl, _, hg2⟩ := hu.at hj2
      have e3 : (xs ++ pad)[j]'(by simp; omega) = xs[j] := List.getElem_append_left hj2
      rw [e3] at hgg
      have e4 : (((xs[j] : Nat) : Int) != ((xs[j] : Nat) : Int)) = false := by simp
      have e5 : decide ((xs.length : Int) ≤ (j : Int)) = false := by simp; omega
      simp only [go_sem, ↓reduceIte, Nat.reduceEqDiff, Nat.reduceAdd, Bool.false_eq_true, Int.reduceToNat, h1, h5, h6, ltT hj4, ltT hj2]
      refine ⟨by omega, by omega, ?_⟩
      simp only [go_sem, ↓reduceIte, Nat.reduceEqDiff, Nat.reduceAdd, Bool.false_eq_true, Int.reduceToNat, h1, h5, h6, hgg]
      refine ⟨by omega, by omega, ?_⟩
      simp only [go_sem, ↓reduceIte, Nat.reduceEqDiff, Nat.reduceAdd, Bool.false_eq_true, Int.reduceToNat, h1, h5, h6, hg2, e4, e5, incI (i := j) (by omega)]
      exact ⟨by omega, by first | rfl | trivial | assumption, by first | rfl | trivial | assumption, by first | rfl | trivial | assumption, by first | rfl | trivial | assumption⟩
    · have e3 : (xs ++ pad)[j]'(by simp [pad]; omega) = 6148914691236517205 := by
        rw [List.getElem_append_right hj2]
        have : j - xs.length = 0 ∨ j - xs.length = 1 ∨ j - xs.length = 2 ∨ j - xs.length = 3 := by omega
        rcases this with e | e | e | e <;> simp [e, pad]
      rw [e3, Nat.zero_add] at hgg
      have e4 : (((6148914691236517205 : Nat) : Int) != 6148914691236517205) = false := by decide
      have e5 : decide ((xs.length : Int) ≤ (j : Int)) = true := by simp; omega
      simp only [go_sem, ↓reduceIte, Nat.reduceEqDiff, Nat.reduceAdd, Bool.false_eq_true, Int.reduceToNat, h1, h5, h6, ltT hj4, ltF hj2, e5]
      refine ⟨by omega, by omega, ?_⟩
      simp only [go_sem, ↓reduceIte, Nat.reduceEqDiff, Nat.reduceAdd, Bool.false_eq_true, Int.reduceToNat, h1, h5, h6, hgg, e4, incI (i := j) (by omega)]
      exact ⟨by omega, by first | rfl | trivial | assumption, by first | rfl | trivial | assumption, by first | rfl | trivial | assumption, by first | rfl | trivial | assumption⟩
  · have : j = xs.length + 4 := by omega
    subst this
    simp only [go_sem, ↓reduceIte, Nat.reduceEqDiff, Nat.reduceAdd, Bool.false_eq_true, Int.reduceToNat, h1, h5, h6, ltF (Nat.le_refl (xs.length + 4))]
    exact fun _ => hk
theorem within_mod {v : Int} {n : Nat} (hn : 1 ≤ n) : ¬ v.tmod n < 0 → v.tmod n = v % n := by
  intro h
  rcases Int.lt_or_le v 0 with hv | hv
  · rw [Int.tmod_eq_emod] at h ⊢
    split
    · omega
    · rename_i hc
      rw [if_neg hc] at h
      have h1 := Int.emod_lt_of_pos v (show (0 : Int) < n by omega)
      have h2 : ((n : Int).natAbs : Int) = n := by omega
      omega
  · exact Int.tmod_eq_emod_of_nonneg hv
theorem within_mod_neg {v : Int} {n : Nat} (hn : 1 ≤ n) : v.tmod n < 0 → v.tmod n + n = v % n := by
  intro h
  rw [Int.tmod_eq_emod] at h ⊢
  have h2 : ((n : Int).natAbs : Int) = n := by omega
  split
  · rename_i hc
    rw [if_pos hc] at h
    have := Int.emod_nonneg v (show (n : Int) ≠ 0 by omega)
    omega
  · omega
theorem Within_calls {v : Int} {n : Nat} {h : H} {K : AV → H → Prop} (hn : 1 ≤ n) (hn2 : n < 4611686018427387904) (hk : ∀ k : Nat, k < n → (k : Int) = v % n → K (.int .i64 (k : Int)) h) : ACalls Try.prog 57 [.int .i64 v, .int .i64 (n : Int)] h K := by
  refine in_keep_Within (by simp) fun hw => ?_
  unfold c_keep_Within
  have d1 : decide ((n : Int) < 1) = false := by simp; omega
  have h1 := Int.emod_lt_of_pos v (show (0 : Int) < n by omega)
  have h0 := Int.emod_nonneg v (show (n : Int) ≠ 0 by omega)
  obtain ⟨k, hkk⟩ : ∃ k : Nat, (k : Int) = v % n := ⟨(v % n).toNat, by omega⟩
  simp only [go_sem, ↓reduceIte, Nat.reduceEqDiff, Nat.reduceAdd, Bool.false_eq_true, Int.reduceToNat, d1]
  refine ⟨by omega, ?_⟩
  by_cases hc : v.tmod n < 0
  · have e := within_mod_neg hn hc
    have d2 : decide (v.tmod n < 0) = true := decide_eq_true hc
    have e1 : IntKind.i64.wrap (v.tmod n + n) = (k : Int) := by rw [e, ← hkk, wI] <;> omega
    simp only [go_sem, ↓reduceIte, Nat.reduceEqDiff, Nat.reduceAdd, Bool.false_eq_true, Int.reduceToNat, d2, e1]
    exact fun _ => hk k (by omega) hkk
  · have e := within_mod hn hc
    have d2 : decide (v.tmod n < 0) = false := decide_eq_false hc
    rw [← hkk] at e
    rw [e] at d2
    simp only [go_sem, ↓reduceIte, Nat.reduceEqDiff, Nat.reduceAdd, Bool.false_eq_true, Int.reduceToNat, e, d2]
    exact fun _ => hk k (by omega) hkk
end Ab
end Go.Proofs.Yteoagnggnekfiaa
