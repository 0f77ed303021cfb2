/- The inverse of two words. No condition. -/
import Derived.Test.YteoagnggnekfiaaG6
namespace Go.Proofs.Yteoagnggnekfiaa
namespace Ab
open Go Go.RowKit
set_option linter.unusedSimpArgs false
set_option linter.unusedVariables false
attribute [local go_sem ↓] x_mv x_pick x_bin x_beq x_peq x_idxS x_un x_cvI x_idx x_idxA x_fld x_ld x_st x_nn x_prt x_slc x_mk x_bsl x_bld x_box x_alloc x_len x_capo x_mnx x_app x_cpy x_mkf x_ext x_call x_callV x_bad s_none s_some s_nil s_cons s_chks w_skip w_reg w_seq w_cond w_block w_exit w_ret t_normal t_exit t_ret b_normal b_ret b_exit n_normal n_exit n_ret p_normal p_ret f_nil f_t f_c k_ops k_chk k_fin
attribute [local go_sem] e_t e_c e_f u_some u_none u_at env_at k_v k_pick k_add k_sub k_mul k_quo k_rem k_and k_or k_xor k_shl k_shr k_eql k_neq k_lss k_leq k_gtr k_geq k_beq k_peqn k_peqs k_neg k_not k_com k_cvI k_idxS k_idx k_idxA k_fld k_ld1 k_ldn k_get k_gets k_sti k_stb k_stp k_sts k_stf k_sta k_put k_nn k_prt1 k_prtn k_slc_a k_slc_b k_slc_c k_mk k_agg k_bsl k_box k_len k_lenS k_cap k_max k_min k_ext k_callV k_true k_false k_gtt k_gtf k_gft k_gsk k_gff k_lit1i k_lit2i k_lit3i k_c0 k_c1 k_ck List.getElem?_cons_zero List.getElem?_cons_succ List.getElem?_nil Option.getD_some Option.getD_none tupOf List.map_cons List.map_nil Option.map_some Option.map_none List.nil_append List.cons_append List.append_nil Nat.mul_one Int.toNat_natCast Nat.zero_add
/-- What the inverse of two words is. -/
def IsInv2 (d1 d0 v : Nat) : Prop := v < 18446744073709551616 ∧ ∃ k : Nat, 1 ≤ k ∧ k ≤ d1 * 18446744073709551616 + d0 ∧ (18446744073709551616 + v) * (d1 * 18446744073709551616 + d0) + k = 6277101735386680763835789423207666416102355444464034512896
theorem dec_mul {v d : Nat} (hv : 1 ≤ v) : (18446744073709551616 + (v - 1)) * d + d = (18446744073709551616 + v) * d := by
  rw [← Nat.succ_mul]
  congr 1
  omega
/-- After the first part. -/
structure Inv1 (d1 d0 v p k : Nat) : Prop where
  hv : v < 18446744073709551616
  eq : (18446744073709551616 + v) * d1 + k = 340282366920938463463374607431768211456
  lo : d0 < k
  hi : k ≤ d1 + d0
  hp : p + k = 18446744073709551616 + d0
theorem inv2_value {d1 d0 v p k : Nat} (i : Inv1 d1 d0 v p k) : (6277101735386680763835789423207666416102355444464034512896 : Int) - (18446744073709551616 + v) * (d1 * 18446744073709551616 + d0) = 18446744073709551616 * ((k : Int) - d0) - v * d0 := by
  have h := i.eq
  have h2 : ((18446744073709551616 : Int) + v) * d1 + k = 340282366920938463463374607431768211456 := by
    have := congrArg (fun n : Nat => (n : Int)) h
    simpa using this
  have h3 : ((18446744073709551616 : Int) + v) * (d1 * 18446744073709551616 + d0) = 18446744073709551616 * (((18446744073709551616 : Int) + v) * d1) + 18446744073709551616 * d0 + v * d0 := by grind
  rw [h3]
  generalize ((18446744073709551616 : Int) + v) * d1 = t at *
  generalize (v : Int) * d0 = s at *
  omega
theorem inv2_keep {d1 d0 v p k : Nat} (i : Inv1 d1 d0 v p k) (hc : v * d0 / 18446744073709551616 + d0 < k) : IsInv2 d1 d0 v := by
  have h := inv2_value i
  have e := Nat.div_add_mod (v * d0) 18446744073709551616
  have e2 : v * d0 % 18446744073709551616 < 18446744073709551616 := Nat.mod_lt _ (by decide)
  have a := i.lo
  have b := i.hi
  refine ⟨i.hv, 18446744073709551616 * (k - d0) - v * d0, ?_, ?_, ?_⟩
  · generalize v * d0 = t at *; omega
  · generalize v * d0 = t at *; omega
  · have h2 : (((18446744073709551616 + v) * (d1 * 18446744073709551616 + d0) : Nat) : Int) = ((18446744073709551616 : Int) + v) * (d1 * 18446744073709551616 + d0) := by simp
    have h3 : ((v : Int) * d0) = ((v * d0 : Nat) : Int) := by simp
    rw [← h2, h3] at h
    generalize (18446744073709551616 + v) * (d1 * 18446744073709551616 + d0) = s at *
    generalize v * d0 = t at *
    omega
theorem inv2_one {d1 d0 v p k : Nat} (i : Inv1 d1 d0 v p k) (hd1 : d1 < 18446744073709551616) (hd0 : d0 < 18446744073709551616) (hc : k ≤ v * d0 / 18446744073709551616 + d0) (h2 : v * d0 < 18446744073709551616 * (k - d0) + (d1 * 18446744073709551616 + d0)) : 1 ≤ v ∧ IsInv2 d1 d0 (v - 1) := by
  have h := inv2_value i
  have e := Nat.div_add_mod (v * d0) 18446744073709551616
  have a := i.lo
  have b := i.hi
  have hv : 1 ≤ v := by
    rcases Nat.eq_zero_or_pos v with h0 | h0
    · subst h0; simp at hc; omega
    · exact h0
  have hvb := i.hv
  refine ⟨hv, by omega, 18446744073709551616 * (k - d0) + (d1 * 18446744073709551616 + d0) - v * d0, ?_, ?_, ?_⟩
  · omega
  · generalize v * d0 = t at *; omega
  · have h4 := dec_mul (d := d1 * 18446744073709551616 + d0) hv
    have h2 : (((18446744073709551616 + v) * (d1 * 18446744073709551616 + d0) : Nat) : Int) = ((18446744073709551616 : Int) + v) * (d1 * 18446744073709551616 + d0) := by simp
    have h3 : ((v : Int) * d0) = ((v * d0 : Nat) : Int) := by simp
    rw [← h2, h3, ← h4] at h
    generalize (18446744073709551616 + (v - 1)) * (d1 * 18446744073709551616 + d0) = s at *
    generalize v * d0 = t at *
    omega
theorem inv2_two {d1 d0 v p k : Nat} (i : Inv1 d1 d0 v p k) (hd1 : d1 < 18446744073709551616) (h63 : 9223372036854775808 ≤ d1) (hd0 : d0 < 18446744073709551616) (h2 : 18446744073709551616 * (k - d0) + (d1 * 18446744073709551616 + d0) ≤ v * d0) : 2 ≤ v ∧ IsInv2 d1 d0 (v - 2) := by
  have h := inv2_value i
  have a := i.lo
  have b := i.hi
  have hvb := i.hv
  have hv : 2 ≤ v := by
    rcases Nat.lt_or_ge v 2 with h0 | h0
    · have : v * d0 ≤ 1 * d0 := Nat.mul_le_mul_right d0 (by omega)
      omega
    · exact h0
  have hmax : v * d0 ≤ 18446744073709551615 * 18446744073709551615 := Nat.mul_le_mul (by omega) (by omega)
  refine ⟨hv, by omega, 18446744073709551616 * (k - d0) + 2 * (d1 * 18446744073709551616 + d0) - v * d0, ?_, ?_, ?_⟩
  · generalize v * d0 = t at *; omega
  · generalize v * d0 = t at *; omega
  · have h4 := dec_mul (v := v) (d := d1 * 18446744073709551616 + d0) (by omega)
    have h5 := dec_mul (v := v - 1) (d := d1 * 18446744073709551616 + d0) (by omega)
    rw [show v - 1 - 1 = v - 2 from by omega] at h5
    have h2 : (((18446744073709551616 + v) * (d1 * 18446744073709551616 + d0) : Nat) : Int) = ((18446744073709551616 : Int) + v) * (d1 * 18446744073709551616 + d0) := by simp
    have h3 : ((v : Int) * d0) = ((v * d0 : Nat) : Int) := by simp
    rw [← h2, h3, ← h4, ← h5] at h
    generalize (18446744073709551616 + (v - 2)) * (d1 * 18446744073709551616 + d0) = s at *
    generalize v * d0 = t at *
    omega
theorem Inverse2_calls {d1 d0 : Nat} {h : H} {K : AV → H → Prop} (hd1 : d1 < 18446744073709551616) (hd0 : d0 < 18446744073709551616)
    (hk1 : d1 < 9223372036854775808 → K (.tup [.int .u64 0, .bool false]) h)
    (hk2 : 9223372036854775808 ≤ d1 → ∀ v : Nat, IsInv2 d1 d0 v → K (.tup [.int .u64 (v : Int), .bool true]) h) : ACalls Try.prog 55 [.int .u64 (d1 : Int), .int .u64 (d0 : Int)] h K := by
  refine in_word_Inverse2 (by simp) fun hw => ?_
  unfold c_word_Inverse2
  simp only [go_sem, ↓reduceIte, Nat.reduceEqDiff, Nat.reduceAdd, Bool.false_eq_true, Int.reduceToNat]
  refine Inverse_calls hd1 (fun hc => ?_) (fun hc => ?_)
  · simp only [go_sem, ↓reduceIte, Nat.reduceEqDiff, Nat.reduceAdd, Bool.false_eq_true, Int.reduceToNat, Bool.not_false]
    exact fun _ => hk1 hc
  obtain ⟨hv, k, hk0, hk1, hk4⟩ := inv_of hd1 hc
  obtain ⟨v, hv0⟩ : ∃ v, v = ((18446744073709551615 - d1) * 18446744073709551616 + 18446744073709551615) / d1 := ⟨_, rfl⟩
  rw [← hv0] at hv hk4
  rw [← hv0]
  clear hv0
  have ht : v * d1 + 18446744073709551616 * d1 + k = 340282366920938463463374607431768211456 := by rw [← hk4, Nat.add_mul]; omega
  have hv1 : 1 ≤ v := by
    rcases Nat.eq_zero_or_pos v with h0 | h0
    · subst h0; omega
    · exact h0
  have hp : IntKind.u64.wrap (IntKind.u64.wrap ((d1 : Int) * (v : Int)) + (d0 : Int)) = ((if k ≤ d0 then d0 - k else 18446744073709551616 + d0 - k : Nat) : Int) := by
    rw [← Int.natCast_mul, Nat.mul_comm d1 v, wUm, wUm]
    generalize v * d1 = t at *
    split <;> omega
  simp only [go_sem, ↓reduceIte, Nat.reduceEqDiff, Nat.reduceAdd, Bool.false_eq_true, Int.reduceToNat, Bool.not_true, hp]
  refine cond_cut (fun ρ' h' => h' = h ∧ ρ' 0 = .int .u64 (d1 : Int) ∧ ρ' 1 = .int .u64 (d0 : Int) ∧ ∃ v p k : Nat, ρ' 6 = .int .u64 (v : Int) ∧ ρ' 8 = .int .u64 (p : Int) ∧ Inv1 d1 d0 v p k) ?_ ?_
  · refine cond_split (fun hc1 => ?_) (fun hc1 => ?_)
    · have hkd : k ≤ d0 := by
        rcases Nat.lt_or_ge d0 k with h0 | h0
        · rw [if_neg (by omega)] at hc1; simp at hc1; omega
        · exact h0
      rw [if_pos hkd]
      have s1 := subN1 (a := v) hv1 (by omega)
      have m1 := dec_mul (v := v) (d := d1) hv1
      simp only [go_sem, ↓reduceIte, Nat.reduceEqDiff, Nat.reduceAdd, Bool.false_eq_true, Int.reduceToNat, s1]
      refine cond_cut (fun ρ' h' => h' = h ∧ ρ' 0 = .int .u64 (d1 : Int) ∧ ρ' 1 = .int .u64 (d0 : Int) ∧ ∃ v p k : Nat, ρ' 6 = .int .u64 (v : Int) ∧ ρ' 8 = .int .u64 (p : Int) ∧ v < 18446744073709551616 ∧ (18446744073709551616 + v) * d1 + k = 340282366920938463463374607431768211456 ∧ d0 < k ∧ k ≤ d1 + d0 ∧ p + k = d1 + d0 ∧ p < 18446744073709551616) ?_ ?_
      · refine cond_split (fun hc2 => ?_) (fun hc2 => ?_)
        · have hc2 : d1 ≤ d0 - k := by simp at hc2; omega
          have hv2 : 2 ≤ v := by
            rcases Nat.lt_or_ge v 2 with h0 | h0
            · have : v = 1 := by omega
              subst this
              omega
            · exact h0
          have s2 := subN1 (a := v - 1) (by omega) (by omega)
          have m2 := dec_mul (v := v - 1) (d := d1) (by omega)
          have s3 := subN (a := d0 - k) (b := d1) hc2 (by omega)
          simp only [go_sem, ↓reduceIte, Nat.reduceEqDiff, Nat.reduceAdd, Bool.false_eq_true, Int.reduceToNat, s2, s3]
          exact ⟨by first | rfl | trivial | assumption, by first | rfl | trivial | assumption, by first | rfl | trivial | assumption, v - 1 - 1, d0 - k - d1, k + d1 + d1, rfl, rfl, by omega, by omega, by omega, by omega, by omega, by omega⟩
        · have hc2 : d0 - k < d1 := by simp at hc2; omega
          simp only [go_sem, ↓reduceIte, Nat.reduceEqDiff, Nat.reduceAdd, Bool.false_eq_true, Int.reduceToNat]
          exact ⟨by first | rfl | trivial | assumption, by first | rfl | trivial | assumption, by first | rfl | trivial | assumption, v - 1, d0 - k, k + d1, rfl, rfl, by omega, by omega, by omega, by omega, by omega, by omega⟩
      · rintro ρ h' ⟨rfl, g0, g1, v', p', k', g6, g8, f1, f2, f3, f4, f5, f6⟩
        have s3 : IntKind.u64.wrap ((p' : Int) - (d1 : Int)) = ((18446744073709551616 + d0 - k' : Nat) : Int) := by rw [wUm]; omega
        simp only [go_sem, ↓reduceIte, Nat.reduceEqDiff, Nat.reduceAdd, Bool.false_eq_true, Int.reduceToNat, g0, g1, g6, g8, s3]
        exact ⟨by first | rfl | trivial | assumption, by first | rfl | trivial | assumption, by first | rfl | trivial | assumption, v', 18446744073709551616 + d0 - k', k', by first | rfl | trivial | assumption, rfl, ⟨f1, f2, f3, f4, by omega⟩⟩
    · have hkd : d0 < k := by
        rcases Nat.lt_or_ge d0 k with h0 | h0
        · exact h0
        · rw [if_pos (by omega)] at hc1; simp at hc1; omega
      rw [if_neg (by omega)]
      simp only [go_sem, ↓reduceIte, Nat.reduceEqDiff, Nat.reduceAdd, Bool.false_eq_true, Int.reduceToNat]
      exact ⟨by first | rfl | trivial | assumption, by first | rfl | trivial | assumption, by first | rfl | trivial | assumption, v, 18446744073709551616 + d0 - k, k, rfl, rfl, ⟨hv, hk4, hkd, by omega, by omega⟩⟩
  clear hk4 ht hp hv hk0 hk1 hv1
  rintro ρ h' ⟨rfl, g0, g1, v', p', k', g6, g8, i⟩
  simp only [go_sem, ↓reduceIte, Nat.reduceEqDiff, Nat.reduceAdd, Bool.false_eq_true, Int.reduceToNat, g0, g1, g6, g8]
  refine Mul64_calls i.hv hd0 ?_
  have iv := i.hv
  have ilo := i.lo
  have ihi := i.hi
  have ip := i.hp
  have e := Nat.div_add_mod (v' * d0) 18446744073709551616
  have e2 : v' * d0 % 18446744073709551616 < 18446744073709551616 := Nat.mod_lt _ (by decide)
  have hmax : v' * d0 ≤ 18446744073709551615 * 18446744073709551615 := Nat.mul_le_mul (by omega) (by omega)
  have w1 := addUm (a := p') (b := v' * d0 / 18446744073709551616)
  simp only [go_sem, ↓reduceIte, Nat.reduceEqDiff, Nat.reduceAdd, Bool.false_eq_true, Int.reduceToNat, g0, g1, g6, g8, w1]
  refine cond_split (fun hc1 => ?_) (fun hc1 => ?_)
  · have hc1 : k' ≤ v' * d0 / 18446744073709551616 + d0 := by simp at hc1; omega
    have hpp : (p' + v' * d0 / 18446744073709551616) % 18446744073709551616 = v' * d0 / 18446744073709551616 + d0 - k' := by omega
    have hone : v' * d0 < 18446744073709551616 * (k' - d0) + (d1 * 18446744073709551616 + d0) → 1 ≤ v' ∧ IsInv2 d1 d0 (v' - 1) := inv2_one i hd1 hd0 hc1
    have htwo : 18446744073709551616 * (k' - d0) + (d1 * 18446744073709551616 + d0) ≤ v' * d0 → 2 ≤ v' ∧ IsInv2 d1 d0 (v' - 2) := inv2_two i hd1 hc hd0
    have hv1 : 1 ≤ v' := by
      rcases Nat.lt_or_ge (v' * d0) (18446744073709551616 * (k' - d0) + (d1 * 18446744073709551616 + d0)) with h0 | h0
      · exact (hone h0).1
      · have := (htwo h0).1; omega
    have s1 := subN1 (a := v') hv1 (by omega)
    rw [hpp]
    obtain ⟨P, hP⟩ : ∃ P, P = v' * d0 / 18446744073709551616 + d0 - k' := ⟨_, rfl⟩
    rw [← hP]
    have less : (P < d1 ∨ (P = d1 ∧ v' * d0 % 18446744073709551616 < d0)) → ∀ Q : Prop, (IsInv2 d1 d0 (v' - 1) → Q) → Q := fun hh Q hQ => hQ (hone (by omega)).2
    have more : (d1 < P ∨ (P = d1 ∧ d0 ≤ v' * d0 % 18446744073709551616)) → ∀ Q : Prop, (2 ≤ v' → IsInv2 d1 d0 (v' - 2) → Q) → Q := fun hh Q hQ => hQ (htwo (by omega)).1 (htwo (by omega)).2
    rcases Nat.lt_trichotomy P d1 with c1 | c1 | c1
    · have t1 := ltF (a := d1) (b := P) (by omega)
      have t2 : ((P : Int) == (d1 : Int)) = false := by simp; omega
      simp only [go_sem, ↓reduceIte, Nat.reduceEqDiff, Nat.reduceAdd, Bool.false_eq_true, Int.reduceToNat, g0, g1, g6, g8, s1, t1, t2]
      exact fun _ => less (.inl c1) _ fun hh => hk2 hc _ hh
    · have t1 := ltF (a := d1) (b := P) (by omega)
      have t2 : ((P : Int) == (d1 : Int)) = true := by simp; omega
      simp only [go_sem, ↓reduceIte, Nat.reduceEqDiff, Nat.reduceAdd, Bool.false_eq_true, Int.reduceToNat, g0, g1, g6, g8, s1, t1, t2]
      refine cond_split (fun c2 => ?_) (fun c2 => ?_)
      · refine more (.inr ⟨c1, by simp at c2; omega⟩) _ fun h2 hh => ?_
        have s2 := subN1 (a := v' - 1) (by omega) (by omega)
        simp only [go_sem, ↓reduceIte, Nat.reduceEqDiff, Nat.reduceAdd, Bool.false_eq_true, Int.reduceToNat, s2]
        exact fun _ => hk2 hc _ hh
      · refine less (.inr ⟨c1, by simp at c2; omega⟩) _ fun hh => ?_
        simp only [go_sem, ↓reduceIte, Nat.reduceEqDiff, Nat.reduceAdd, Bool.false_eq_true, Int.reduceToNat]
        exact fun _ => hk2 hc _ hh
    · have t1 := ltT (a := d1) (b := P) c1
      refine more (.inl c1) _ fun h2 hh => ?_
      have s2 := subN1 (a := v' - 1) (by omega) (by omega)
      simp only [go_sem, ↓reduceIte, Nat.reduceEqDiff, Nat.reduceAdd, Bool.false_eq_true, Int.reduceToNat, g0, g1, g6, g8, s1, t1, s2]
      exact fun _ => hk2 hc _ hh
  · have hc1 : v' * d0 / 18446744073709551616 + d0 < k' := by simp at hc1; omega
    simp only [go_sem, ↓reduceIte, Nat.reduceEqDiff, Nat.reduceAdd, Bool.false_eq_true, Int.reduceToNat, g0, g1, g6, g8]
    exact fun _ => hk2 hc _ (inv2_keep i hc1)
end Ab
end Go.Proofs.Yteoagnggnekfiaa
