/- The naturals of the document: comparison, sum. No condition. -/
import Derived.Test.YteoagnggnekfiaaE2
namespace Go.Proofs.Yteoagnggnekfiaa
namespace Ab
open Go Go.RowKit
set_option linter.unusedSimpArgs false
set_option linter.unusedVariables false
attribute [local go_sem ↓] x_mv x_pick x_bin x_beq x_peq x_seq x_cat x_aeq x_idxS x_un x_cvI x_idx x_idxA x_fld x_ld x_st x_nn x_prt x_slc x_mk x_bsl x_bld x_box x_alloc x_len x_capo x_mnx x_app x_cpy x_mkf x_ext x_call x_callV x_bad s_none s_some s_nil s_cons s_chks w_skip w_reg w_seq w_cond w_block w_exit w_ret t_normal t_exit t_ret b_normal b_ret b_exit n_normal n_exit n_ret p_normal p_ret f_nil f_t f_c k_ops k_chk k_fin
attribute [local go_sem] e_t e_c e_f u_some u_none u_at env_at k_v k_pick k_add k_sub k_mul k_quo k_rem k_and k_or k_xor k_shl k_shr k_eql k_neq k_lss k_leq k_gtr k_geq k_beq k_peqn k_peqs k_neg k_not k_com k_cvI k_idxS k_idx k_idxA k_idxG k_ldG k_gld k_seq k_cat k_aeq k_eqs k_fld k_ld1 k_ldn k_get k_gets k_sti k_stb k_stp k_sts k_stf k_sta k_put k_nn k_prt1 k_prtn k_slc_a k_slc_b k_slc_c k_mk k_agg k_bsl k_box k_len k_lenS k_cap k_max k_min k_ext k_callV k_true k_false k_gtt k_gtf k_gft k_gsk k_gff k_lit1i k_lit2i k_lit3i k_c0 k_c1 k_ck List.getElem?_cons_zero List.getElem?_cons_succ List.getElem?_nil Option.getD_some Option.getD_none tupOf List.map_cons List.map_nil Option.map_some Option.map_none List.nil_append List.cons_append List.append_nil Nat.mul_one Int.toNat_natCast Nat.zero_add
/-- Below every number that the claims do not reach. -/
def bigL : Nat := 1000000
structure Big (x : Nat) : Prop where
  lt : x < 4294967296 ^ bigL
theorem Big.le {x y : Nat} (h : Big y) (hx : x ≤ y) : Big x := ⟨Nat.lt_of_le_of_lt hx h.lt⟩
theorem lt_big {x k : Nat} (h : x < 4294967296 ^ k) (hk : k ≤ 1000000) : Big x := ⟨Nat.lt_of_lt_of_le h (Nat.pow_le_pow_right (by omega) (show k ≤ bigL from hk))⟩
theorem lt_big64 {x k : Nat} (h : x < 18446744073709551616 ^ k) (hk : k ≤ 500000) : Big x := by
  refine lt_big (k := 2 * k) ?_ (by omega)
  rw [Nat.pow_mul]
  exact h
theorem word_big {x : Nat} (h : x < 18446744073709551616) : Big x := lt_big64 (k := 1) (by omega) (by omega)
theorem Num.open {h : H} {v : AV} {x : Nat} (hv : Num 4294967296 h v x) (hx : Big x) : ∃ xs : List Nat, IsN h v xs ∧ (∀ a ∈ xs, a < 4294967296) ∧ (∀ a, xs.getLast? = some a → a ≠ 0) ∧ val 4294967296 xs = x ∧ xs.length ≤ 1000000 := by
  obtain ⟨xs, h1, h2, h3, h4⟩ := hv
  exact ⟨xs, h1, h2, h3, h4, show xs.length ≤ bigL from digits_le 4294967296 (by omega) h3 (by rw [h4]; exact hx.lt)⟩
def cmpI (x y : Nat) : Int := if x < y then -1 else if x = y then 0 else 1
theorem val_split (B : Nat) (xs : List Nat) (k : Nat) (h : k < xs.length) : val B xs = val B (xs.take k) + B ^ k * (xs[k] + B * val B (xs.drop (k + 1))) := by
  rw [val_cut B xs k (Nat.le_of_lt h)]
  rw [List.drop_eq_getElem_cons h]
  rfl
theorem val_lt_at (B : Nat) (hB : 0 < B) {xs ys : List Nat} (hx : ∀ a ∈ xs, a < B) (k : Nat) (h1 : k < xs.length) (h2 : k < ys.length) (hd : xs.drop (k + 1) = ys.drop (k + 1)) (hl : xs[k] < ys[k]) : val B xs < val B ys := by
  rw [val_split B xs k h1, val_split B ys k h2, hd]
  have := val_lt_take B hB xs hx k
  generalize B * val B (ys.drop (k + 1)) = d
  have h3 : B ^ k * (xs[k] + 1 + d) ≤ B ^ k * (ys[k] + d) := Nat.mul_le_mul_left _ (by omega)
  have h4 : B ^ k * (xs[k] + 1 + d) = B ^ k * (xs[k] + d) + B ^ k := by rw [← Nat.mul_succ]; congr 1; omega
  omega
theorem Cmp_calls {v u : AV} {x y : Nat} {h : H} {K : AV → H → Prop} (nv : Num 4294967296 h v x) (nu : Num 4294967296 h u y) (hx : Big x) (hy : Big y)
    (hk : K (.int .i64 (cmpI x y)) h) : ACalls Try.prog 22 [v, u] h K := by
  obtain ⟨xs, hv, hxd, hxt, rfl, hxl⟩ := nv.open hx
  obtain ⟨ys, hu, hyd, hyt, rfl, hyl⟩ := nu.open hy
  obtain ⟨id, off, c, rfl⟩ := hv.form
  obtain ⟨id', off', c', rfl⟩ := hu.form
  refine in_ref02_Cmp (by simp) fun hw => ?_
  unfold c_ref02_Cmp
  simp only [go_sem, ↓reduceIte, Nat.reduceEqDiff, Nat.reduceAdd, Bool.false_eq_true, Int.reduceToNat]
  refine cond_split (fun hc => ?_) (fun hc => ?_)
  · have hne : xs.length ≠ ys.length := by intro e; simp [e] at hc
    simp only [go_sem, ↓reduceIte, Nat.reduceEqDiff, Nat.reduceAdd, Bool.false_eq_true, Int.reduceToNat]
    refine cond_split (fun hc => ?_) (fun hc => ?_)
    · have hlt : xs.length < ys.length := by simp at hc; omega
      simp only [go_sem, ↓reduceIte, Nat.reduceEqDiff, Nat.reduceAdd, Bool.false_eq_true, Int.reduceToNat]
      intro _
      have := digits_lt_iff 4294967296 (by omega) hxd hyt hlt
      simpa [cmpI, this] using hk
    · have hlt : ys.length < xs.length := by simp at hc; omega
      simp only [go_sem, ↓reduceIte, Nat.reduceEqDiff, Nat.reduceAdd, Bool.false_eq_true, Int.reduceToNat]
      intro _
      have := digits_lt_iff 4294967296 (by omega) hyd hxt hlt
      have e : cmpI (val 4294967296 xs) (val 4294967296 ys) = 1 := by unfold cmpI; rw [if_neg (by omega), if_neg (by omega)]
      simpa [e] using hk
  · have heq : xs.length = ys.length := by simp at hc; omega
    simp only [go_sem, ↓reduceIte, Nat.reduceEqDiff, Nat.reduceAdd, Bool.false_eq_true, Int.reduceToNat]
    refine ⟨fun n ρ h' => h' = h ∧ ρ 0 = .sl id off xs.length c ∧ ρ 1 = .sl id' off' ys.length c' ∧ ρ 5 = .int .i64 ((n : Int) - 1) ∧ n ≤ xs.length ∧ xs.drop n = ys.drop n, xs.length,
      ⟨rfl, rfl, rfl, ?_, Nat.le_refl _, by rw [List.drop_length, heq, List.drop_length]⟩, ?_⟩
    · simp only [go_sem, ↓reduceIte, Nat.reduceEqDiff, Nat.reduceAdd, Bool.false_eq_true, Int.reduceToNat]
      rw [wI] <;> omega
    rintro n ρ h' ⟨rfl, h0, h1, h5, hn, hd⟩
    rcases Nat.eq_zero_or_pos n with rfl | hp
    · have hc : decide ((0 : Int) ≤ ((0 : Nat) : Int) - 1) = false := by decide
      simp only [go_sem, ↓reduceIte, Nat.reduceEqDiff, Nat.reduceAdd, Bool.false_eq_true, Int.reduceToNat, h0, h1, h5, hc]
      intro _
      have : xs = ys := by simpa using hd
      subst this
      simpa [cmpI] using hk
    · have hc : decide ((0 : Int) ≤ (n : Int) - 1) = true := by simp; omega
      have e5 : (n : Int) - 1 = ((n - 1 : Nat) : Int) := by omega
      obtain ⟨i, rfl, _, hg⟩ := hv.at (j := n - 1) (by omega)
      obtain ⟨i', rfl, _, hg'⟩ := hu.at (j := n - 1) (by omega)
      rw [e5] at h5 hc
      have hd' : xs.drop (n - 1 + 1) = ys.drop (n - 1 + 1) := by rw [show n - 1 + 1 = n from by omega]; exact hd
      simp only [go_sem, ↓reduceIte, Nat.reduceEqDiff, Nat.reduceAdd, Bool.false_eq_true, Int.reduceToNat, h0, h1, h5, hc]
      refine ⟨by omega, by omega, ?_⟩
      simp only [go_sem, ↓reduceIte, Nat.reduceEqDiff, Nat.reduceAdd, Bool.false_eq_true, Int.reduceToNat, h0, h1, h5, hg]
      refine ⟨by omega, by omega, ?_⟩
      simp only [go_sem, ↓reduceIte, Nat.reduceEqDiff, Nat.reduceAdd, Bool.false_eq_true, Int.reduceToNat, h0, h1, h5, hg, hg']
      refine cond_split (fun hc => ?_) (fun hc => ?_)
      · simp only [go_sem, ↓reduceIte, Nat.reduceEqDiff, Nat.reduceAdd, Bool.false_eq_true, Int.reduceToNat]
        intro _
        have := val_lt_at 4294967296 (by omega) hxd (n - 1) (by omega) (by omega) hd' (by simp at hc; omega)
        simpa [cmpI, this] using hk
      · have hc1 : ys[n - 1] ≤ xs[n - 1] := by simp at hc; omega
        simp only [go_sem, ↓reduceIte, Nat.reduceEqDiff, Nat.reduceAdd, Bool.false_eq_true, Int.reduceToNat, h0, h1, h5, hg, hg']
        refine ⟨by omega, by omega, by omega, by omega, ?_⟩
        refine cond_split (fun hc => ?_) (fun hc => ?_)
        · simp only [go_sem, ↓reduceIte, Nat.reduceEqDiff, Nat.reduceAdd, Bool.false_eq_true, Int.reduceToNat]
          intro _
          have := val_lt_at 4294967296 (by omega) hyd (n - 1) (by omega) (by omega) hd'.symm (by simp at hc; omega)
          have e : cmpI (val 4294967296 xs) (val 4294967296 ys) = 1 := by unfold cmpI; rw [if_neg (by omega), if_neg (by omega)]
          simpa [e] using hk
        · have e : xs[n - 1] = ys[n - 1] := by simp at hc; omega
          have e6 : IntKind.i64.wrap (((n - 1 : Nat) : Int) - 1) = ((n - 1 : Nat) : Int) - 1 := by rw [wI] <;> omega
          simp only [go_sem, ↓reduceIte, Nat.reduceEqDiff, Nat.reduceAdd, Bool.false_eq_true, Int.reduceToNat, h0, h1, h5, e6]
          refine ⟨n - 1, by omega, by trivial, by trivial, by trivial, by first | rfl | trivial | assumption, by omega, ?_⟩
          rw [List.drop_eq_getElem_cons (by omega), List.drop_eq_getElem_cons (l := ys) (by omega), e, hd']
end Ab
end Go.Proofs.Yteoagnggnekfiaa
