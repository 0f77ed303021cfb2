/- The naturals of the document: how many binary digits, and one of them. No condition. -/
import Derived.Test.YteoagnggnekfiaaF4
namespace Go.Proofs.Yteoagnggnekfiaa
namespace Ab
open Go Go.RowKit
set_option linter.unusedSimpArgs false
set_option linter.unusedVariables false
attribute [local go_sem ↓] x_mv x_pick x_bin x_beq x_peq x_idxS x_un x_cvI x_idx x_idxA x_fld x_ld x_st x_nn x_prt x_slc x_mk x_bsl x_bld x_box x_alloc x_len x_capo x_mnx x_app x_cpy x_mkf x_ext x_call x_callV x_bad s_none s_some s_nil s_cons s_chks w_skip w_reg w_seq w_cond w_block w_exit w_ret t_normal t_exit t_ret b_normal b_ret b_exit n_normal n_exit n_ret p_normal p_ret f_nil f_t f_c k_ops k_chk k_fin
attribute [local go_sem] e_t e_c e_f u_some u_none u_at env_at k_v k_pick k_add k_sub k_mul k_quo k_rem k_and k_or k_xor k_shl k_shr k_eql k_neq k_lss k_leq k_gtr k_geq k_beq k_peqn k_peqs k_neg k_not k_com k_cvI k_idxS k_idx k_idxA k_fld k_ld1 k_ldn k_get k_gets k_sti k_stb k_stp k_sts k_stf k_sta k_put k_nn k_prt1 k_prtn k_slc_a k_slc_b k_slc_c k_mk k_agg k_bsl k_box k_len k_lenS k_cap k_max k_min k_ext k_callV k_true k_false k_gtt k_gtf k_gft k_gsk k_gff k_lit1i k_lit2i k_lit3i k_c0 k_c1 k_ck List.getElem?_cons_zero List.getElem?_cons_succ List.getElem?_nil Option.getD_some Option.getD_none tupOf List.map_cons List.map_nil Option.map_some Option.map_none List.nil_append List.cons_append List.append_nil Nat.mul_one Int.toNat_natCast Nat.zero_add
theorem pow32 (k : Nat) : 4294967296 ^ k = 2 ^ (32 * k) := by rw [Nat.pow_mul]
/-- The digits from k on. -/
theorem val_div (xs : List Nat) (hx : ∀ a ∈ xs, a < 4294967296) (k : Nat) (h : k < xs.length) : val 4294967296 xs / 2 ^ (32 * k) = xs[k] + 4294967296 * val 4294967296 (xs.drop (k + 1)) := by
  rw [val_split 4294967296 xs k h, ← pow32, Nat.add_mul_div_left _ _ (Nat.pow_pos (by decide)), Nat.div_eq_of_lt (val_lt_take 4294967296 (by decide) xs hx k), Nat.zero_add]
theorem digit_eq (xs : List Nat) (hx : ∀ a ∈ xs, a < 4294967296) (k : Nat) (h : k < xs.length) : xs[k] = val 4294967296 xs / 2 ^ (32 * k) % 4294967296 := by
  rw [val_div xs hx k h, Nat.add_mul_mod_self_left, Nat.mod_eq_of_lt (hx _ (List.getElem_mem h))]
theorem bit_eq (xs : List Nat) (hx : ∀ a ∈ xs, a < 4294967296) (i : Nat) (h : i / 32 < xs.length) : xs[i / 32] / 2 ^ (i % 32) % 2 = val 4294967296 xs / 2 ^ i % 2 := by
  rw [digit_eq xs hx _ h]
  generalize val 4294967296 xs = n
  have e : 2 ^ i = 2 ^ (32 * (i / 32)) * 2 ^ (i % 32) := by rw [← Nat.pow_add, Nat.div_add_mod]
  rw [e, ← Nat.div_div_eq_div_mul]
  generalize n / 2 ^ (32 * (i / 32)) = m
  have hr : i % 32 < 32 := Nat.mod_lt _ (by decide)
  generalize i % 32 = r at *
  have e2 : 4294967296 = 2 ^ r * 2 ^ (32 - r) := by rw [← Nat.pow_add, show r + (32 - r) = 32 from by omega]
  have e3 : m % 4294967296 / 2 ^ r = m / 2 ^ r % 2 ^ (32 - r) := by rw [e2, Nat.mod_mul_right_div_self]
  rw [e3, Nat.mod_mod_of_dvd _ (by exact ⟨2 ^ (31 - r), by rw [← Nat.pow_succ']; congr 1; omega⟩)]
theorem bandL {a b : Nat} (ha : a < 18446744073709551616) (hb : b < 18446744073709551616) : bAnd .u64 (a : Int) (b : Int) = ((a &&& b : Nat) : Int) := bandN ha hb
theorem Bits_calls {v : AV} {x : Nat} {h : H} {K : AV → H → Prop} (nv : Num 4294967296 h v x) (hx : Big x)
    (hk : ∀ L : Nat, L ≤ 32000000 → BL x L → K (.int .i64 (L : Int)) h) : ACalls Try.prog 73 [v] h K := by
  obtain ⟨xs, hv, hxd, hxt, rfl, hxl⟩ := nv.open hx
  obtain ⟨id, off, c, rfl⟩ := hv.form
  refine in_ref02_Bits (by simp) fun hw => ?_
  unfold c_ref02_Bits
  rcases Nat.eq_zero_or_pos xs.length with h0 | h0
  · have d : ((xs.length : Int) == 0) = true := by simp; exact List.eq_nil_of_length_eq_zero h0
    simp only [go_sem, ↓reduceIte, Nat.reduceEqDiff, Nat.reduceAdd, Bool.false_eq_true, Int.reduceToNat, d]
    intro _
    have : xs = [] := List.eq_nil_of_length_eq_zero h0
    subst this
    exact hk 0 (by omega) ⟨by simp [val], .inl rfl⟩
  · have d : ((xs.length : Int) == 0) = false := by simp; intro e; subst e; simp at h0
    obtain ⟨i, rfl, _, hg⟩ := hv.at (j := xs.length - 1) (by omega)
    have e1 := decI h0 (by omega)
    have e2 : IntKind.i64.wrap (32 * ((xs.length - 1 : Nat) : Int)) = ((32 * (xs.length - 1) : Nat) : Int) := by rw [wI] <;> omega
    have ht : xs[xs.length - 1] ≠ 0 := hxt _ (by rw [List.getLast?_eq_getElem?, List.getElem?_eq_getElem])
    have htb := hxd _ (List.getElem_mem (show xs.length - 1 < xs.length by omega))
    have hdv := val_div xs hxd (xs.length - 1) (by omega)
    rw [List.drop_eq_nil_of_le (by omega)] at hdv
    simp only [val, Nat.mul_zero, Nat.add_zero] at hdv
    rw [← hdv] at hg ht htb
    clear hdv
    simp only [go_sem, ↓reduceIte, Nat.reduceEqDiff, Nat.reduceAdd, Bool.false_eq_true, Int.reduceToNat, d, e1, e2, hg]
    refine ⟨by omega, by omega, ?_⟩
    generalize hm : 32 * (xs.length - 1) = m at *
    generalize hw0 : val 4294967296 xs / 2 ^ m = w at *
    refine ⟨fun n ρ h' => h' = h ∧ ∃ j : Nat, j ≤ 32 ∧ ρ 3 = .int .i64 ((m + j : Nat) : Int) ∧ ρ 4 = .int .u64 (n : Int) ∧ n = w / 2 ^ j ∧ (j = 0 ∨ 2 ^ (j - 1) ≤ w), w, ⟨rfl, 0, by omega, rfl, rfl, by simp, .inl rfl⟩, ?_⟩
    rintro n ρ h' ⟨rfl, j, hj, g3, g4, hn, hp⟩
    rcases Nat.eq_zero_or_pos n with hz | hz
    · have d2 : decide ((0 : Int) < (n : Int)) = false := by simp; omega
      simp only [go_sem, ↓reduceIte, Nat.reduceEqDiff, Nat.reduceAdd, Bool.false_eq_true, Int.reduceToNat, g3, g4, d2]
      intro _
      refine hk (m + j) (by omega) ?_
      have hlt : w < 2 ^ j := by
        rw [hz] at hn
        exact Nat.lt_of_div_eq_zero (Nat.pow_pos (by decide)) hn.symm
      have hB : BL (val 4294967296 xs / 2 ^ m) j := by rw [hw0]; exact ⟨hlt, hp⟩
      exact hB.up (hB.pos (by rw [hw0]; omega))
    · have d2 : decide ((0 : Int) < (n : Int)) = true := by simp; omega
      have hj2 : j < 32 := by
        rcases Nat.lt_or_ge j 32 with hh | hh
        · exact hh
        · have : j = 32 := by omega
          subst this
          rw [Nat.div_eq_of_lt htb] at hn
          omega
      have e3 : IntKind.i64.wrap (((m + j : Nat) : Int) + 1) = ((m + (j + 1) : Nat) : Int) := by rw [wI] <;> omega
      have hnb : n < 4294967296 := by rw [hn]; exact Nat.lt_of_le_of_lt (Nat.div_le_self _ _) htb
      have e4 : IntKind.u64.wrap (((n : Int)).tdiv 2) = ((n / 2 : Nat) : Int) := by
        rw [show ((n : Int)).tdiv 2 = ((n / 2 : Nat) : Int) from tdivN (b := 2)]
        exact wUn (by omega)
      simp only [go_sem, ↓reduceIte, Nat.reduceEqDiff, Nat.reduceAdd, Bool.false_eq_true, Int.reduceToNat, g3, g4, d2, e3, e4]
      refine ⟨by omega, n / 2, by omega, by first | rfl | trivial | assumption, j + 1, by omega, rfl, rfl, ?_, .inr ?_⟩
      · rw [hn, Nat.div_div_eq_div_mul, Nat.pow_succ]
      · show 2 ^ j ≤ w
        rcases Nat.lt_or_ge w (2 ^ j) with hh | hh
        · rw [Nat.div_eq_of_lt hh] at hn; omega
        · exact hh
theorem bit_calls {v : AV} {xs : List Nat} {i : Nat} {h : H} {K : AV → H → Prop} (hv : IsN h v xs) (hxd : ∀ a ∈ xs, a < 4294967296) (hi : i < 9223372036854775808) (hi2 : i / 32 < xs.length)
    (hk : K (.int .u64 ((val 4294967296 xs / 2 ^ i % 2 : Nat) : Int)) h) : ACalls Try.prog 75 [v, .int .i64 (i : Int)] h K := by
  obtain ⟨id, off, c, rfl⟩ := hv.form
  obtain ⟨i', rfl, _, hg⟩ := hv.at hi2
  refine in_ref02_bit (by simp) fun hw => ?_
  unfold c_ref02_bit
  have hb := hxd _ (List.getElem_mem hi2)
  have e1 : IntKind.i64.wrap (((i : Int)).tdiv 32) = ((i / 32 : Nat) : Int) := by
    rw [show ((i : Int)).tdiv 32 = ((i / 32 : Nat) : Int) from tdivN (b := 32)]
    rw [wI] <;> omega
  have e2 : ((i : Int)).tmod 32 = ((i % 32 : Nat) : Int) := tmodN (b := 32)
  have e3 : bAnd .u64 ((xs[i / 32] / 2 ^ (i % 32) : Nat) : Int) 1 = ((xs[i / 32] / 2 ^ (i % 32) % 2 : Nat) : Int) := by
    have := bandL (a := xs[i / 32] / 2 ^ (i % 32)) (b := 1) (Nat.lt_of_le_of_lt (Nat.div_le_self _ _) (by omega)) (by omega)
    rw [Nat.and_one_is_mod] at this
    exact this
  simp only [go_sem, ↓reduceIte, Nat.reduceEqDiff, Nat.reduceAdd, Bool.false_eq_true, Int.reduceToNat, e1, e2, hg, wUn (x := i % 32) (by omega), shrU (x := xs[i / 32]) (n := i % 32) (by omega), e3]
  refine ⟨by omega, by omega, by omega, by omega, by omega, fun _ => ?_⟩
  rw [bit_eq xs hxd i hi2]
  exact hk
end Ab
end Go.Proofs.Yteoagnggnekfiaa
