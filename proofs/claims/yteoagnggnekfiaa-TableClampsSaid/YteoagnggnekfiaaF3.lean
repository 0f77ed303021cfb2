/- Two words over one: what the package bits computes. No condition. -/
import Derived.Test.YteoagnggnekfiaaF2
namespace Go.Proofs.Yteoagnggnekfiaa
namespace Ab
open Go Go.RowKit
set_option linter.unusedSimpArgs false
set_option linter.unusedVariables false
attribute [local go_sem ↓] x_mv x_pick x_bin x_beq x_peq x_seq x_cat x_aeq x_idxS x_un x_cvI x_idx x_idxA x_fld x_ld x_st x_nn x_prt x_slc x_mk x_bsl x_bld x_box x_alloc x_len x_capo x_mnx x_app x_cpy x_mkf x_ext x_call x_callV x_bad s_none s_some s_nil s_cons s_chks w_skip w_reg w_seq w_cond w_block w_exit w_ret t_normal t_exit t_ret b_normal b_ret b_exit n_normal n_exit n_ret p_normal p_ret f_nil f_t f_c k_ops k_chk k_fin
attribute [local go_sem] e_t e_c e_f u_some u_none u_at env_at k_v k_pick k_add k_sub k_mul k_quo k_rem k_and k_or k_xor k_shl k_shr k_eql k_neq k_lss k_leq k_gtr k_geq k_beq k_peqn k_peqs k_neg k_not k_com k_cvI k_idxS k_idx k_idxA k_idxG k_ldG k_gld k_seq k_cat k_aeq k_eqs k_fld k_ld1 k_ldn k_get k_gets k_sti k_stb k_stp k_sts k_stf k_sta k_put k_nn k_prt1 k_prtn k_slc_a k_slc_b k_slc_c k_mk k_agg k_bsl k_box k_len k_lenS k_cap k_max k_min k_ext k_callV k_true k_false k_gtt k_gtf k_gft k_gsk k_gff k_lit1i k_lit2i k_lit3i k_c0 k_c1 k_ck List.getElem?_cons_zero List.getElem?_cons_succ List.getElem?_nil Option.getD_some Option.getD_none tupOf List.map_cons List.map_nil Option.map_some Option.map_none List.nil_append List.cons_append List.append_nil Nat.mul_one Int.toNat_natCast Nat.zero_add
theorem LeadingZeros64_calls {x : Nat} {h : H} {K : AV → H → Prop} (hx : x < 18446744073709551616) (h0 : 0 < x)
    (hk : ∀ s : Nat, s ≤ 63 → 9223372036854775808 ≤ x * 2 ^ s → x * 2 ^ s < 18446744073709551616 → K (.int .i64 (s : Int)) h) : ACalls Try.prog 80 [.int .u64 (x : Int)] h K := by
  refine in_bits_LeadingZeros64 (by simp) fun hw => ?_
  unfold c_bits_LeadingZeros64
  simp only [go_sem, ↓reduceIte, Nat.reduceEqDiff, Nat.reduceAdd, Bool.false_eq_true, Int.reduceToNat]
  refine Len64_calls hx fun L hL hB => ?_
  have n0 := hB.pos h0
  have e : IntKind.i64.wrap (64 - (L : Int)) = ((64 - L : Nat) : Int) := by rw [wI] <;> omega
  simp only [go_sem, ↓reduceIte, Nat.reduceEqDiff, Nat.reduceAdd, Bool.false_eq_true, Int.reduceToNat, e]
  intro _
  have h1 := hB.2.resolve_left n0
  refine hk (64 - L) (by omega) ?_ ?_
  · have := Nat.mul_le_mul_right (2 ^ (64 - L)) h1
    rw [← Nat.pow_add, show L - 1 + (64 - L) = 63 from by omega] at this
    exact this
  · have := Nat.mul_lt_mul_of_pos_right hB.1 (Nat.pow_pos (n := 64 - L) (show 0 < 2 by decide))
    rw [← Nat.pow_add, show L + (64 - L) = 64 from by omega] at this
    exact this
theorem dig_le {U Y a b c W q r : Nat} (hY : Y = a * W + b) (hq : q * a + r = U) (hc : q * b ≤ W * r + c) : q * Y ≤ U * W + c := by
  have e1 : q * (a * W + b) = q * a * W + q * b := by rw [Nat.mul_add, Nat.mul_assoc]
  have e2 : U * W = q * a * W + W * r := by rw [← hq, Nat.add_mul, Nat.mul_comm r W]
  rw [hY, e1, e2]
  omega
theorem dig_lt {U Y a b c W q r : Nat} (hY : Y = a * W + b) (hq : q * a + r = U) (hc : W * r + c < q * b) : U * W + c < q * Y := by
  have e1 : q * (a * W + b) = q * a * W + q * b := by rw [Nat.mul_add, Nat.mul_assoc]
  have e2 : U * W = q * a * W + W * r := by rw [← hq, Nat.add_mul, Nat.mul_comm r W]
  rw [hY, e1, e2]
  omega
theorem dig_full {U Y c W : Nat} (hU : U < Y) (hc : c < W) : (U * W + c) / Y < W := by
  rw [Nat.div_lt_iff_lt_mul (by omega)]
  have := Nat.mul_le_mul_right W (show U + 1 ≤ Y from hU)
  rw [Nat.add_mul] at this
  rw [Nat.mul_comm W Y]
  omega
/-- The state of the search for a digit. -/
structure Srch (U Y a b c Q q r : Nat) : Prop where
  hY : Y = a * 4294967296 + b
  hU : U < Y
  ha : a < 4294967296
  ha2 : 2147483648 ≤ a
  hb : b < 4294967296
  hc : c < 4294967296
  hQ : Q = (U * 4294967296 + c) / Y
  hq : q * a + r = U
  hr : r < 4294967296
  hle : Q ≤ q
  hq1 : q ≤ 4294967297
theorem Srch.start {U Y a b c Q : Nat} (hQ : Q = (U * 4294967296 + c) / Y) (hY : Y = a * 4294967296 + b) (hU : U < Y) (ha : a < 4294967296) (ha2 : 2147483648 ≤ a) (hb : b < 4294967296) (hc : c < 4294967296) : Srch U Y a b c Q (U / a) (U % a) := by
  subst hQ
  have h0 : U / a ≤ 4294967297 := by
    have : U < (4294967297 + 1) * a := by rw [hY] at hU; omega
    have := (Nat.div_lt_iff_lt_mul (by omega : 0 < a)).2 this
    omega
  have h1 : U % a < a := Nat.mod_lt _ (by omega)
  refine ⟨hY, hU, ha, ha2, hb, hc, rfl, Nat.div_add_mod' U a, by omega, ?_, h0⟩
  refine Nat.le_of_lt_succ ((Nat.div_lt_iff_lt_mul (by omega)).2 ?_)
  have e : U < (U / a + 1) * a := Nat.lt_mul_of_div_lt (Nat.lt_succ_self _) (by omega)
  have e2 : U + 1 ≤ (U / a + 1) * a := e
  have e3 := Nat.mul_le_mul_right 4294967296 e2
  have e4 : (U / a).succ * Y = (U / a + 1) * a * 4294967296 + (U / a + 1) * b := by
    rw [hY, Nat.succ_eq_add_one, Nat.mul_add, Nat.mul_assoc]
  rw [e4]
  rw [Nat.add_mul] at e3
  omega
theorem Srch.done {U Y a b c Q q r : Nat} (s : Srch U Y a b c Q q r) (hc : q * b ≤ 4294967296 * r + c) : q = Q := by
  have h1 := dig_le (W := 4294967296) (c := c) s.hY s.hq hc
  have h2 : q ≤ Q := by rw [s.hQ]; exact (Nat.le_div_iff_mul_le (by have := s.hU; omega)).2 h1
  have := s.hle
  omega
theorem Srch.lt {U Y a b c Q q r : Nat} (s : Srch U Y a b c Q q r) (hc : 4294967296 ≤ q ∨ 4294967296 * r + c < q * b) : Q < q := by
  rcases hc with h | h
  · have := dig_full s.hU s.hc
    rw [← s.hQ] at this
    omega
  · have h1 := dig_lt (W := 4294967296) (c := c) s.hY s.hq h
    rw [s.hQ]
    exact (Nat.div_lt_iff_lt_mul (by have := s.hU; omega)).2 h1
theorem Srch.next {U Y a b c Q q r : Nat} (s : Srch U Y a b c Q q r) (hc : Q < q) (hr : r + a < 4294967296) : Srch U Y a b c Q (q - 1) (r + a) := by
  refine ⟨s.hY, s.hU, s.ha, s.ha2, s.hb, s.hc, s.hQ, ?_, hr, by omega, by have := s.hq1; omega⟩
  rw [← s.hq, Nat.sub_mul]
  have : 1 * a ≤ q * a := Nat.mul_le_mul_right a (by omega)
  omega
theorem Srch.out {U Y a b c Q q r : Nat} (s : Srch U Y a b c Q q r) (hc : Q < q) (hr : 4294967296 ≤ r + a) : q - 1 = Q := by
  have e : (q - 1) * a + (r + a) = U := by
    rw [← s.hq, Nat.sub_mul]
    have : 1 * a ≤ q * a := Nat.mul_le_mul_right a (by omega)
    omega
  have h0 : (q - 1) * b ≤ 4294967296 * (r + a) + c := by
    have := Nat.mul_le_mul (show q - 1 ≤ 4294967296 by have := s.hq1; omega) (Nat.le_of_lt s.hb)
    omega
  have h1 := dig_le (W := 4294967296) (c := c) s.hY e h0
  have h2 : q - 1 ≤ Q := by rw [s.hQ]; exact (Nat.le_div_iff_mul_le (by have := s.hU; omega)).2 h1
  omega
/-- Two digits are the quotient. -/
theorem two_digits {U Y c1 c0 Q1 R Q0 : Nat} (hQ1 : Q1 = (U * 4294967296 + c1) / Y) (hR : R = (U * 4294967296 + c1) % Y) (hQ0 : Q0 = (R * 4294967296 + c0) / Y) (hY : 0 < Y) :
    (U * 18446744073709551616 + (c1 * 4294967296 + c0)) / Y = Q1 * 4294967296 + Q0 ∧ (U * 18446744073709551616 + (c1 * 4294967296 + c0)) % Y = (R * 4294967296 + c0) % Y := by
  have e1 : U * 4294967296 + c1 = Y * Q1 + R := by rw [hQ1, hR, Nat.div_add_mod]
  have e2 : R * 4294967296 + c0 = Y * Q0 + (R * 4294967296 + c0) % Y := by rw [hQ0, Nat.div_add_mod]
  have e3 : U * 18446744073709551616 + (c1 * 4294967296 + c0) = Y * (Q1 * 4294967296 + Q0) + (R * 4294967296 + c0) % Y := by
    have e4 : (U * 4294967296 + c1) * 4294967296 = (Y * Q1 + R) * 4294967296 := by rw [e1]
    rw [Nat.mul_add, ← Nat.mul_assoc]
    revert e1 e2 e4
    generalize (R * 4294967296 + c0) % Y = rr
    generalize Y * Q1 = t
    generalize Y * Q0 = t0
    clear hQ1 hR hQ0 hY
    omega
  have hlt : (R * 4294967296 + c0) % Y < Y := Nat.mod_lt _ hY
  rw [e3]
  constructor
  · rw [Nat.mul_add_div hY, Nat.div_eq_of_lt hlt, Nat.add_zero]
  · rw [Nat.mul_add_mod, Nat.mod_eq_of_lt hlt]
end Ab
end Go.Proofs.Yteoagnggnekfiaa
