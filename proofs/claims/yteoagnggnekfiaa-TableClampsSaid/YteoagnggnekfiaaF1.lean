/- Words of 64 binary digits: the package bits. No condition. -/
import Derived.Test.YteoagnggnekfiaaE5
import Derived.Laws.Externs
import Derived.Lib.Mul64
namespace Go.Proofs.Yteoagnggnekfiaa
namespace Ab
open Go Go.RowKit
set_option linter.unusedSimpArgs false
set_option linter.unusedVariables false
attribute [local go_sem ↓] x_mv x_pick x_bin x_beq x_peq x_seq x_cat x_aeq x_idxS x_un x_cvI x_idx x_idxA x_fld x_ld x_st x_nn x_prt x_slc x_mk x_bsl x_bld x_box x_alloc x_len x_capo x_mnx x_app x_cpy x_mkf x_ext x_call x_callV x_bad s_none s_some s_nil s_cons s_chks w_skip w_reg w_seq w_cond w_block w_exit w_ret t_normal t_exit t_ret b_normal b_ret b_exit n_normal n_exit n_ret p_normal p_ret f_nil f_t f_c k_ops k_chk k_fin
attribute [local go_sem] e_t e_c e_f u_some u_none u_at env_at k_v k_pick k_add k_sub k_mul k_quo k_rem k_and k_or k_xor k_shl k_shr k_eql k_neq k_lss k_leq k_gtr k_geq k_beq k_peqn k_peqs k_neg k_not k_com k_cvI k_idxS k_idx k_idxA k_idxG k_ldG k_gld k_seq k_cat k_aeq k_eqs k_fld k_ld1 k_ldn k_get k_gets k_sti k_stb k_stp k_sts k_stf k_sta k_put k_nn k_prt1 k_prtn k_slc_a k_slc_b k_slc_c k_mk k_agg k_bsl k_box k_len k_lenS k_cap k_max k_min k_ext k_callV k_true k_false k_gtt k_gtf k_gft k_gsk k_gff k_lit1i k_lit2i k_lit3i k_c0 k_c1 k_ck List.getElem?_cons_zero List.getElem?_cons_succ List.getElem?_nil Option.getD_some Option.getD_none tupOf List.map_cons List.map_nil Option.map_some Option.map_none List.nil_append List.cons_append List.append_nil Nat.mul_one Int.toNat_natCast Nat.zero_add
theorem mask32 {x : Nat} (hx : x < 18446744073709551616) : bAnd .u64 (x : Int) 4294967295 = ((x % 4294967296 : Nat) : Int) := by
  have := bandN (a := x) (b := 4294967295) hx (by omega)
  rw [show 4294967295 = 2 ^ 32 - 1 from rfl, Nat.and_two_pow_sub_one_eq_mod] at this
  exact this
theorem shrU {x n : Nat} (hn : n ≤ 64) : bShr .u64 (x : Int) n = ((x / 2 ^ n : Nat) : Int) := by
  unfold bShr
  rw [show IntKind.u64.bits = 64 from rfl, Nat.min_eq_left hn, Int.fdiv_eq_ediv_of_nonneg _ (Int.le_of_lt (Int.pow_pos (by decide)))]
  simp
theorem shr32 {x : Nat} : bShr .u64 (x : Int) 32 = ((x / 4294967296 : Nat) : Int) := shrU (n := 32) (by omega)
theorem wUn {x : Nat} (h : x < 18446744073709551616) : IntKind.u64.wrap (x : Int) = (x : Int) := by rw [wU] <;> omega
theorem Add64_calls {x y c : Nat} {h : H} {K : AV → H → Prop} (hx : x < 18446744073709551616) (hy : y < 18446744073709551616) (hc : c ≤ 1)
    (hk : K (.tup [.int .u64 ((x + y + c) % 18446744073709551616 : Nat), .int .u64 ((x + y + c) / 18446744073709551616 : Nat)]) h) : ACalls Try.prog 70 [.int .u64 (x : Int), .int .u64 (y : Int), .int .u64 (c : Int)] h K := by
  intro base w0 μ w vs R hr
  obtain ⟨v1, vs, rfl, r1, hr⟩ := hr.inv
  obtain ⟨v2, vs, rfl, r2, hr⟩ := hr.inv
  obtain ⟨v3, vs, rfl, r3, hr⟩ := hr.inv
  obtain rfl := hr.inv_nil
  cases r1; cases r2; cases r3
  refine .inr ⟨.tuple #[.int .u64 ((x + y + c) % 18446744073709551616 : Nat), .int .u64 ((x + y + c) / 18446744073709551616 : Nat)], ?_, μ, _, h, μ.le_refl, ?_, R, hk⟩
  · rw [run_callFunc_extern Try.func70 (by kernel_rfl) (by kernel_rfl) (by kernel_rfl) (e := add64Entry) (by kernel_rfl)]
    show ((add64Entry #[.int .u64 x, .int .u64 y, .int .u64 c]).run Try.prog w).andThen _ = _
    rw [run_add64 (x : Int) y c (by omega) (by omega) (by omega) (by omega)]
    rfl
  · exact ((RelA.nil μ).cons (Rel.int _ _)).cons (Rel.int _ _) |>.tup
def sub64E : Array Value → Sem Value := fun args => do
  let (x, y, b) ← Extern.MathBitsCarry.three "Sub64" args
  pure (Extern.MathBitsCarry.pair ((x + Extern.MathBitsCarry.m64 - y - b) % Extern.MathBitsCarry.m64) (if x < y + b then 1 else 0))
theorem run_sub64E {P : Program} (x y b : Nat) (hb : b ≤ 1) (w : World) :
    (sub64E #[.int .u64 x, .int .u64 y, .int .u64 b]).run P w =
      .ok (.tuple #[.int .u64 (((x + 18446744073709551616 - y - b) % 18446744073709551616 : Nat) : Int), .int .u64 ((if x < y + b then 1 else 0 : Nat) : Int)]) w := by
  have : b = 0 ∨ b = 1 := by omega
  rcases this with rfl | rfl <;> rfl
theorem Sub64_calls {x y c : Nat} {h : H} {K : AV → H → Prop} (hc : c ≤ 1)
    (hk : K (.tup [.int .u64 ((x + 18446744073709551616 - y - c) % 18446744073709551616 : Nat), .int .u64 (if x < y + c then 1 else 0 : Nat)]) h) : ACalls Try.prog 72 [.int .u64 (x : Int), .int .u64 (y : Int), .int .u64 (c : Int)] h K := by
  intro base w0 μ w vs R hr
  obtain ⟨v1, vs, rfl, r1, hr⟩ := hr.inv
  obtain ⟨v2, vs, rfl, r2, hr⟩ := hr.inv
  obtain ⟨v3, vs, rfl, r3, hr⟩ := hr.inv
  obtain rfl := hr.inv_nil
  cases r1; cases r2; cases r3
  refine .inr ⟨.tuple #[.int .u64 ((x + 18446744073709551616 - y - c) % 18446744073709551616 : Nat), .int .u64 (if x < y + c then 1 else 0 : Nat)], ?_, μ, _, h, μ.le_refl, ?_, R, hk⟩
  · rw [run_callFunc_extern Try.func72 (by kernel_rfl) (by kernel_rfl) (by kernel_rfl) (e := sub64E) (by kernel_rfl)]
    show ((sub64E #[.int .u64 x, .int .u64 y, .int .u64 c]).run Try.prog w).andThen _ = _
    rw [run_sub64E x y c hc]
    rfl
  · exact ((RelA.nil μ).cons (Rel.int _ _)).cons (Rel.int _ _) |>.tup
theorem Mul64_calls {x y : Nat} {h : H} {K : AV → H → Prop} (hx : x < 18446744073709551616) (hy : y < 18446744073709551616)
    (hk : K (.tup [.int .u64 (x * y / 18446744073709551616 : Nat), .int .u64 (x * y % 18446744073709551616 : Nat)]) h) : ACalls Try.prog 61 [.int .u64 (x : Int), .int .u64 (y : Int)] h K := by
  refine in_bits_Mul64 (by simp) fun hw => ?_
  unfold c_bits_Mul64
  obtain ⟨m1, m2, m3, m4⟩ := Lib.mul64_hi x y hx hy
  have m5 : IntKind.u64.wrap ((x : Int) * (y : Int)) = ((x * y % 18446744073709551616 : Nat) : Int) := by rw [wUm, ← Int.natCast_mul]; rfl
  have hm : x * y / 18446744073709551616 < 18446744073709551616 := by
    have := Nat.mul_lt_mul'' hx hy
    omega
  rw [← m4] at hk hm
  have hm2 : x / 4294967296 * (y / 4294967296) < 18446744073709551616 := by
    have := Nat.mul_le_mul (show x / 4294967296 ≤ 4294967295 by omega) (show y / 4294967296 ≤ 4294967295 by omega)
    omega
  simp only [go_sem, ↓reduceIte, Nat.reduceEqDiff, Nat.reduceAdd, Bool.false_eq_true, Int.reduceToNat]
  simp only [mask32 hx, mask32 hy, shr32]
  have f1 : x / 4294967296 * (y % 4294967296) < 18446744073709551616 := by omega
  have f2 : x % 4294967296 * (y / 4294967296) < 18446744073709551616 := by omega
  generalize x % 4294967296 = x0 at *
  generalize y % 4294967296 = y0 at *
  generalize x / 4294967296 = x1 at *
  generalize y / 4294967296 = y1 at *
  simp only [mulU m1, mulU f1, mulU f2, mulU hm2, shr32, addU m2, mask32 m2, addU m3]
  rw [addU (a := x1 * y1) (by omega), addU hm, m5]
  exact ⟨by omega, by omega, by omega, by omega, by omega, fun _ => hk⟩
end Ab
end Go.Proofs.Yteoagnggnekfiaa
