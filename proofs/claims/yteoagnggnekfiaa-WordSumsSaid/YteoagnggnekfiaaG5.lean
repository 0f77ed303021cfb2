/- Division of two words with the inverse at hand. No condition. -/
import Derived.Test.YteoagnggnekfiaaG4
namespace Go.Proofs.Yteoagnggnekfiaa
namespace Ab
open Go Go.RowKit
set_option linter.unusedSimpArgs false
set_option linter.unusedVariables false
attribute [local go_sem ↓] x_mv x_pick x_bin x_beq x_peq x_idxS x_un x_cvI x_idx x_idxA x_fld x_ld x_st x_nn x_prt x_slc x_mk x_bsl x_bld x_box x_alloc x_len x_capo x_mnx x_app x_cpy x_mkf x_ext x_call x_callV x_bad s_none s_some s_nil s_cons s_chks w_skip w_reg w_seq w_cond w_block w_exit w_ret t_normal t_exit t_ret b_normal b_ret b_exit n_normal n_exit n_ret p_normal p_ret f_nil f_t f_c k_ops k_chk k_fin
attribute [local go_sem] e_t e_c e_f u_some u_none u_at env_at k_v k_pick k_add k_sub k_mul k_quo k_rem k_and k_or k_xor k_shl k_shr k_eql k_neq k_lss k_leq k_gtr k_geq k_beq k_peqn k_peqs k_neg k_not k_com k_cvI k_idxS k_idx k_idxA k_fld k_ld1 k_ldn k_get k_gets k_sti k_stb k_stp k_sts k_stf k_sta k_put k_nn k_prt1 k_prtn k_slc_a k_slc_b k_slc_c k_mk k_agg k_bsl k_box k_len k_lenS k_cap k_max k_min k_ext k_callV k_true k_false k_gtt k_gtf k_gft k_gsk k_gff k_lit1i k_lit2i k_lit3i k_c0 k_c1 k_ck List.getElem?_cons_zero List.getElem?_cons_succ List.getElem?_nil Option.getD_some Option.getD_none tupOf List.map_cons List.map_nil Option.map_some Option.map_none List.nil_append List.cons_append List.append_nil Nat.mul_one Int.toNat_natCast Nat.zero_add
/-- Between what bounds the first remainder lies. -/
theorem mg_bounds {B v d k u1 u0 q1 q0 r : Int} (h1 : (B + v) * d + k = B * B) (h2 : (B + v) * u1 + u0 = q1 * B + q0) (h3 : r = u1 * B + u0 - (q1 + 1) * d) (hk0 : 0 ≤ k) (hk : k ≤ d) (hd : d < B) (hd0 : 0 < d)
    (hu1 : 0 ≤ u1) (hu1d : u1 < d) (hu0 : 0 ≤ u0) (hu0B : u0 < B) (hq0 : 0 ≤ q0) (hq0B : q0 < B) : -d ≤ r ∧ q0 + 1 ≤ B + r ∧ (r < B - d ∨ r < q0) := by
  have key : B * r = u1 * k + u0 * (B - d) + q0 * d - B * d := by grind
  have p1 : 0 ≤ u1 * k := Int.mul_nonneg hu1 hk0
  have p2 : 0 ≤ u0 * (B - d) := Int.mul_nonneg hu0 (by omega)
  have p3 : 0 ≤ q0 * d := Int.mul_nonneg hq0 (by omega)
  have hB : 0 < B := by omega
  refine ⟨?_, ?_, ?_⟩
  · have e : B * (-d) ≤ B * r := by rw [key]; grind
    exact Int.le_of_mul_le_mul_left e hB
  · have e0 : (B - q0) * d < (B - q0) * B := Int.mul_lt_mul_of_pos_left hd (by omega)
    have e : B * (q0 - B) < B * r := by rw [key]; grind
    have := Int.lt_of_mul_lt_mul_left e (by omega)
    omega
  · rcases Int.lt_or_le r (B - d) with c1 | c1
    · exact .inl c1
    · refine .inr ?_
      rcases Int.lt_or_le r q0 with c2 | c2
      · exact c2
      · exfalso
        have a1 : u1 * k ≤ (d - 1) * d := Int.mul_le_mul (by omega) hk hk0 (by omega)
        have a2 : u0 * (B - d) ≤ (B - 1) * (B - d) := Int.mul_le_mul_of_nonneg_right (by omega) (by omega)
        have a3 : (B - d) * (B - d) ≤ (B - d) * r := Int.mul_le_mul_of_nonneg_left c1 (by omega)
        have a4 : d * q0 ≤ d * r := Int.mul_le_mul_of_nonneg_left c2 (by omega)
        grind
theorem wrap_mul {a b : Int} : IntKind.u64.wrap (IntKind.u64.wrap a * b) = IntKind.u64.wrap (a * b) := by
  rw [wUm, wUm, wUm, Int.mul_emod, Int.emod_emod, ← Int.mul_emod]
theorem wrap_sub {a b : Int} : IntKind.u64.wrap (a - IntKind.u64.wrap b) = IntKind.u64.wrap (a - b) := by
  rw [wUm, wUm, wUm, Int.sub_emod_emod]
theorem addUm {a b : Nat} : IntKind.u64.wrap ((a : Int) + (b : Int)) = (((a + b) % 18446744073709551616 : Nat) : Int) := by rw [wUm]; omega
theorem incUm {a : Nat} : IntKind.u64.wrap ((a : Int) + 1) = (((a + 1) % 18446744073709551616 : Nat) : Int) := by rw [wUm]; omega
theorem subUm {a b : Nat} (hb : b ≤ 18446744073709551616) : IntKind.u64.wrap ((a : Int) - (b : Int)) = (((a + 18446744073709551616 - b) % 18446744073709551616 : Nat) : Int) := by rw [wUm]; omega
theorem decUm {a : Nat} : IntKind.u64.wrap ((a : Int) - 1) = (((a + 18446744073709551616 - 1) % 18446744073709551616 : Nat) : Int) := by rw [wUm]; omega
/-- What the inverse of a word is. -/
def IsInv (d v : Nat) : Prop := v < 18446744073709551616 ∧ ∃ k : Nat, k ≤ d ∧ 1 ≤ k ∧ (18446744073709551616 + v) * d + k = 340282366920938463463374607431768211456
theorem inv_of {d : Nat} (hd : d < 18446744073709551616) (h2 : 9223372036854775808 ≤ d) : IsInv d (((18446744073709551615 - d) * 18446744073709551616 + 18446744073709551615) / d) := by
  have h1 := Nat.div_add_mod ((18446744073709551615 - d) * 18446744073709551616 + 18446744073709551615) d
  have h3 := Nat.mod_lt ((18446744073709551615 - d) * 18446744073709551616 + 18446744073709551615) (show 0 < d by omega)
  have hv : ((18446744073709551615 - d) * 18446744073709551616 + 18446744073709551615) / d < 18446744073709551616 := by
    rw [Nat.div_lt_iff_lt_mul (by omega)]
    omega
  generalize ((18446744073709551615 - d) * 18446744073709551616 + 18446744073709551615) / d = v at *
  generalize ((18446744073709551615 - d) * 18446744073709551616 + 18446744073709551615) % d = m at *
  refine ⟨hv, m + 1, by omega, by omega, ?_⟩
  rw [Nat.add_mul, Nat.mul_comm v d]
  generalize d * v = t at *
  omega
theorem DivBy_calls {hi lo d v : Nat} {h : H} {K : AV → H → Prop} (hh : hi < 18446744073709551616) (hl : lo < 18446744073709551616) (hd : d < 18446744073709551616)
    (hk1 : d ≤ hi ∨ d < 9223372036854775808 → K (.tup [.int .u64 0, .int .u64 0, .bool false]) h)
    (hi2 : ¬ (d ≤ hi ∨ d < 9223372036854775808) → IsInv d v)
    (hk2 : hi < d → 9223372036854775808 ≤ d → K (.tup [.int .u64 ((hi * 18446744073709551616 + lo) / d : Nat), .int .u64 ((hi * 18446744073709551616 + lo) % d : Nat), .bool true]) h) : ACalls Try.prog 46 [.int .u64 (hi : Int), .int .u64 (lo : Int), .int .u64 (d : Int), .int .u64 (v : Int)] h K := by
  refine in_word_DivBy (by simp) fun hw => ?_
  unfold c_word_DivBy
  rcases Nat.lt_or_ge hi d with c1 | c1
  · have d1 : decide ((d : Int) ≤ (hi : Int)) = false := by simp; omega
    rcases Nat.lt_or_ge d 9223372036854775808 with c2 | c2
    · have d2 : decide ((d : Int) < 9223372036854775808) = true := by simp; omega
      simp only [go_sem, ↓reduceIte, Nat.reduceEqDiff, Nat.reduceAdd, Bool.false_eq_true, Int.reduceToNat, d1, d2]
      exact fun _ => hk1 (.inr c2)
    · have d2 : decide ((d : Int) < 9223372036854775808) = false := by simp; omega
      obtain ⟨hv, k, hk0, hk3, hk4⟩ := hi2 (by omega)
      simp only [go_sem, ↓reduceIte, Nat.reduceEqDiff, Nat.reduceAdd, Bool.false_eq_true, Int.reduceToNat, d1, d2]
      refine Mul64_calls hv hh ?_
      simp only [go_sem, ↓reduceIte, Nat.reduceEqDiff, Nat.reduceAdd, Bool.false_eq_true, Int.reduceToNat]
      refine Add64_calls (c := 0) (by omega) hl (by omega) ?_
      simp only [go_sem, ↓reduceIte, Nat.reduceEqDiff, Nat.reduceAdd, Bool.false_eq_true, Int.reduceToNat]
      have hvh : v * hi / 18446744073709551616 < 18446744073709551616 := by
        have := Nat.mul_lt_mul'' hv hh
        omega
      refine Add64_calls hvh hh (by omega) ?_
      simp only [go_sem, ↓reduceIte, Nat.reduceEqDiff, Nat.reduceAdd, Bool.false_eq_true, Int.reduceToNat]
      -- the first digit
      have e1 : v * hi = 18446744073709551616 * (v * hi / 18446744073709551616) + v * hi % 18446744073709551616 := (Nat.div_add_mod _ _).symm
      have e2 : v * hi % 18446744073709551616 < 18446744073709551616 := Nat.mod_lt _ (by decide)
      have hsum : (18446744073709551616 + v) * hi + lo = (v * hi / 18446744073709551616 + hi + (v * hi % 18446744073709551616 + lo + 0) / 18446744073709551616) * 18446744073709551616 + (v * hi % 18446744073709551616 + lo + 0) % 18446744073709551616 := by
        rw [Nat.add_mul]
        generalize v * hi = t at *
        omega
      have htop : (18446744073709551616 + v) * hi + lo < 340282366920938463463374607431768211456 := by
        have := Nat.mul_le_mul_left (18446744073709551616 + v) (show hi + 1 ≤ d from c1)
        rw [Nat.mul_add] at this
        omega
      have hQ1 : v * hi / 18446744073709551616 + hi + (v * hi % 18446744073709551616 + lo + 0) / 18446744073709551616 < 18446744073709551616 := by omega
      rw [Nat.mod_eq_of_lt hQ1]
      have hQ0 : (v * hi % 18446744073709551616 + lo + 0) % 18446744073709551616 < 18446744073709551616 := Nat.mod_lt _ (by decide)
      generalize v * hi / 18446744073709551616 + hi + (v * hi % 18446744073709551616 + lo + 0) / 18446744073709551616 = Q1 at *
      generalize (v * hi % 18446744073709551616 + lo + 0) % 18446744073709551616 = Q0 at *
      obtain ⟨N1, N2, N3⟩ := div_lt_word c1 hl hd
      obtain ⟨b1, b2, b3⟩ := mg_bounds (B := 18446744073709551616) (v := v) (d := d) (k := k) (u1 := hi) (u0 := lo) (q1 := Q1) (q0 := Q0) (r := hi * 18446744073709551616 + lo - (Q1 + 1) * d) (by have := congrArg (fun n : Nat => (n : Int)) hk4; simpa using this) (by have := congrArg (fun n : Nat => (n : Int)) hsum; simpa using this) rfl (by omega) (by omega) (by omega) (by omega) (by omega) (by omega) (by omega) (by omega) (by omega) (by omega)
      have eP : ((Q1 : Int) + 1) * (d : Int) = (((Q1 + 1) * d : Nat) : Int) := by simp
      rw [eP] at b1 b2 b3
      have hfin : ∀ q r : Nat, q * d + r = hi * 18446744073709551616 + lo → r < d → K (.tup [.int .u64 (q : Int), .int .u64 (r : Int), .bool true]) h := by
        intro q r h1 h2
        have := (Nat.div_mod_unique (a := hi * 18446744073709551616 + lo) (b := d) (c := r) (d := q) (by omega)).2 ⟨by rw [Nat.mul_comm d q]; omega, h2⟩
        have hk2 := hk2 c1 c2
        rw [this.1, this.2] at hk2
        exact hk2
      have hq : ∀ q r : Nat, q * d + r = hi * 18446744073709551616 + lo → r < d → q < 18446744073709551616 := by
        intro q r h1 h2
        have := (Nat.div_mod_unique (a := hi * 18446744073709551616 + lo) (b := d) (c := r) (d := q) (by omega)).2 ⟨by rw [Nat.mul_comm d q]; omega, h2⟩
        rw [this.1] at N1
        exact N1
      have eR : IntKind.u64.wrap ((lo : Int) - IntKind.u64.wrap (IntKind.u64.wrap ((Q1 : Int) + 1) * (d : Int))) = (((((hi * 18446744073709551616 + lo : Nat) : Int) - (((Q1 + 1) * d : Nat) : Int)) % 18446744073709551616).toNat : Int) := by
        rw [wrap_mul, wrap_sub, eP, wUm]
        generalize (Q1 + 1) * d = P
        omega
      rw [eR]
      have hR : ((((((hi * 18446744073709551616 + lo : Nat) : Int) - (((Q1 + 1) * d : Nat) : Int)) % 18446744073709551616).toNat : Nat) : Int) = (((hi * 18446744073709551616 + lo : Nat) : Int) - (((Q1 + 1) * d : Nat) : Int)) % 18446744073709551616 := by omega
      generalize ((((hi * 18446744073709551616 + lo : Nat) : Int) - (((Q1 + 1) * d : Nat) : Int)) % 18446744073709551616).toNat = R at *
      clear eR e1 e2 hsum htop hk4 eP
      have m0 : Q1 * d + d = (Q1 + 1) * d := by rw [Nat.add_mul, Nat.one_mul]
      have m2 : (Q1 + 2) * d = (Q1 + 1) * d + d := by rw [show Q1 + 2 = Q1 + 1 + 1 from rfl, Nat.add_mul (Q1 + 1), Nat.one_mul]
      generalize hP : (Q1 + 1) * d = P at *
      refine cond_split (fun x1 => ?_) (fun x1 => ?_)
      · have x1 : Q0 < R := by simp at x1; omega
        have hdec : IntKind.u64.wrap (IntKind.u64.wrap ((Q1 : Int) + 1) - 1) = (Q1 : Int) := by rw [wUm, wUm]; omega
        simp only [go_sem, ↓reduceIte, Nat.reduceEqDiff, Nat.reduceAdd, Bool.false_eq_true, Int.reduceToNat, hdec, addUm]
        refine cond_split (fun x2 => ?_) (fun x2 => ?_)
        · have x2 : d ≤ (R + d) % 18446744073709551616 := by simp at x2; omega
          have hsub : IntKind.u64.wrap ((((R + d) % 18446744073709551616 : Nat) : Int) - (d : Int)) = ((hi * 18446744073709551616 + lo - P : Nat) : Int) := by rw [wUm]; omega
          have h5 : (Q1 + 1) * d + (hi * 18446744073709551616 + lo - P) = hi * 18446744073709551616 + lo := by rw [hP]; omega
          have h6 : hi * 18446744073709551616 + lo - P < d := by omega
          have hinc : IntKind.u64.wrap ((Q1 : Int) + 1) = ((Q1 + 1 : Nat) : Int) := by have := hq _ _ h5 h6; rw [wUm]; omega
          simp only [go_sem, ↓reduceIte, Nat.reduceEqDiff, Nat.reduceAdd, Bool.false_eq_true, Int.reduceToNat, hsub, hinc]
          exact fun _ => hfin _ _ h5 h6
        · have x2 : (R + d) % 18446744073709551616 < d := by simp at x2; omega
          simp only [go_sem, ↓reduceIte, Nat.reduceEqDiff, Nat.reduceAdd, Bool.false_eq_true, Int.reduceToNat]
          refine fun _ => hfin _ _ ?_ x2
          omega
      · have x1 : R ≤ Q0 := by simp at x1; omega
        simp only [go_sem, ↓reduceIte, Nat.reduceEqDiff, Nat.reduceAdd, Bool.false_eq_true, Int.reduceToNat]
        refine cond_split (fun x2 => ?_) (fun x2 => ?_)
        · have x2 : d ≤ R := by simp at x2; omega
          have h5 : (Q1 + 2) * d + (R - d) = hi * 18446744073709551616 + lo := by rw [m2]; omega
          have h6 : R - d < d := by omega
          have hinc : IntKind.u64.wrap (IntKind.u64.wrap ((Q1 : Int) + 1) + 1) = ((Q1 + 2 : Nat) : Int) := by have := hq _ _ h5 h6; rw [wUm, wUm]; omega
          have hsub : IntKind.u64.wrap ((R : Int) - (d : Int)) = ((R - d : Nat) : Int) := by rw [wUm]; omega
          simp only [go_sem, ↓reduceIte, Nat.reduceEqDiff, Nat.reduceAdd, Bool.false_eq_true, Int.reduceToNat, hsub, hinc]
          exact fun _ => hfin _ _ h5 h6
        · have x2 : R < d := by simp at x2; omega
          have h5 : (Q1 + 1) * d + R = hi * 18446744073709551616 + lo := by rw [hP]; omega
          have hinc : IntKind.u64.wrap ((Q1 : Int) + 1) = ((Q1 + 1 : Nat) : Int) := by have := hq _ _ h5 x2; rw [wUm]; omega
          simp only [go_sem, ↓reduceIte, Nat.reduceEqDiff, Nat.reduceAdd, Bool.false_eq_true, Int.reduceToNat, hinc]
          exact fun _ => hfin _ _ h5 x2
  · have d1 : decide ((d : Int) ≤ (hi : Int)) = true := by simp; omega
    simp only [go_sem, ↓reduceIte, Nat.reduceEqDiff, Nat.reduceAdd, Bool.false_eq_true, Int.reduceToNat, d1]
    exact fun _ => hk1 (.inl c1)
end Ab
end Go.Proofs.Yteoagnggnekfiaa
