/- Three words over two. No condition. -/
import Derived.Test.YteoagnggnekfiaaG8
namespace Go.Proofs.Yteoagnggnekfiaa
namespace Ab
open Go Go.RowKit
set_option linter.unusedSimpArgs false
set_option linter.unusedVariables false
attribute [local go_sem ↓] x_mv x_pick x_bin x_beq x_peq x_idxS x_un x_cvI x_idx x_idxA x_fld x_ld x_st x_nn x_prt x_slc x_mk x_bsl x_bld x_box x_alloc x_len x_capo x_mnx x_app x_cpy x_mkf x_ext x_call x_callV x_bad s_none s_some s_nil s_cons s_chks w_skip w_reg w_seq w_cond w_block w_exit w_ret t_normal t_exit t_ret b_normal b_ret b_exit n_normal n_exit n_ret p_normal p_ret f_nil f_t f_c k_ops k_chk k_fin
attribute [local go_sem] e_t e_c e_f u_some u_none u_at env_at k_v k_pick k_add k_sub k_mul k_quo k_rem k_and k_or k_xor k_shl k_shr k_eql k_neq k_lss k_leq k_gtr k_geq k_beq k_peqn k_peqs k_neg k_not k_com k_cvI k_idxS k_idx k_idxA k_fld k_ld1 k_ldn k_get k_gets k_sti k_stb k_stp k_sts k_stf k_sta k_put k_nn k_prt1 k_prtn k_slc_a k_slc_b k_slc_c k_mk k_agg k_bsl k_box k_len k_lenS k_cap k_max k_min k_ext k_callV k_true k_false k_gtt k_gtf k_gft k_gsk k_gff k_lit1i k_lit2i k_lit3i k_c0 k_c1 k_ck List.getElem?_cons_zero List.getElem?_cons_succ List.getElem?_nil Option.getD_some Option.getD_none tupOf List.map_cons List.map_nil Option.map_some Option.map_none List.nil_append List.cons_append List.append_nil Nat.mul_one Int.toNat_natCast Nat.zero_add
theorem ite01 {p : Prop} [Decidable p] : (if p then 1 else 0 : Nat) ≤ 1 := by split <;> omega
theorem mod_congr {a b m r : Nat} (h : r = a % m) (e : b = a) : b % m = r := by rw [h, e]
theorem sub2 {x1 x0 y1 y0 : Nat} (h1 : x1 < 18446744073709551616) (h2 : x0 < 18446744073709551616) (h3 : y1 < 18446744073709551616) (h4 : y0 < 18446744073709551616) :
    ∃ r : Nat, r < 340282366920938463463374607431768211456 ∧ r = (x1 * 18446744073709551616 + x0 + 340282366920938463463374607431768211456 - (y1 * 18446744073709551616 + y0)) % 340282366920938463463374607431768211456 ∧ (x1 + 18446744073709551616 - y1 - (if x0 < y0 + 0 then 1 else 0)) % 18446744073709551616 = r / 18446744073709551616 ∧ (x0 + 18446744073709551616 - y0 - 0) % 18446744073709551616 = r % 18446744073709551616 := by
  refine ⟨_, Nat.mod_lt _ (by decide), rfl, ?_, ?_⟩
  · split <;> omega
  · omega
theorem add2 {x1 x0 y1 y0 : Nat} (h1 : x1 < 18446744073709551616) (h2 : x0 < 18446744073709551616) (h3 : y1 < 18446744073709551616) (h4 : y0 < 18446744073709551616) :
    ∃ r : Nat, r < 340282366920938463463374607431768211456 ∧ r = (x1 * 18446744073709551616 + x0 + (y1 * 18446744073709551616 + y0)) % 340282366920938463463374607431768211456 ∧ (x1 + y1 + (x0 + y0 + 0) / 18446744073709551616) % 18446744073709551616 = r / 18446744073709551616 ∧ (x0 + y0 + 0) % 18446744073709551616 = r % 18446744073709551616 := by
  refine ⟨_, Nat.mod_lt _ (by decide), rfl, ?_, ?_⟩ <;> omega
theorem below_calls {a1 a0 b1 b0 : Nat} {h : H} {K : AV → H → Prop} (h0 : a0 < 18446744073709551616) (h1 : b0 < 18446744073709551616)
    (hk : ∀ t, t = decide (a1 * 18446744073709551616 + a0 < b1 * 18446744073709551616 + b0) → K (.bool t) h) : ACalls Try.prog 79 [.int .u64 (a1 : Int), .int .u64 (a0 : Int), .int .u64 (b1 : Int), .int .u64 (b0 : Int)] h K := by
  refine in_word_below (by simp) fun hw => ?_
  unfold c_word_below
  rcases Nat.lt_trichotomy a1 b1 with c | c | c
  · simp only [go_sem, ↓reduceIte, Nat.reduceEqDiff, Nat.reduceAdd, Bool.false_eq_true, Int.reduceToNat, ltT c]
    exact fun _ => hk true (by simp; omega)
  · have e : ((a1 : Int) == (b1 : Int)) = true := by simp; omega
    simp only [go_sem, ↓reduceIte, Nat.reduceEqDiff, Nat.reduceAdd, Bool.false_eq_true, Int.reduceToNat, ltF (Nat.le_of_eq c.symm), e]
    intro _
    refine hk _ ?_
    simp
    omega
  · have e : ((a1 : Int) == (b1 : Int)) = false := by simp; omega
    simp only [go_sem, ↓reduceIte, Nat.reduceEqDiff, Nat.reduceAdd, Bool.false_eq_true, Int.reduceToNat, ltF (Nat.le_of_lt c), e]
    exact fun _ => hk false (by simp; omega)
theorem div3_top {v a2 a1 D : Nat} (hI : (18446744073709551616 + v) * D < 6277101735386680763835789423207666416102355444464034512896) (hx : a2 * 18446744073709551616 + a1 < D) : (18446744073709551616 + v) * a2 + a1 < 340282366920938463463374607431768211456 := by
  have h1 : (18446744073709551616 + v) * (a2 * 18446744073709551616 + a1 + 1) ≤ (18446744073709551616 + v) * D := Nat.mul_le_mul_left _ hx
  have h2 : (18446744073709551616 + v) * (a2 * 18446744073709551616 + a1 + 1) = (18446744073709551616 + v) * a2 * 18446744073709551616 + (18446744073709551616 + v) * (a1 + 1) := by rw [Nat.add_assoc, Nat.mul_add, Nat.mul_assoc]
  have h3 : 18446744073709551616 * (a1 + 1) ≤ (18446744073709551616 + v) * (a1 + 1) := Nat.mul_le_mul_right _ (by omega)
  generalize (18446744073709551616 + v) * a2 = s at *
  generalize (18446744073709551616 + v) * (a1 + 1) = t at *
  generalize (18446744073709551616 + v) * D = u at *
  omega
theorem modN {a m r : Nat} (h : r = a % m) : ∃ q : Int, (r : Int) = a - m * q := ⟨(a / m : Nat), by
  have := Nat.div_add_mod a m
  rw [← h] at this
  have := congrArg (fun n : Nat => (n : Int)) this
  simp at this
  simp
  omega⟩
theorem div3_mod {a2 a1 a0 D t u w R1 R0 : Nat} (hD : D < 340282366920938463463374607431768211456) (hw : w = (a1 + 18446744073709551616 - t % 18446744073709551616) % 18446744073709551616) (h1 : R1 = (w * 18446744073709551616 + a0 + 340282366920938463463374607431768211456 - (u / 18446744073709551616 * 18446744073709551616 + u % 18446744073709551616)) % 340282366920938463463374607431768211456) (hu : u < 340282366920938463463374607431768211456)
    (h0 : R0 = (R1 / 18446744073709551616 * 18446744073709551616 + R1 % 18446744073709551616 + 340282366920938463463374607431768211456 - D) % 340282366920938463463374607431768211456) :
    ∃ j : Int, (R0 : Int) = ((a2 * 18446744073709551616 + a1) * 18446744073709551616 + a0 : Nat) - (t * 18446744073709551616 + u : Nat) - D + 340282366920938463463374607431768211456 * j := by
  rw [show R1 / 18446744073709551616 * 18446744073709551616 + R1 % 18446744073709551616 = R1 from by omega] at h0
  rw [show u / 18446744073709551616 * 18446744073709551616 + u % 18446744073709551616 = u from by omega] at h1
  obtain ⟨x, hx⟩ := modN (a := t) (m := 18446744073709551616) rfl
  obtain ⟨y, hy⟩ := modN hw
  obtain ⟨z, hz⟩ := modN h1
  obtain ⟨v, hv⟩ := modN h0
  have hl : t % 18446744073709551616 < 18446744073709551616 := Nat.mod_lt _ (by decide)
  rw [Int.ofNat_sub (by omega)] at hy hz hv
  generalize t % 18446744073709551616 = s at *
  clear hw h1 h0
  refine ⟨x - y - z - v + 3 - a2, ?_⟩
  simp at hx hy hz hv ⊢
  omega
theorem div3_plain {X D P q0 R0 Q1 : Nat} (hP : P = Q1 * D) (hD : D < 340282366920938463463374607431768211456) (hD2 : 170141183460469231731687303715884105728 ≤ D) (hX : X < D * 18446744073709551616) (hq0 : q0 < 18446744073709551616) (hQ : Q1 < 18446744073709551616)
    (hR : R0 < 340282366920938463463374607431768211456) (hj : ∃ j : Int, (R0 : Int) = X - P - D + 340282366920938463463374607431768211456 * j)
    (b1 : -(D : Int) ≤ (X : Int) - (P + D : Nat)) (b2 : (q0 : Int) * 18446744073709551616 ≤ 340282366920938463463374607431768211456 + ((X : Int) - (P + D : Nat)))
    (b3 : (X : Int) - (P + D : Nat) < 340282366920938463463374607431768211456 - D ∨ (X : Int) - (P + D : Nat) < q0 * 18446744073709551616) :
    (R0 / 18446744073709551616 < q0 → (R0 < D → X = (Q1 + 1) * D + R0) ∧ (D ≤ R0 → X = (Q1 + 2) * D + (R0 - D) ∧ R0 - D < D)) ∧
    (q0 ≤ R0 / 18446744073709551616 → ((R0 + D) % 340282366920938463463374607431768211456 < D → X = Q1 * D + (R0 + D) % 340282366920938463463374607431768211456) ∧
      (D ≤ (R0 + D) % 340282366920938463463374607431768211456 → X = (Q1 + 1) * D + ((R0 + D) % 340282366920938463463374607431768211456 - D) ∧ (R0 + D) % 340282366920938463463374607431768211456 - D < D)) := by
  obtain ⟨j, hj⟩ := hj
  have e1 : (Q1 + 1) * D = P + D := by rw [Nat.add_mul, hP]; omega
  have e2 : (Q1 + 2) * D = P + D + D := by rw [Nat.add_mul, hP]; omega
  rw [e1, e2, ← hP]
  have hj2 : j = 0 ∨ j = 1 := by omega
  refine ⟨fun h1 => ⟨fun h2 => ?_, fun h2 => ?_⟩, fun h1 => ⟨fun h2 => ?_, fun h2 => ?_⟩⟩ <;> rcases hj2 with rfl | rfl <;> omega
theorem quot_lt {X D q r : Nat} (hX : X < D * 18446744073709551616) (e : X = q * D + r) : q < 18446744073709551616 := by
  rcases Nat.lt_or_ge q 18446744073709551616 with h | h
  · exact h
  · have := Nat.mul_le_mul_right D h
    rw [Nat.mul_comm D] at hX
    omega
theorem below_t {R D : Nat} (h : R < D) : decide (R / 18446744073709551616 * 18446744073709551616 + R % 18446744073709551616 < D) = true := decide_eq_true (by omega)
theorem below_f {R D : Nat} (h : D ≤ R) : decide (R / 18446744073709551616 * 18446744073709551616 + R % 18446744073709551616 < D) = false := decide_eq_false (by omega)
theorem div3_lt0 {y a0 D : Nat} (h0 : a0 < 18446744073709551616) (c2 : y < D) : y * 18446744073709551616 + a0 < D * 18446744073709551616 := by omega
theorem div3_lt {a2 a1 a0 D : Nat} (h0 : a0 < 18446744073709551616) (c2 : a2 * 18446744073709551616 + a1 < D) : (a2 * 18446744073709551616 + a1) * 18446744073709551616 + a0 < D * 18446744073709551616 := div3_lt0 h0 c2
theorem div3_law {a2 a1 a0 d1 d0 v k Q1 q0 R1 R0 D X : Nat} (hDe : D = d1 * 18446744073709551616 + d0) (hXe : X = (a2 * 18446744073709551616 + a1) * 18446744073709551616 + a0) (h2 : a2 < 18446744073709551616) (h1 : a1 < 18446744073709551616) (h0 : a0 < 18446744073709551616) (hd1 : d1 < 18446744073709551616) (hd0 : d0 < 18446744073709551616) (c1 : 9223372036854775808 ≤ d1) (c2 : a2 * 18446744073709551616 + a1 < D)
    (hk3 : k ≤ D) (hk4 : (18446744073709551616 + v) * D + k = 6277101735386680763835789423207666416102355444464034512896)
    (hQ1 : Q1 < 18446744073709551616) (hQ0 : q0 < 18446744073709551616) (hsum : (18446744073709551616 + v) * a2 + a1 = Q1 * 18446744073709551616 + q0) (hR0 : R0 < 340282366920938463463374607431768211456)
    (eR1 : R1 = ((a1 + 18446744073709551616 - Q1 * d1 % 18446744073709551616) % 18446744073709551616 * 18446744073709551616 + a0 + 340282366920938463463374607431768211456 - (d0 * Q1 / 18446744073709551616 * 18446744073709551616 + d0 * Q1 % 18446744073709551616)) % 340282366920938463463374607431768211456)
    (eR0 : R0 = (R1 / 18446744073709551616 * 18446744073709551616 + R1 % 18446744073709551616 + 340282366920938463463374607431768211456 - (d1 * 18446744073709551616 + d0)) % 340282366920938463463374607431768211456) :
    (R0 / 18446744073709551616 < q0 → (R0 < D → X = (Q1 + 1) * D + R0) ∧ (D ≤ R0 → X = (Q1 + 2) * D + (R0 - D) ∧ R0 - D < D)) ∧
    (q0 ≤ R0 / 18446744073709551616 → ((R0 + D) % 340282366920938463463374607431768211456 < D → X = Q1 * D + (R0 + D) % 340282366920938463463374607431768211456) ∧
      (D ≤ (R0 + D) % 340282366920938463463374607431768211456 → X = (Q1 + 1) * D + ((R0 + D) % 340282366920938463463374607431768211456 - D) ∧ (R0 + D) % 340282366920938463463374607431768211456 - D < D)) := by
  have hDt : D < 340282366920938463463374607431768211456 := by omega
  have hD2 : 170141183460469231731687303715884105728 ≤ D := by omega
  have hX : X < D * 18446744073709551616 := by
    rw [hXe]
    exact div3_lt h0 c2
  have hu : d0 * Q1 < 340282366920938463463374607431768211456 := by
    have := Nat.mul_lt_mul'' hd0 hQ1
    clear hsum hk4 eR1 eR0
    omega
  have em : Q1 * D = Q1 * d1 * 18446744073709551616 + d0 * Q1 := by rw [hDe, Nat.mul_add, Nat.mul_assoc, Nat.mul_comm Q1 d0]
  rw [← hDe] at eR0
  have hj := div3_mod (a2 := a2) hDt rfl eR1 hu eR0
  rw [← em, ← hXe] at hj
  have hXi : (X : Int) = a2 * 18446744073709551616 * 18446744073709551616 + a1 * 18446744073709551616 + a0 := by rw [hXe]; simp; grind
  have hB2 : (18446744073709551616 : Int) * 18446744073709551616 = 340282366920938463463374607431768211456 := by decide
  obtain ⟨b1, b2, b3⟩ := mg3_bounds (B := 18446744073709551616) (v := v) (D := D) (k := k) (a2 := a2) (a1 := a1) (a0 := a0) (q1 := Q1) (q0 := q0) (r := X - (Q1 + 1) * (D : Int))
    (by have := congrArg (fun n : Nat => (n : Int)) hk4; simpa using this) (by have := congrArg (fun n : Nat => (n : Int)) hsum; simpa using this) (by rw [hXi]) (by omega) (by omega) (by rw [hB2]; omega) (by omega) (by decide) (by omega) (by omega) (by omega) (by omega) (by omega) (by omega) (by omega) (by omega) (by omega)
  have eP : ((Q1 : Int) + 1) * (D : Int) = ((Q1 * D + D : Nat) : Int) := by simp; grind
  rw [eP] at b1 b2 b3
  rw [hB2] at b2 b3
  exact div3_plain rfl hDt hD2 hX hQ0 hQ1 hR0 hj b1 b2 b3
theorem Div3_calls {a2 a1 a0 d1 d0 v : Nat} {h : H} {K : AV → H → Prop} (h2 : a2 < 18446744073709551616) (h1 : a1 < 18446744073709551616) (h0 : a0 < 18446744073709551616) (hd1 : d1 < 18446744073709551616) (hd0 : d0 < 18446744073709551616)
    (hk1 : d1 < 9223372036854775808 ∨ d1 * 18446744073709551616 + d0 ≤ a2 * 18446744073709551616 + a1 → K (.tup [.int .u64 0, .int .u64 0, .int .u64 0, .bool false]) h)
    (hI : 9223372036854775808 ≤ d1 → a2 * 18446744073709551616 + a1 < d1 * 18446744073709551616 + d0 → IsInv2 d1 d0 v)
    (hk2 : 9223372036854775808 ≤ d1 → a2 * 18446744073709551616 + a1 < d1 * 18446744073709551616 + d0 → ∀ q r, q < 18446744073709551616 → r < d1 * 18446744073709551616 + d0 → (a2 * 18446744073709551616 + a1) * 18446744073709551616 + a0 = q * (d1 * 18446744073709551616 + d0) + r → K (.tup [.int .u64 (q : Nat), .int .u64 (r / 18446744073709551616 : Nat), .int .u64 (r % 18446744073709551616 : Nat), .bool true]) h) :
    ACalls Try.prog 56 [.int .u64 (a2 : Int), .int .u64 (a1 : Int), .int .u64 (a0 : Int), .int .u64 (d1 : Int), .int .u64 (d0 : Int), .int .u64 (v : Int)] h K := by
  refine in_word_Div3 (by simp) fun hw => ?_
  unfold c_word_Div3
  rcases Nat.lt_or_ge d1 9223372036854775808 with c1 | c1
  · have t1 : decide ((d1 : Int) < 9223372036854775808) = true := by simp; omega
    simp only [go_sem, ↓reduceIte, Nat.reduceEqDiff, Nat.reduceAdd, Bool.false_eq_true, Int.reduceToNat, t1]
    exact fun _ => hk1 (.inl c1)
  have t1 : decide ((d1 : Int) < 9223372036854775808) = false := by simp; omega
  simp only [go_sem, ↓reduceIte, Nat.reduceEqDiff, Nat.reduceAdd, Bool.false_eq_true, Int.reduceToNat, t1]
  refine below_calls h1 hd0 fun t ht => ?_
  rcases Nat.lt_or_ge (a2 * 18446744073709551616 + a1) (d1 * 18446744073709551616 + d0) with c2 | c2
  case inr =>
    have : t = false := by rw [ht]; simp; omega
    subst this
    simp only [go_sem, ↓reduceIte, Nat.reduceEqDiff, Nat.reduceAdd, Bool.false_eq_true, Int.reduceToNat, Bool.not_false]
    exact fun _ => hk1 (.inr c2)
  have : t = true := by rw [ht]; simp; omega
  subst this
  clear ht hk1
  obtain ⟨hv, k, hk0, hk3, hk4⟩ := hI c1 c2
  have hk2 := hk2 c1 c2
  simp only [go_sem, ↓reduceIte, Nat.reduceEqDiff, Nat.reduceAdd, Bool.false_eq_true, Int.reduceToNat, Bool.not_true]
  refine Mul64_calls hv h2 ?_
  simp only [go_sem, ↓reduceIte, Nat.reduceEqDiff, Nat.reduceAdd, Bool.false_eq_true, Int.reduceToNat]
  refine Add64_calls (c := 0) (by omega) h1 (by omega) ?_
  simp only [go_sem, ↓reduceIte, Nat.reduceEqDiff, Nat.reduceAdd, Bool.false_eq_true, Int.reduceToNat]
  have hva : v * a2 / 18446744073709551616 < 18446744073709551616 := by
    have := Nat.mul_lt_mul'' hv h2
    omega
  refine Add64_calls hva h2 (by omega) ?_
  simp only [go_sem, ↓reduceIte, Nat.reduceEqDiff, Nat.reduceAdd, Bool.false_eq_true, Int.reduceToNat]
  -- the first digit
  have e1 : v * a2 = 18446744073709551616 * (v * a2 / 18446744073709551616) + v * a2 % 18446744073709551616 := (Nat.div_add_mod _ _).symm
  have e2 : v * a2 % 18446744073709551616 < 18446744073709551616 := Nat.mod_lt _ (by decide)
  have hsum : (18446744073709551616 + v) * a2 + a1 = (v * a2 / 18446744073709551616 + a2 + (v * a2 % 18446744073709551616 + a1 + 0) / 18446744073709551616) * 18446744073709551616 + (v * a2 % 18446744073709551616 + a1 + 0) % 18446744073709551616 := by
    rw [Nat.add_mul]
    generalize v * a2 = t at *
    omega
  have htop := div3_top (v := v) (a2 := a2) (a1 := a1) (D := d1 * 18446744073709551616 + d0) (by omega) c2
  have hQ1 : v * a2 / 18446744073709551616 + a2 + (v * a2 % 18446744073709551616 + a1 + 0) / 18446744073709551616 < 18446744073709551616 := by omega
  rw [Nat.mod_eq_of_lt hQ1]
  have hQ0 : (v * a2 % 18446744073709551616 + a1 + 0) % 18446744073709551616 < 18446744073709551616 := Nat.mod_lt _ (by decide)
  generalize v * a2 / 18446744073709551616 + a2 + (v * a2 % 18446744073709551616 + a1 + 0) / 18446744073709551616 = Q1 at *
  generalize (v * a2 % 18446744073709551616 + a1 + 0) % 18446744073709551616 = Q0 at *
  have w1 : IntKind.u64.wrap ((a1 : Int) - IntKind.u64.wrap ((Q1 : Int) * (d1 : Int))) = (((a1 + 18446744073709551616 - Q1 * d1 % 18446744073709551616) % 18446744073709551616 : Nat) : Int) := by
    rw [← Int.natCast_mul, wUm, wUm]
    generalize Q1 * d1 = t
    omega
  rw [w1]
  refine Mul64_calls hd0 hQ1 ?_
  simp only [go_sem, ↓reduceIte, Nat.reduceEqDiff, Nat.reduceAdd, Bool.false_eq_true, Int.reduceToNat]
  have hw1 : (a1 + 18446744073709551616 - Q1 * d1 % 18446744073709551616) % 18446744073709551616 < 18446744073709551616 := Nat.mod_lt _ (by decide)
  have ht : d0 * Q1 / 18446744073709551616 < 18446744073709551616 := by
    have := Nat.mul_lt_mul'' hd0 hQ1
    omega
  obtain ⟨R1, hR1, eR1, s1, s0⟩ := sub2 (x1 := (a1 + 18446744073709551616 - Q1 * d1 % 18446744073709551616) % 18446744073709551616) (x0 := a0) (y1 := d0 * Q1 / 18446744073709551616) (y0 := d0 * Q1 % 18446744073709551616) hw1 h0 ht (Nat.mod_lt _ (by decide))
  refine Sub64_calls (c := 0) (by omega) ?_
  simp only [go_sem, ↓reduceIte, Nat.reduceEqDiff, Nat.reduceAdd, Bool.false_eq_true, Int.reduceToNat]
  refine Sub64_calls ite01 ?_
  simp only [go_sem, ↓reduceIte, Nat.reduceEqDiff, Nat.reduceAdd, Bool.false_eq_true, Int.reduceToNat, s1, s0]
  obtain ⟨R0, hR0, eR0, s1, s0⟩ := sub2 (x1 := R1 / 18446744073709551616) (x0 := R1 % 18446744073709551616) (y1 := d1) (y0 := d0) (by omega) (by omega) hd1 hd0
  refine Sub64_calls (c := 0) (by omega) ?_
  simp only [go_sem, ↓reduceIte, Nat.reduceEqDiff, Nat.reduceAdd, Bool.false_eq_true, Int.reduceToNat]
  refine Sub64_calls ite01 ?_
  simp only [go_sem, ↓reduceIte, Nat.reduceEqDiff, Nat.reduceAdd, Bool.false_eq_true, Int.reduceToNat, s1, s0]
  have hX := div3_lt h0 c2
  obtain ⟨p1, p2⟩ := div3_law rfl rfl h2 h1 h0 hd1 hd0 c1 c2 hk3 hk4 hQ1 hQ0 hsum hR0 eR1 eR0
  clear eR0 eR1 s1 s0 hsum htop e1 e2 w1 hI hk4
  obtain ⟨X, hXe⟩ : ∃ X, X = (a2 * 18446744073709551616 + a1) * 18446744073709551616 + a0 := ⟨_, rfl⟩
  rw [← hXe] at hX p1 p2 hk2
  clear hXe
  have fin : ∀ q r : Nat, X = q * (d1 * 18446744073709551616 + d0) + r → r < d1 * 18446744073709551616 + d0 → K (AV.tup [AV.int IntKind.u64 ((q % 18446744073709551616 : Nat) : Int), AV.int IntKind.u64 ((r / 18446744073709551616 : Nat) : Int), AV.int IntKind.u64 ((r % 18446744073709551616 : Nat) : Int), AV.bool true]) h := fun q r e hr => by
    have hq := quot_lt hX e
    rw [Nat.mod_eq_of_lt hq]
    exact hk2 q r hq hr e
  have wq1 : IntKind.u64.wrap ((Q1 : Int) + 1) = (((Q1 + 1) % 18446744073709551616 : Nat) : Int) := by rw [wUm]; omega
  have wq0 : IntKind.u64.wrap ((((Q1 + 1) % 18446744073709551616 : Nat) : Int) - 1) = ((Q1 % 18446744073709551616 : Nat) : Int) := by rw [wUm]; omega
  rw [wq1]
  refine cond_cut (fun ρ' h' => h' = h ∧ ρ' 3 = .int .u64 (d1 : Int) ∧ ρ' 4 = .int .u64 (d0 : Int) ∧ ∃ q R : Nat, ρ' 16 = .int .u64 ((q % 18446744073709551616 : Nat) : Int) ∧ ρ' 13 = .int .u64 (R / 18446744073709551616 : Nat) ∧ ρ' 14 = .int .u64 (R % 18446744073709551616 : Nat) ∧ R < 340282366920938463463374607431768211456 ∧ (R < d1 * 18446744073709551616 + d0 → X = q * (d1 * 18446744073709551616 + d0) + R) ∧ (d1 * 18446744073709551616 + d0 ≤ R → X = (q + 1) * (d1 * 18446744073709551616 + d0) + (R - (d1 * 18446744073709551616 + d0)) ∧ R - (d1 * 18446744073709551616 + d0) < d1 * 18446744073709551616 + d0)) ?_ ?_
  · rcases Nat.lt_or_ge (R0 / 18446744073709551616) Q0 with c3 | c3
    · have t2 : decide (((Q0 : Nat) : Int) ≤ ((R0 / 18446744073709551616 : Nat) : Int)) = false := by simp; omega
      simp only [go_sem, ↓reduceIte, Nat.reduceEqDiff, Nat.reduceAdd, Bool.false_eq_true, Int.reduceToNat, t2]
      exact ⟨trivial, trivial, trivial, Q1 + 1, R0, rfl, rfl, rfl, hR0, (p1 c3).1, (p1 c3).2⟩
    · have t2 : decide (((Q0 : Nat) : Int) ≤ ((R0 / 18446744073709551616 : Nat) : Int)) = true := by simp; omega
      simp only [go_sem, ↓reduceIte, Nat.reduceEqDiff, Nat.reduceAdd, Bool.false_eq_true, Int.reduceToNat, t2, wq0]
      obtain ⟨R2, hR2, eR2, s1, s0⟩ := add2 (x1 := R0 / 18446744073709551616) (x0 := R0 % 18446744073709551616) (y1 := d1) (y0 := d0) (by omega) (by omega) hd1 hd0
      refine Add64_calls (c := 0) (by omega) hd0 (by omega) ?_
      simp only [go_sem, ↓reduceIte, Nat.reduceEqDiff, Nat.reduceAdd, Bool.false_eq_true, Int.reduceToNat]
      refine Add64_calls (by omega) hd1 (by omega) ?_
      simp only [go_sem, ↓reduceIte, Nat.reduceEqDiff, Nat.reduceAdd, Bool.false_eq_true, Int.reduceToNat, s1, s0]
      have e3 : (R0 + (d1 * 18446744073709551616 + d0)) % 340282366920938463463374607431768211456 = R2 := mod_congr eR2 (by omega)
      rw [e3] at p2
      exact ⟨trivial, trivial, trivial, Q1, R2, rfl, rfl, rfl, hR2, (p2 c3).1, (p2 c3).2⟩
  · rintro ρ h' ⟨rfl, h3, h4, q, R, h16, h13, h14, hR, f1, f2⟩
    simp only [go_sem, ↓reduceIte, Nat.reduceEqDiff, Nat.reduceAdd, Bool.false_eq_true, Int.reduceToNat, h3, h4, h13, h14]
    refine below_calls (by omega) hd0 fun t ht => ?_
    rcases Nat.lt_or_ge R (d1 * 18446744073709551616 + d0) with c3 | c3
    · have : t = true := by rw [ht]; exact below_t c3
      subst this
      simp only [go_sem, ↓reduceIte, Nat.reduceEqDiff, Nat.reduceAdd, Bool.false_eq_true, Int.reduceToNat, Bool.not_true, h13, h14, h16]
      exact fun _ => fin q R (f1 c3) c3
    · have : t = false := by rw [ht]; exact below_f c3
      subst this
      have wq : IntKind.u64.wrap (((q % 18446744073709551616 : Nat) : Int) + 1) = (((q + 1) % 18446744073709551616 : Nat) : Int) := by rw [wUm]; omega
      simp only [go_sem, ↓reduceIte, Nat.reduceEqDiff, Nat.reduceAdd, Bool.false_eq_true, Int.reduceToNat, Bool.not_false, h3, h4, h13, h14, h16, wq]
      obtain ⟨R2, hR2, eR2, s1, s0⟩ := sub2 (x1 := R / 18446744073709551616) (x0 := R % 18446744073709551616) (y1 := d1) (y0 := d0) (by omega) (by omega) hd1 hd0
      refine Sub64_calls (c := 0) (by omega) ?_
      simp only [go_sem, ↓reduceIte, Nat.reduceEqDiff, Nat.reduceAdd, Bool.false_eq_true, Int.reduceToNat, h3, h4, h13, h14, h16]
      refine Sub64_calls ite01 ?_
      simp only [go_sem, ↓reduceIte, Nat.reduceEqDiff, Nat.reduceAdd, Bool.false_eq_true, Int.reduceToNat, h3, h4, h13, h14, h16, s1, s0]
      intro _
      have e3 : R2 = R - (d1 * 18446744073709551616 + d0) := by omega
      rw [e3]
      exact fin (q + 1) _ (f2 c3).1 (f2 c3).2
end Ab
end Go.Proofs.Yteoagnggnekfiaa
