/- Two words over one: the walk. No condition. -/
import Derived.Test.YteoagnggnekfiaaF3
namespace Go.Proofs.Yteoagnggnekfiaa
namespace Ab
open Go Go.RowKit
set_option linter.unusedSimpArgs false
set_option linter.unusedVariables false
attribute [local go_sem ↓] x_mv x_pick x_bin x_beq x_peq x_seq x_cat x_aeq x_idxS x_un x_cvI x_idx x_idxA x_fld x_ld x_st x_nn x_prt x_slc x_mk x_bsl x_bld x_box x_alloc x_len x_capo x_mnx x_app x_cpy x_mkf x_ext x_call x_callV x_bad s_none s_some s_nil s_cons s_chks w_skip w_reg w_seq w_cond w_block w_exit w_ret t_normal t_exit t_ret b_normal b_ret b_exit n_normal n_exit n_ret p_normal p_ret f_nil f_t f_c k_ops k_chk k_fin
attribute [local go_sem] e_t e_c e_f u_some u_none u_at env_at k_v k_pick k_add k_sub k_mul k_quo k_rem k_and k_or k_xor k_shl k_shr k_eql k_neq k_lss k_leq k_gtr k_geq k_beq k_peqn k_peqs k_neg k_not k_com k_cvI k_idxS k_idx k_idxA k_idxG k_ldG k_gld k_seq k_cat k_aeq k_eqs k_fld k_ld1 k_ldn k_get k_gets k_sti k_stb k_stp k_sts k_stf k_sta k_put k_nn k_prt1 k_prtn k_slc_a k_slc_b k_slc_c k_mk k_agg k_bsl k_box k_len k_lenS k_cap k_max k_min k_ext k_callV k_true k_false k_gtt k_gtf k_gft k_gsk k_gff k_lit1i k_lit2i k_lit3i k_c0 k_c1 k_ck List.getElem?_cons_zero List.getElem?_cons_succ List.getElem?_nil Option.getD_some Option.getD_none tupOf List.map_cons List.map_nil Option.map_some Option.map_none List.nil_append List.cons_append List.append_nil Nat.mul_one Int.toNat_natCast Nat.zero_add
theorem shlU {x n : Nat} (hn : n ≤ 64) : bShl .u64 (x : Int) n = ((x * 2 ^ n % 18446744073709551616 : Nat) : Int) := by
  unfold bShl
  rw [show IntKind.u64.bits = 64 from rfl, Nat.min_eq_left hn, wUm]
  have : ((x : Int) * 2 ^ n) = ((x * 2 ^ n : Nat) : Int) := by simp
  rw [this]
  omega
theorem orU {a b s : Nat} (ha : a * 2 ^ s < 18446744073709551616) (hb : b < 2 ^ s) (hs : s ≤ 64) : bOr .u64 ((a * 2 ^ s : Nat) : Int) (b : Int) = ((a * 2 ^ s + b : Nat) : Int) := by
  have h2 : b < 18446744073709551616 := Nat.lt_of_lt_of_le hb (Nat.pow_le_pow_right (by decide) hs : 2 ^ s ≤ 2 ^ 64)
  have := borN ha h2
  rw [← Nat.shiftLeft_eq, ← Nat.shiftLeft_add_eq_or_of_lt hb] at this
  rw [← Nat.shiftLeft_eq]
  exact this
theorem mulL {a : Nat} (h : 4294967296 * a < 18446744073709551616) : IntKind.u64.wrap (4294967296 * (a : Int)) = ((4294967296 * a : Nat) : Int) := by rw [wU] <;> omega
theorem mulR {a : Nat} : IntKind.u64.wrap ((a : Int) * 4294967296) = ((a * 4294967296 % 18446744073709551616 : Nat) : Int) := by rw [wUm]; omega
theorem shift_split {hi lo y s : Nat} (hh : hi < y) (hl : lo < 18446744073709551616) (hs : s ≤ 63) (hY : y * 2 ^ s < 18446744073709551616) :
    hi * 2 ^ s < 18446744073709551616 ∧ lo / 2 ^ (64 - s) < 2 ^ s ∧ (hi * 2 ^ s + lo / 2 ^ (64 - s)) * 18446744073709551616 + lo * 2 ^ s % 18446744073709551616 = (hi * 18446744073709551616 + lo) * 2 ^ s ∧ hi * 2 ^ s + lo / 2 ^ (64 - s) < y * 2 ^ s := by
  have hp : 0 < 2 ^ s := Nat.pow_pos (by decide)
  have e64 : 2 ^ (64 - s) * 2 ^ s = 18446744073709551616 := by rw [← Nat.pow_add, show 64 - s + s = 64 from by omega]
  have h2 : lo / 2 ^ (64 - s) < 2 ^ s := by
    rw [Nat.div_lt_iff_lt_mul (Nat.pow_pos (by decide)), Nat.mul_comm, e64]
    exact hl
  have h1 : hi * 2 ^ s + 2 ^ s ≤ y * 2 ^ s := by
    have := Nat.mul_le_mul_right (2 ^ s) (show hi + 1 ≤ y from hh)
    rw [Nat.add_mul, Nat.one_mul] at this
    exact this
  have h3 : lo * 2 ^ s / 18446744073709551616 = lo / 2 ^ (64 - s) := by rw [← e64, Nat.mul_div_mul_right _ _ hp]
  refine ⟨by omega, h2, ?_, by omega⟩
  rw [← h3]
  have e5 : (hi * 18446744073709551616 + lo) * 2 ^ s = hi * 2 ^ s * 18446744073709551616 + lo * 2 ^ s := by rw [Nat.add_mul, Nat.mul_assoc, Nat.mul_comm 18446744073709551616, ← Nat.mul_assoc]
  rw [e5]
  generalize lo * 2 ^ s = t
  generalize hi * 2 ^ s = t2
  omega
theorem sub_back {U Y c Q : Nat} (hY : 0 < Y) (hY2 : Y < 18446744073709551616) (hQ : Q = (U * 4294967296 + c) / Y) (hc : c < 4294967296) :
    IntKind.u64.wrap (IntKind.u64.wrap (IntKind.u64.wrap ((U : Int) * 4294967296) + (c : Int)) - IntKind.u64.wrap ((Q : Int) * (Y : Int))) = (((U * 4294967296 + c) % Y : Nat) : Int) := by
  have e1 : U * 4294967296 + c = Q * Y + (U * 4294967296 + c) % Y := by rw [hQ, Nat.div_add_mod']
  have hlt : (U * 4294967296 + c) % Y < Y := Nat.mod_lt _ hY
  simp only [wUm]
  rw [← Int.natCast_mul]
  revert e1 hlt
  generalize (U * 4294967296 + c) % Y = R
  generalize Q * Y = t
  intro e1 hlt
  omega
theorem remU {U a : Nat} (hU : U < 18446744073709551616) : IntKind.u64.wrap ((U : Int) - IntKind.u64.wrap (((U / a : Nat) : Int) * (a : Int))) = ((U % a : Nat) : Int) := by
  have h1 := Nat.div_add_mod' U a
  have h2 : U / a * a ≤ U := Nat.div_mul_le_self U a
  rw [mulU (by omega), wU (by omega) (by omega)]
  omega
theorem subN {a b : Nat} (h : b ≤ a) (ha : a < 18446744073709551616) : IntKind.u64.wrap ((a : Int) - (b : Int)) = ((a - b : Nat) : Int) := by rw [wU] <;> omega
theorem subN1 {a : Nat} (h : 1 ≤ a) (ha : a < 18446744073709551616) : IntKind.u64.wrap ((a : Int) - 1) = ((a - 1 : Nat) : Int) := subN (b := 1) h ha
theorem Div64_calls {hi lo y : Nat} {h : H} {K : AV → H → Prop} (hh : hi < y) (hl : lo < 18446744073709551616) (hy : y < 18446744073709551616)
    (hk : K (.tup [.int .u64 ((hi * 18446744073709551616 + lo) / y : Nat), .int .u64 ((hi * 18446744073709551616 + lo) % y : Nat)]) h) : ACalls Try.prog 68 [.int .u64 (hi : Int), .int .u64 (lo : Int), .int .u64 (y : Int)] h K := by
  refine in_bits_Div64 (by simp) fun hw => ?_
  unfold c_bits_Div64
  have d1 : ((y : Int) == 0) = false := by simp; omega
  have d2 : decide ((y : Int) ≤ (hi : Int)) = false := by simp; omega
  rcases Nat.eq_zero_or_pos hi with rfl | hp
  · have d3 : (((0 : Nat) : Int) == 0) = true := by decide
    have hq : lo / y ≤ lo := Nat.div_le_self _ _
    simp only [go_sem, ↓reduceIte, Nat.reduceEqDiff, Nat.reduceAdd, Bool.false_eq_true, Int.reduceToNat, d1, d2, d3, tdivN, tmodN, wUn (x := lo / y) (by omega)]
    rw [Nat.zero_mul, Nat.zero_add] at hk
    exact ⟨by omega, by omega, fun _ => hk⟩
  · have d3 : ((hi : Int) == 0) = false := by simp; omega
    simp only [go_sem, ↓reduceIte, Nat.reduceEqDiff, Nat.reduceAdd, Bool.false_eq_true, Int.reduceToNat, d1, d2, d3]
    refine LeadingZeros64_calls hy (by omega) fun s hs h63 h64 => ?_
    have e64 : IntKind.u64.wrap (64 - (s : Int)) = ((64 - s : Nat) : Int) := by rw [wU] <;> omega
    obtain ⟨f1, f2, f3, f4⟩ := shift_split hh hl hs h64
    have hN : (hi * 18446744073709551616 + lo) / y = (hi * 18446744073709551616 + lo) * 2 ^ s / (y * 2 ^ s) := (Nat.mul_div_mul_right _ _ (Nat.pow_pos (by decide))).symm
    have hM : (hi * 18446744073709551616 + lo) % y = (hi * 18446744073709551616 + lo) * 2 ^ s % (y * 2 ^ s) / 2 ^ s := by rw [Nat.mul_mod_mul_right, Nat.mul_div_cancel _ (Nat.pow_pos (by decide))]
    rw [hN, hM, ← f3] at hk
    have s1 := shlU (x := y) (n := s) (by omega)
    have s2 := shlU (x := hi) (n := s) (by omega)
    have s3 := shrU (x := lo) (n := 64 - s) (by omega)
    have s4 := shlU (x := lo) (n := s) (by omega)
    rw [Nat.mod_eq_of_lt h64] at s1
    rw [Nat.mod_eq_of_lt f1] at s2
    have s5 := orU (b := lo / 2 ^ (64 - s)) f1 f2 (by omega)
    have k1 := mask32 (x := y * 2 ^ s) h64
    have k2 := mask32 (x := lo * 2 ^ s % 18446744073709551616) (Nat.mod_lt _ (by decide))
    have hUb : hi * 2 ^ s + lo / 2 ^ (64 - s) < 18446744073709551616 := by omega
    have hya : 0 < y * 2 ^ s / 4294967296 := by omega
    simp only [go_sem, ↓reduceIte, Nat.reduceEqDiff, Nat.reduceAdd, Bool.false_eq_true, Int.reduceToNat, wUn (x := s) (by omega), e64, s1, s2, s3, s4, s5, shr32, k1, k2, tdivN, wUn (Nat.lt_of_le_of_lt (Nat.div_le_self (hi * 2 ^ s + lo / 2 ^ (64 - s)) _) hUb), remU hUb]
    have hm : lo * 2 ^ s % 18446744073709551616 < 18446744073709551616 := Nat.mod_lt _ (by decide)
    have hsh : ∀ x : Nat, bShr .u64 (x : Int) s = ((x / 2 ^ s : Nat) : Int) := fun x => shrU (by omega)
    clear hN hM f3 f1 f2 s1 s2 s3 s4 s5 k1 k2
    generalize lo * 2 ^ s % 18446744073709551616 = un at *
    generalize hi * 2 ^ s + lo / 2 ^ (64 - s) = U at *
    generalize y * 2 ^ s = Y at *
    refine ⟨by omega, by omega, by omega, by omega, by omega, by omega, by omega, ?_⟩
    have hY : Y = Y / 4294967296 * 4294967296 + Y % 4294967296 := by omega
    have hun : un = un / 4294967296 * 4294967296 + un % 4294967296 := by omega
    have ha : Y / 4294967296 < 4294967296 := by omega
    have ha2 : 2147483648 ≤ Y / 4294967296 := by omega
    have hb : Y % 4294967296 < 4294967296 := by omega
    have hc1 : un / 4294967296 < 4294967296 := by omega
    have hc0 : un % 4294967296 < 4294967296 := by omega
    generalize Y / 4294967296 = a at *
    generalize Y % 4294967296 = b at *
    generalize un / 4294967296 = c1 at *
    generalize un % 4294967296 = c0 at *
    obtain ⟨Q1, hQ1⟩ : ∃ Q1, Q1 = (U * 4294967296 + c1) / Y := ⟨_, rfl⟩
    obtain ⟨R, hR⟩ : ∃ R, R = (U * 4294967296 + c1) % Y := ⟨_, rfl⟩
    obtain ⟨Q0, hQ0⟩ : ∃ Q0, Q0 = (R * 4294967296 + c0) / Y := ⟨_, rfl⟩
    obtain ⟨t1, t2⟩ := two_digits hQ1 hR hQ0 (by omega)
    rw [← hun] at t1 t2
    rw [t1, t2] at hk
    have hRl : R < Y := by rw [hR]; exact Nat.mod_lt _ (by omega)
    have hQl : Q1 < 4294967296 := by rw [hQ1]; exact dig_full f4 hc1
    have hQl0 : Q0 < 4294967296 := by rw [hQ0]; exact dig_full hRl hc0
    clear t1 t2 hun
    refine loop_cut (fun ρ' h' => h' = h ∧ ρ' 2 = .int .u64 ((Y : Nat) : Int) ∧ ρ' 8 = .int .u64 ((s : Nat) : Int) ∧ ρ' 9 = .int .u64 ((a : Nat) : Int) ∧ ρ' 10 = .int .u64 ((b : Nat) : Int) ∧ ρ' 11 = .int .u64 ((U : Nat) : Int) ∧ ρ' 13 = .int .u64 ((c1 : Nat) : Int) ∧ ρ' 14 = .int .u64 ((c0 : Nat) : Int) ∧ ρ' 15 = .int .u64 (Q1 : Int)) ?_ ?_
    · refine ⟨fun n ρ h' => h' = h ∧ ρ 2 = .int .u64 ((Y : Nat) : Int) ∧ ρ 8 = .int .u64 ((s : Nat) : Int) ∧ ρ 9 = .int .u64 ((a : Nat) : Int) ∧ ρ 10 = .int .u64 ((b : Nat) : Int) ∧ ρ 11 = .int .u64 ((U : Nat) : Int) ∧ ρ 13 = .int .u64 ((c1 : Nat) : Int) ∧ ρ 14 = .int .u64 ((c0 : Nat) : Int) ∧ ∃ q r, n = q ∧ ρ 15 = .int .u64 (q : Nat) ∧ ρ 16 = .int .u64 (r : Nat) ∧ Srch U Y a b c1 Q1 q r, _, ⟨rfl, by first | rfl | trivial | assumption, by first | rfl | trivial | assumption, by first | rfl | trivial | assumption, by first | rfl | trivial | assumption, by first | rfl | trivial | assumption, by first | rfl | trivial | assumption, by first | rfl | trivial | assumption, _, _, rfl, by first | rfl | trivial | assumption, by first | rfl | trivial | assumption, Srch.start hQ1 hY f4 ha ha2 hb hc1⟩, ?_⟩
      rintro n ρ h' ⟨rfl, g2, g8, g9, g10, g11, g13, g14, q, r, rfl, hq, h16, hs⟩
      have hr := hs.hr
      have hc := hs.hc
      have hq1 := hs.hq1
      have wr : 4294967296 * r + c1 < 18446744073709551616 := by omega
      have again : Q1 < n → decide ((4294967296 : Int) ≤ ((r + a : Nat) : Int)) = false → Srch U Y a b c1 Q1 (n - 1) (r + a) := fun h1 h2 => hs.next h1 (by simp at h2; omega)
      have stop : Q1 < n → decide ((4294967296 : Int) ≤ ((r + a : Nat) : Int)) = true → n - 1 = Q1 := fun h1 h2 => hs.out h1 (by simp at h2; omega)
      rcases Nat.lt_or_ge n 4294967296 with i1 | i1
      · have d1 : decide ((4294967296 : Int) ≤ (n : Int)) = false := by simp; omega
        have hqb : n * b < 18446744073709551616 := by
          have h3 : n * b ≤ 4294967295 * 4294967295 := Nat.mul_le_mul (by omega) (by omega)
          omega
        rcases Nat.lt_or_ge (4294967296 * r + c1) (n * b) with c2 | c2
        · have d2 := ltT c2
          have hlt := hs.lt (.inr c2)
          have hn1 : 0 < n := Nat.lt_of_le_of_lt (Nat.zero_le _) hlt
          simp only [go_sem, ↓reduceIte, Nat.reduceEqDiff, Nat.reduceAdd, Bool.false_eq_true, Int.reduceToNat, hq, h16, g2, g8, g9, g10, g11, g13, g14, d1, mulU hqb, mulL (a := r) (by omega), addU wr, d2, subN1 (a := n) (by omega) (by omega), addU (a := r) (b := a) (by omega)]
          refine cond_split (fun c3 => ?_) (fun c3 => ?_)
          · simp only [go_sem, ↓reduceIte, Nat.reduceEqDiff, Nat.reduceAdd, Bool.false_eq_true, Int.reduceToNat, g2, g8, g9, g10, g11, g13, g14]
            rw [stop hlt c3]
            exact ⟨by first | rfl | trivial | assumption, by first | rfl | trivial | assumption, by first | rfl | trivial | assumption, by first | rfl | trivial | assumption, by first | rfl | trivial | assumption, by first | rfl | trivial | assumption, by first | rfl | trivial | assumption, by first | rfl | trivial | assumption, by first | rfl | trivial | assumption⟩
          · simp only [go_sem, ↓reduceIte, Nat.reduceEqDiff, Nat.reduceAdd, Bool.false_eq_true, Int.reduceToNat, g2, g8, g9, g10, g11, g13, g14]
            exact ⟨n - 1, by omega, by first | rfl | trivial | assumption, by first | rfl | trivial | assumption, by first | rfl | trivial | assumption, by first | rfl | trivial | assumption, by first | rfl | trivial | assumption, by first | rfl | trivial | assumption, by first | rfl | trivial | assumption, by first | rfl | trivial | assumption, _, _, rfl, rfl, rfl, again hlt c3⟩
        · have d2 := ltF c2
          simp only [go_sem, ↓reduceIte, Nat.reduceEqDiff, Nat.reduceAdd, Bool.false_eq_true, Int.reduceToNat, hq, h16, g2, g8, g9, g10, g11, g13, g14, d1, mulU hqb, mulL (a := r) (by omega), addU wr, d2]
          rw [hs.done c2]
          exact ⟨by first | rfl | trivial | assumption, by first | rfl | trivial | assumption, by first | rfl | trivial | assumption, by first | rfl | trivial | assumption, by first | rfl | trivial | assumption, by first | rfl | trivial | assumption, by first | rfl | trivial | assumption, by first | rfl | trivial | assumption, by first | rfl | trivial | assumption⟩
      · have d1 : decide ((4294967296 : Int) ≤ (n : Int)) = true := by simp; omega
        have hlt := hs.lt (.inl i1)
        have hn1 : 0 < n := Nat.lt_of_le_of_lt (Nat.zero_le _) hlt
        simp only [go_sem, ↓reduceIte, Nat.reduceEqDiff, Nat.reduceAdd, Bool.false_eq_true, Int.reduceToNat, hq, h16, g2, g8, g9, g10, g11, g13, g14, d1, subN1 (a := n) (by omega) (by omega), addU (a := r) (b := a) (by omega)]
        refine cond_split (fun c3 => ?_) (fun c3 => ?_)
        · simp only [go_sem, ↓reduceIte, Nat.reduceEqDiff, Nat.reduceAdd, Bool.false_eq_true, Int.reduceToNat, g2, g8, g9, g10, g11, g13, g14]
          rw [stop hlt c3]
          exact ⟨by first | rfl | trivial | assumption, by first | rfl | trivial | assumption, by first | rfl | trivial | assumption, by first | rfl | trivial | assumption, by first | rfl | trivial | assumption, by first | rfl | trivial | assumption, by first | rfl | trivial | assumption, by first | rfl | trivial | assumption, by first | rfl | trivial | assumption⟩
        · simp only [go_sem, ↓reduceIte, Nat.reduceEqDiff, Nat.reduceAdd, Bool.false_eq_true, Int.reduceToNat, g2, g8, g9, g10, g11, g13, g14]
          exact ⟨n - 1, by omega, by first | rfl | trivial | assumption, by first | rfl | trivial | assumption, by first | rfl | trivial | assumption, by first | rfl | trivial | assumption, by first | rfl | trivial | assumption, by first | rfl | trivial | assumption, by first | rfl | trivial | assumption, by first | rfl | trivial | assumption, _, _, rfl, rfl, rfl, again hlt c3⟩
    · rintro ρ h1 ⟨rfl, g2, g8, g9, g10, g11, g13, g14, g15⟩
      have hb1 := sub_back (U := U) (c := c1) (by omega) h64 hQ1 hc1
      rw [← hR] at hb1
      have hRb : R < 18446744073709551616 := by omega
      simp only [go_sem, ↓reduceIte, Nat.reduceEqDiff, Nat.reduceAdd, Bool.false_eq_true, Int.reduceToNat, g2, g8, g9, g10, g11, g13, g14, g15, hb1, tdivN, wUn (Nat.lt_of_le_of_lt (Nat.div_le_self R a) hRb), remU hRb]
      refine ⟨by omega, ?_⟩
      refine loop_cut (fun ρ' h' => h' = h1 ∧ ρ' 2 = .int .u64 ((Y : Nat) : Int) ∧ ρ' 8 = .int .u64 ((s : Nat) : Int) ∧ ρ' 9 = .int .u64 ((a : Nat) : Int) ∧ ρ' 10 = .int .u64 ((b : Nat) : Int) ∧ ρ' 14 = .int .u64 ((c0 : Nat) : Int) ∧ ρ' 15 = .int .u64 ((Q1 : Nat) : Int) ∧ ρ' 17 = .int .u64 ((R : Nat) : Int) ∧ ρ' 18 = .int .u64 (Q0 : Int)) ?_ ?_
      · refine ⟨fun n ρ h' => h' = h1 ∧ ρ 2 = .int .u64 ((Y : Nat) : Int) ∧ ρ 8 = .int .u64 ((s : Nat) : Int) ∧ ρ 9 = .int .u64 ((a : Nat) : Int) ∧ ρ 10 = .int .u64 ((b : Nat) : Int) ∧ ρ 14 = .int .u64 ((c0 : Nat) : Int) ∧ ρ 15 = .int .u64 ((Q1 : Nat) : Int) ∧ ρ 17 = .int .u64 ((R : Nat) : Int) ∧ ∃ q r, n = q ∧ ρ 18 = .int .u64 (q : Nat) ∧ ρ 16 = .int .u64 (r : Nat) ∧ Srch R Y a b c0 Q0 q r, _, ⟨rfl, by first | rfl | trivial | assumption, by first | rfl | trivial | assumption, by first | rfl | trivial | assumption, by first | rfl | trivial | assumption, by first | rfl | trivial | assumption, by first | rfl | trivial | assumption, by first | rfl | trivial | assumption, _, _, rfl, by first | rfl | trivial | assumption, by first | rfl | trivial | assumption, Srch.start hQ0 hY hRl ha ha2 hb hc0⟩, ?_⟩
        rintro n ρ h' ⟨rfl, g2, g8, g9, g10, g14, g15, g17, q, r, rfl, hq, h16, hs⟩
        have hr := hs.hr
        have hc := hs.hc
        have hq1 := hs.hq1
        have wr : 4294967296 * r + c0 < 18446744073709551616 := by omega
        have again : Q0 < n → decide ((4294967296 : Int) ≤ ((r + a : Nat) : Int)) = false → Srch R Y a b c0 Q0 (n - 1) (r + a) := fun h1 h2 => hs.next h1 (by simp at h2; omega)
        have stop : Q0 < n → decide ((4294967296 : Int) ≤ ((r + a : Nat) : Int)) = true → n - 1 = Q0 := fun h1 h2 => hs.out h1 (by simp at h2; omega)
        rcases Nat.lt_or_ge n 4294967296 with i1 | i1
        · have d1 : decide ((4294967296 : Int) ≤ (n : Int)) = false := by simp; omega
          have hqb : n * b < 18446744073709551616 := by
            have h3 : n * b ≤ 4294967295 * 4294967295 := Nat.mul_le_mul (by omega) (by omega)
            omega
          rcases Nat.lt_or_ge (4294967296 * r + c0) (n * b) with c2 | c2
          · have d2 := ltT c2
            have hlt := hs.lt (.inr c2)
            have hn1 : 0 < n := Nat.lt_of_le_of_lt (Nat.zero_le _) hlt
            simp only [go_sem, ↓reduceIte, Nat.reduceEqDiff, Nat.reduceAdd, Bool.false_eq_true, Int.reduceToNat, hq, h16, g2, g8, g9, g10, g14, g15, g17, d1, mulU hqb, mulL (a := r) (by omega), addU wr, d2, subN1 (a := n) (by omega) (by omega), addU (a := r) (b := a) (by omega)]
            refine cond_split (fun c3 => ?_) (fun c3 => ?_)
            · simp only [go_sem, ↓reduceIte, Nat.reduceEqDiff, Nat.reduceAdd, Bool.false_eq_true, Int.reduceToNat, g2, g8, g9, g10, g14, g15, g17]
              rw [stop hlt c3]
              exact ⟨by first | rfl | trivial | assumption, by first | rfl | trivial | assumption, by first | rfl | trivial | assumption, by first | rfl | trivial | assumption, by first | rfl | trivial | assumption, by first | rfl | trivial | assumption, by first | rfl | trivial | assumption, by first | rfl | trivial | assumption, by first | rfl | trivial | assumption⟩
            · simp only [go_sem, ↓reduceIte, Nat.reduceEqDiff, Nat.reduceAdd, Bool.false_eq_true, Int.reduceToNat, g2, g8, g9, g10, g14, g15, g17]
              exact ⟨n - 1, by omega, by first | rfl | trivial | assumption, by first | rfl | trivial | assumption, by first | rfl | trivial | assumption, by first | rfl | trivial | assumption, by first | rfl | trivial | assumption, by first | rfl | trivial | assumption, by first | rfl | trivial | assumption, by first | rfl | trivial | assumption, _, _, rfl, rfl, rfl, again hlt c3⟩
          · have d2 := ltF c2
            simp only [go_sem, ↓reduceIte, Nat.reduceEqDiff, Nat.reduceAdd, Bool.false_eq_true, Int.reduceToNat, hq, h16, g2, g8, g9, g10, g14, g15, g17, d1, mulU hqb, mulL (a := r) (by omega), addU wr, d2]
            rw [hs.done c2]
            exact ⟨by first | rfl | trivial | assumption, by first | rfl | trivial | assumption, by first | rfl | trivial | assumption, by first | rfl | trivial | assumption, by first | rfl | trivial | assumption, by first | rfl | trivial | assumption, by first | rfl | trivial | assumption, by first | rfl | trivial | assumption, by first | rfl | trivial | assumption⟩
        · have d1 : decide ((4294967296 : Int) ≤ (n : Int)) = true := by simp; omega
          have hlt := hs.lt (.inl i1)
          have hn1 : 0 < n := Nat.lt_of_le_of_lt (Nat.zero_le _) hlt
          simp only [go_sem, ↓reduceIte, Nat.reduceEqDiff, Nat.reduceAdd, Bool.false_eq_true, Int.reduceToNat, hq, h16, g2, g8, g9, g10, g14, g15, g17, d1, subN1 (a := n) (by omega) (by omega), addU (a := r) (b := a) (by omega)]
          refine cond_split (fun c3 => ?_) (fun c3 => ?_)
          · simp only [go_sem, ↓reduceIte, Nat.reduceEqDiff, Nat.reduceAdd, Bool.false_eq_true, Int.reduceToNat, g2, g8, g9, g10, g14, g15, g17]
            rw [stop hlt c3]
            exact ⟨by first | rfl | trivial | assumption, by first | rfl | trivial | assumption, by first | rfl | trivial | assumption, by first | rfl | trivial | assumption, by first | rfl | trivial | assumption, by first | rfl | trivial | assumption, by first | rfl | trivial | assumption, by first | rfl | trivial | assumption, by first | rfl | trivial | assumption⟩
          · simp only [go_sem, ↓reduceIte, Nat.reduceEqDiff, Nat.reduceAdd, Bool.false_eq_true, Int.reduceToNat, g2, g8, g9, g10, g14, g15, g17]
            exact ⟨n - 1, by omega, by first | rfl | trivial | assumption, by first | rfl | trivial | assumption, by first | rfl | trivial | assumption, by first | rfl | trivial | assumption, by first | rfl | trivial | assumption, by first | rfl | trivial | assumption, by first | rfl | trivial | assumption, by first | rfl | trivial | assumption, _, _, rfl, rfl, rfl, again hlt c3⟩
      · rintro ρ h' ⟨rfl, g2, g8, g9, g10, g14, g15, g17, g18⟩
        have hb0 := sub_back (U := R) (c := c0) (by omega) h64 hQ0 hc0
        have e1 : IntKind.u64.wrap (IntKind.u64.wrap ((Q1 : Int) * 4294967296) + (Q0 : Int)) = ((Q1 * 4294967296 + Q0 : Nat) : Int) := by
          rw [wUm, wUm]
          omega
        simp only [go_sem, ↓reduceIte, Nat.reduceEqDiff, Nat.reduceAdd, Bool.false_eq_true, Int.reduceToNat, g2, g8, g9, g10, g14, g15, g17, g18, hb0, e1, hsh]
        exact ⟨by omega, fun _ => hk⟩
end Ab
end Go.Proofs.Yteoagnggnekfiaa
