/- The package word, and the examples of the document. No condition. -/
import Derived.Test.YteoagnggnekfiaaF4
import Derived.Test.YteoagnggnekfiaaC3
namespace Go.Proofs.Yteoagnggnekfiaa
namespace Ab
open Go Go.RowKit
set_option linter.unusedSimpArgs false
set_option linter.unusedVariables false
attribute [local go_sem ↓] x_mv x_pick x_bin x_beq x_peq x_idxS x_un x_cvI x_idx x_idxA x_fld x_ld x_st x_nn x_prt x_slc x_mk x_bsl x_bld x_box x_alloc x_len x_capo x_mnx x_app x_cpy x_mkf x_ext x_call x_callV x_bad s_none s_some s_nil s_cons s_chks w_skip w_reg w_seq w_cond w_block w_exit w_ret t_normal t_exit t_ret b_normal b_ret b_exit n_normal n_exit n_ret p_normal p_ret f_nil f_t f_c k_ops k_chk k_fin
attribute [local go_sem] e_t e_c e_f u_some u_none u_at env_at k_v k_pick k_add k_sub k_mul k_quo k_rem k_and k_or k_xor k_shl k_shr k_eql k_neq k_lss k_leq k_gtr k_geq k_beq k_peqn k_peqs k_neg k_not k_com k_cvI k_idxS k_idx k_idxA k_fld k_ld1 k_ldn k_get k_gets k_sti k_stb k_stp k_sts k_stf k_sta k_put k_nn k_prt1 k_prtn k_slc_a k_slc_b k_slc_c k_mk k_agg k_bsl k_box k_len k_lenS k_cap k_max k_min k_ext k_callV k_true k_false k_gtt k_gtf k_gft k_gsk k_gff k_lit1i k_lit2i k_lit3i k_c0 k_c1 k_ck List.getElem?_cons_zero List.getElem?_cons_succ List.getElem?_nil Option.getD_some Option.getD_none tupOf List.map_cons List.map_nil Option.map_some Option.map_none List.nil_append List.cons_append List.append_nil Nat.mul_one Int.toNat_natCast Nat.zero_add
theorem comU {x : Nat} (hx : x < 18446744073709551616) : bCom .u64 (x : Int) = ((18446744073709551615 - x : Nat) : Int) := by
  have e1 : (BitVec.ofInt 64 18446744073709551615 ^^^ BitVec.ofInt 64 (x : Int)).toNat = 18446744073709551615 - x := by
    rw [show BitVec.ofInt 64 18446744073709551615 = BitVec.allOnes 64 from by decide, BitVec.allOnes_xor, BitVec.toNat_not, BitVec.toNat_ofInt]
    show 18446744073709551615 - ((x : Int) % 18446744073709551616).toNat = _
    omega
  show IntKind.u64.wrap (((BitVec.ofInt 64 18446744073709551615 ^^^ BitVec.ofInt 64 (x : Int)).toNat : Nat) : Int) = _
  rw [e1]
  exact wUn (by omega)
theorem one_calls {c : Nat} {h : H} {K : AV → H → Prop} (hk : K (.int .u64 ((if c = 0 then 0 else 1 : Nat) : Int)) h) : ACalls Try.prog 71 [.int .u64 (c : Int)] h K := by
  refine in_word_one (by simp) fun hw => ?_
  unfold c_word_one
  simp only [go_sem, ↓reduceIte, Nat.reduceEqDiff, Nat.reduceAdd, Bool.false_eq_true, Int.reduceToNat]
  refine cond_split (fun hc => ?_) (fun hc => ?_)
  · simp only [go_sem, ↓reduceIte, Nat.reduceEqDiff, Nat.reduceAdd, Bool.false_eq_true, Int.reduceToNat]
    intro _
    have hc' : ¬ c = 0 := by simp at hc; omega
    simpa [hc'] using hk
  · simp only [go_sem, ↓reduceIte, Nat.reduceEqDiff, Nat.reduceAdd, Bool.false_eq_true, Int.reduceToNat]
    intro _
    have hc' : c = 0 := by simp at hc; omega
    simpa [hc'] using hk
theorem wAdd_calls {a b c : Nat} {h : H} {K : AV → H → Prop} (ha : a < 18446744073709551616) (hb : b < 18446744073709551616)
    (hk : ∀ k, k = (if c = 0 then 0 else 1) → K (.tup [.int .u64 ((a + b + k) % 18446744073709551616 : Nat), .int .u64 ((a + b + k) / 18446744073709551616 : Nat)]) h) : ACalls Try.prog 43 [.int .u64 (a : Int), .int .u64 (b : Int), .int .u64 (c : Int)] h K := by
  refine in_word_Add (by simp) fun hw => ?_
  unfold c_word_Add
  simp only [go_sem, ↓reduceIte, Nat.reduceEqDiff, Nat.reduceAdd, Bool.false_eq_true, Int.reduceToNat]
  refine one_calls ?_
  simp only [go_sem, ↓reduceIte, Nat.reduceEqDiff, Nat.reduceAdd, Bool.false_eq_true, Int.reduceToNat]
  refine Add64_calls ha hb (by split <;> omega) ?_
  simp only [go_sem, ↓reduceIte, Nat.reduceEqDiff, Nat.reduceAdd, Bool.false_eq_true, Int.reduceToNat]
  intro _
  exact hk _ rfl
theorem wSub_calls {a b c : Nat} {h : H} {K : AV → H → Prop}
    (hk : ∀ k, k = (if c = 0 then 0 else 1) → K (.tup [.int .u64 ((a + 18446744073709551616 - b - k) % 18446744073709551616 : Nat), .int .u64 (if a < b + k then 1 else 0 : Nat)]) h) : ACalls Try.prog 44 [.int .u64 (a : Int), .int .u64 (b : Int), .int .u64 (c : Int)] h K := by
  refine in_word_Sub (by simp) fun hw => ?_
  unfold c_word_Sub
  simp only [go_sem, ↓reduceIte, Nat.reduceEqDiff, Nat.reduceAdd, Bool.false_eq_true, Int.reduceToNat]
  refine one_calls ?_
  simp only [go_sem, ↓reduceIte, Nat.reduceEqDiff, Nat.reduceAdd, Bool.false_eq_true, Int.reduceToNat]
  refine Sub64_calls (by split <;> omega) ?_
  simp only [go_sem, ↓reduceIte, Nat.reduceEqDiff, Nat.reduceAdd, Bool.false_eq_true, Int.reduceToNat]
  intro _
  exact hk _ rfl
theorem wMul_calls {x y : Nat} {h : H} {K : AV → H → Prop} (hx : x < 18446744073709551616) (hy : y < 18446744073709551616)
    (hk : K (.tup [.int .u64 (x * y / 18446744073709551616 : Nat), .int .u64 (x * y % 18446744073709551616 : Nat)]) h) : ACalls Try.prog 21 [.int .u64 (x : Int), .int .u64 (y : Int)] h K := by
  refine in_word_Mul (by simp) fun hw => ?_
  unfold c_word_Mul
  simp only [go_sem, ↓reduceIte, Nat.reduceEqDiff, Nat.reduceAdd, Bool.false_eq_true, Int.reduceToNat]
  refine Mul64_calls hx hy ?_
  simp only [go_sem, ↓reduceIte, Nat.reduceEqDiff, Nat.reduceAdd, Bool.false_eq_true, Int.reduceToNat]
  exact fun _ => hk
theorem wDiv_calls {hi lo d : Nat} {h : H} {K : AV → H → Prop} (hd : d < 18446744073709551616) (hl : lo < 18446744073709551616)
    (hk1 : d ≤ hi → K (.tup [.int .u64 0, .int .u64 0, .bool false]) h)
    (hk2 : hi < d → K (.tup [.int .u64 ((hi * 18446744073709551616 + lo) / d : Nat), .int .u64 ((hi * 18446744073709551616 + lo) % d : Nat), .bool true]) h) : ACalls Try.prog 34 [.int .u64 (hi : Int), .int .u64 (lo : Int), .int .u64 (d : Int)] h K := by
  refine in_word_Div (by simp) fun hw => ?_
  unfold c_word_Div
  simp only [go_sem, ↓reduceIte, Nat.reduceEqDiff, Nat.reduceAdd, Bool.false_eq_true, Int.reduceToNat]
  refine cond_split (fun hc => ?_) (fun hc => ?_)
  · simp only [go_sem, ↓reduceIte, Nat.reduceEqDiff, Nat.reduceAdd, Bool.false_eq_true, Int.reduceToNat]
    exact fun _ => hk1 (by simp at hc; omega)
  · have hlt : hi < d := by simp at hc; omega
    simp only [go_sem, ↓reduceIte, Nat.reduceEqDiff, Nat.reduceAdd, Bool.false_eq_true, Int.reduceToNat]
    refine Div64_calls hlt hl hd ?_
    simp only [go_sem, ↓reduceIte, Nat.reduceEqDiff, Nat.reduceAdd, Bool.false_eq_true, Int.reduceToNat]
    exact fun _ => hk2 hlt
theorem Inverse_calls {d : Nat} {h : H} {K : AV → H → Prop} (hd : d < 18446744073709551616)
    (hk1 : d < 9223372036854775808 → K (.tup [.int .u64 0, .bool false]) h)
    (hk2 : 9223372036854775808 ≤ d → K (.tup [.int .u64 (((18446744073709551615 - d) * 18446744073709551616 + 18446744073709551615) / d : Nat), .bool true]) h) : ACalls Try.prog 45 [.int .u64 (d : Int)] h K := by
  refine in_word_Inverse (by simp) fun hw => ?_
  unfold c_word_Inverse
  simp only [go_sem, ↓reduceIte, Nat.reduceEqDiff, Nat.reduceAdd, Bool.false_eq_true, Int.reduceToNat]
  refine cond_split (fun hc => ?_) (fun hc => ?_)
  · simp only [go_sem, ↓reduceIte, Nat.reduceEqDiff, Nat.reduceAdd, Bool.false_eq_true, Int.reduceToNat]
    exact fun _ => hk1 (by simp at hc; omega)
  · have hge : 9223372036854775808 ≤ d := by simp at hc; omega
    simp only [go_sem, ↓reduceIte, Nat.reduceEqDiff, Nat.reduceAdd, Bool.false_eq_true, Int.reduceToNat, comU hd]
    refine Div64_calls (lo := 18446744073709551615) (by omega) (by omega) hd ?_
    simp only [go_sem, ↓reduceIte, Nat.reduceEqDiff, Nat.reduceAdd, Bool.false_eq_true, Int.reduceToNat]
    exact fun _ => hk2 hge
theorem two_calls {hi lo : Nat} {h : H} {K : AV → H → Prop} (h1 : hi < 18446744073709551616) (h2 : lo < 18446744073709551616)
    (hk : ∀ r h', h'.wf → h.le h' → Num 4294967296 h' r (hi * 18446744073709551616 + lo) → K r h') : ACalls Try.prog 23 [.int .u64 (hi : Int), .int .u64 (lo : Int)] h K := by
  refine in_law01_two (by simp) fun hw => ?_
  unfold c_law01_two
  simp only [go_sem, ↓reduceIte, Nat.reduceEqDiff, Nat.reduceAdd, Bool.false_eq_true, Int.reduceToNat]
  refine From_calls (IsN.lit [lo, hi] _ rfl rfl) (by simp; omega) (by simp) fun r h' hw' hle hr => ?_
  simp only [go_sem, ↓reduceIte, Nat.reduceEqDiff, Nat.reduceAdd, Bool.false_eq_true, Int.reduceToNat]
  intro _
  refine hk r h' hw' (H.le_trans (H.le_new hw (H.le_refl h) _) hle) ?_
  have e : val 18446744073709551616 [lo, hi] = hi * 18446744073709551616 + lo := by simp only [val]; omega
  rw [e] at hr
  exact hr
theorem three_calls {w2 w1 w0 : Nat} {h : H} {K : AV → H → Prop} (h2 : w2 < 18446744073709551616) (h1 : w1 < 18446744073709551616) (h0 : w0 < 18446744073709551616)
    (hk : ∀ r h', h'.wf → h.le h' → Num 4294967296 h' r ((w2 * 18446744073709551616 + w1) * 18446744073709551616 + w0) → K r h') : ACalls Try.prog 53 [.int .u64 (w2 : Int), .int .u64 (w1 : Int), .int .u64 (w0 : Int)] h K := by
  refine in_law01_three (by simp) fun hw => ?_
  unfold c_law01_three
  simp only [go_sem, ↓reduceIte, Nat.reduceEqDiff, Nat.reduceAdd, Bool.false_eq_true, Int.reduceToNat]
  refine From_calls (IsN.lit [w0, w1, w2] _ rfl rfl) (by simp; omega) (by simp) fun r h' hw' hle hr => ?_
  simp only [go_sem, ↓reduceIte, Nat.reduceEqDiff, Nat.reduceAdd, Bool.false_eq_true, Int.reduceToNat]
  intro _
  refine hk r h' hw' (H.le_trans (H.le_new hw (H.le_refl h) _) hle) ?_
  have e : val 18446744073709551616 [w0, w1, w2] = (w2 * 18446744073709551616 + w1) * 18446744073709551616 + w0 := by simp only [val]; omega
  rw [e] at hr
  exact hr
theorem wakes01_calls {h : H} {K : AV → H → Prop} (hk : h.wf → K (.bool true) h) : ACalls Try.prog 26 [] h K := by
  refine in_law01_wakes (by simp) fun hw => ?_
  unfold c_law01_wakes
  simp only [go_sem, ↓reduceIte, Nat.reduceEqDiff, Nat.reduceAdd, Bool.false_eq_true, Int.reduceToNat]
  refine wMul_calls (x := 4294967296) (y := 4294967296) (by decide) (by decide) ?_
  simp only [go_sem, ↓reduceIte, Nat.reduceEqDiff, Nat.reduceAdd, Bool.false_eq_true, Int.reduceToNat]
  refine Inverse_calls (d := 9223372036854775808) (by decide) (fun h => absurd h (by decide)) (fun _ => ?_)
  have e1 : (((4294967296 * 4294967296 / 18446744073709551616 : Nat) : Int) == 1) = true := by decide
  have e2 : (((4294967296 * 4294967296 % 18446744073709551616 : Nat) : Int) == 0) = true := by decide
  have e3 : (((((18446744073709551615 - 9223372036854775808) * 18446744073709551616 + 18446744073709551615) / 9223372036854775808 : Nat) : Int) == 18446744073709551615) = true := by decide
  simp only [go_sem, ↓reduceIte, Nat.reduceEqDiff, Nat.reduceAdd, Bool.false_eq_true, Int.reduceToNat, e1, e2, e3]
  exact fun hw => hk hw
end Ab
end Go.Proofs.Yteoagnggnekfiaa
