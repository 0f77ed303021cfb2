/- How many binary digits a word has. No condition. -/
import Derived.Test.YteoagnggnekfiaaF1
namespace Go.Proofs.Yteoagnggnekfiaa
namespace Ab
open Go Go.RowKit
set_option linter.unusedSimpArgs false
set_option linter.unusedVariables false
attribute [local go_sem ↓] x_mv x_pick x_bin x_beq x_peq x_seq x_cat x_aeq x_idxS x_un x_cvI x_idx x_idxA x_fld x_ld x_st x_nn x_prt x_slc x_mk x_bsl x_bld x_box x_alloc x_len x_capo x_mnx x_app x_cpy x_mkf x_ext x_call x_callV x_bad s_none s_some s_nil s_cons s_chks w_skip w_reg w_seq w_cond w_block w_exit w_ret t_normal t_exit t_ret b_normal b_ret b_exit n_normal n_exit n_ret p_normal p_ret f_nil f_t f_c k_ops k_chk k_fin
attribute [local go_sem] e_t e_c e_f u_some u_none u_at env_at k_v k_pick k_add k_sub k_mul k_quo k_rem k_and k_or k_xor k_shl k_shr k_eql k_neq k_lss k_leq k_gtr k_geq k_beq k_peqn k_peqs k_neg k_not k_com k_cvI k_idxS k_idx k_idxA k_idxG k_ldG k_gld k_seq k_cat k_aeq k_eqs k_fld k_ld1 k_ldn k_get k_gets k_sti k_stb k_stp k_sts k_stf k_sta k_put k_nn k_prt1 k_prtn k_slc_a k_slc_b k_slc_c k_mk k_agg k_bsl k_box k_len k_lenS k_cap k_max k_min k_ext k_callV k_true k_false k_gtt k_gtf k_gft k_gsk k_gff k_lit1i k_lit2i k_lit3i k_c0 k_c1 k_ck List.getElem?_cons_zero List.getElem?_cons_succ List.getElem?_nil Option.getD_some Option.getD_none tupOf List.map_cons List.map_nil Option.map_some Option.map_none List.nil_append List.cons_append List.append_nil Nat.mul_one Int.toNat_natCast Nat.zero_add
def tabok (s : ByteArray) : Bool := (List.range 256).all fun y => match s[y]? with
  | some b => decide (b.toNat ≤ 8 ∧ y < 2 ^ b.toNat ∧ (b.toNat = 0 ∨ 2 ^ (b.toNat - 1) ≤ y))
  | none => false
theorem tab_use {s : ByteArray} {y : Nat} {K : AV → H → Prop} {h : H} (hs : tabok s = true) (hy : y < 256) (hk : ∀ b : Nat, b ≤ 8 → y < 2 ^ b → (b = 0 ∨ 2 ^ (b - 1) ≤ y) → K (.int .u8 (b : Int)) h) : ∃ b, s[y]? = some b ∧ K (.int .u8 b.toNat) h := by
  have := (List.all_eq_true.1 hs) y (by simpa using hy)
  split at this
  · rename_i b hb
    have := of_decide_eq_true this
    exact ⟨b, hb, hk b.toNat this.1 this.2.1 this.2.2⟩
  · cases this
def BL (x L : Nat) : Prop := x < 2 ^ L ∧ (L = 0 ∨ 2 ^ (L - 1) ≤ x)
theorem BL.up {x k L : Nat} (h : BL (x / 2 ^ k) L) (hL : L ≠ 0) : BL x (k + L) := by
  have hp : 0 < 2 ^ k := Nat.pow_pos (by decide)
  refine ⟨?_, .inr ?_⟩
  · have := (Nat.div_lt_iff_lt_mul hp).1 h.1
    rw [Nat.pow_add, Nat.mul_comm]
    exact this
  · have h1 : 2 ^ (L - 1) ≤ x / 2 ^ k := h.2.resolve_left hL
    have := (Nat.le_div_iff_mul_le hp).1 h1
    rw [show k + L - 1 = (L - 1) + k from by omega, Nat.pow_add]
    exact this
theorem BL.pos {x L : Nat} (h : BL x L) (hx : 0 < x) : L ≠ 0 := by
  rintro rfl
  have := h.1
  omega
theorem Len64_calls {x : Nat} {h : H} {K : AV → H → Prop} (hx : x < 18446744073709551616)
    (hk : ∀ L : Nat, L ≤ 64 → BL x L → K (.int .i64 (L : Int)) h) : ACalls Try.prog 67 [.int .u64 (x : Int)] h K := by
  refine in_bits_Len64 (by simp) fun hw => ?_
  unfold c_bits_Len64
  have fin : ∀ (y k : Nat), y < 256 → k ≤ 56 → (∀ b : Nat, b ≤ 8 → BL y b → K (.int .i64 ((k + b : Nat) : Int)) h) → ∀ (s : ByteArray), tabok s = true → (0 ≤ IntKind.u8.wrap (y : Int) ∧ ∃ b, s[(IntKind.u8.wrap (y : Int)).toNat]? = some b ∧ K (.int .i64 (IntKind.i64.wrap ((k : Int) + IntKind.i64.wrap ((b.toNat : Nat) : Int)))) h) := by
    intro y k hy hk1 hf s hs
    have e : IntKind.u8.wrap (y : Int) = (y : Int) := by rw [IntKind.wrap_u8]; omega
    rw [e, Int.toNat_natCast]
    refine ⟨by omega, ?_⟩
    obtain ⟨b, hb, hq⟩ := tab_use (K := fun v h => ∀ n : Int, v = .int .u8 n → K (.int .i64 (IntKind.i64.wrap ((k : Int) + IntKind.i64.wrap n))) h) (h := h) hs hy (fun b h1 h2 h3 n en => by
      injection en with _ en
      subst en
      rw [wI (n := (b : Int)) (by omega) (by omega), wI (by omega) (by omega), ← Int.natCast_add]
      exact hf b h1 ⟨h2, h3⟩)
    exact ⟨b, hb, hq _ rfl⟩
  have w1 : IntKind.i64.wrap (0 + 16) = 16 := by decide
  have w2 : IntKind.i64.wrap (32 + 16) = 48 := by decide
  have w3 : IntKind.i64.wrap (0 + 8) = 8 := by decide
  have w4 : IntKind.i64.wrap (16 + 8) = 24 := by decide
  have w5 : IntKind.i64.wrap (32 + 8) = 40 := by decide
  have w6 : IntKind.i64.wrap (48 + 8) = 56 := by decide
  have s16 : ∀ y : Nat, bShr .u64 (y : Int) 16 = ((y / 2 ^ 16 : Nat) : Int) := fun y => shrU (n := 16) (by omega)
  have s8 : ∀ y : Nat, bShr .u64 (y : Int) 8 = ((y / 2 ^ 8 : Nat) : Int) := fun y => shrU (n := 8) (by omega)
  have s32 : ∀ y : Nat, bShr .u64 (y : Int) 32 = ((y / 2 ^ 32 : Nat) : Int) := fun y => shrU (n := 32) (by omega)
  have up2 : ∀ (a b c L : Nat), BL (x / 2 ^ a / 2 ^ b / 2 ^ c) L → 0 < x / 2 ^ a / 2 ^ b / 2 ^ c → BL x (a + b + c + L) := by
    intro a b c L hL h0
    rw [Nat.add_assoc, Nat.add_assoc]
    have n1 := hL.pos h0
    exact BL.up (BL.up (BL.up hL n1) (by omega)) (by omega)
  have dT : ∀ (t a : Nat), t ≤ a → decide ((t : Int) ≤ (a : Int)) = true := fun t a h => by simp; omega
  have dF : ∀ (t a : Nat), a < t → decide ((t : Int) ≤ (a : Int)) = false := fun t a h => by simp; omega
  rcases Nat.lt_or_ge x 4294967296 with c1 | c1
  · have d1 : decide ((4294967296 : Int) ≤ (x : Int)) = false := dF 4294967296 _ c1
    rcases Nat.lt_or_ge (x) 65536 with c2 | c2
    · have d2 : decide ((65536 : Int) ≤ ((x : Nat) : Int)) = false := dF 65536 _ c2
      rcases Nat.lt_or_ge (x) 256 with c3 | c3
      · have d3 : decide ((256 : Int) ≤ ((x : Nat) : Int)) = false := dF 256 _ c3
        simp only [go_sem, ↓reduceIte, Nat.reduceEqDiff, Nat.reduceAdd, Bool.false_eq_true, Int.reduceToNat, d1, d2, d3, s32, s16, s8, w1, w2, w3, w4, w5, w6]
        obtain ⟨q1, b, q2, q3⟩ := fin (x) 0 (by omega) (by omega) (fun b hb hB => hk (0 + b) (by omega) (by simpa using hB)) s_bits_Len64_0 (by decide +kernel)
        exact ⟨q1, b, q2, fun _ => q3⟩
      · have d3 : decide ((256 : Int) ≤ ((x : Nat) : Int)) = true := dT 256 _ c3
        simp only [go_sem, ↓reduceIte, Nat.reduceEqDiff, Nat.reduceAdd, Bool.false_eq_true, Int.reduceToNat, d1, d2, d3, s32, s16, s8, w1, w2, w3, w4, w5, w6]
        refine ⟨by omega, ?_⟩
        obtain ⟨q1, b, q2, q3⟩ := fin ((x) / 2 ^ 8) 8 (by omega) (by omega) (fun b hb hB => hk (8 + b) (by omega) (by have := up2 0 0 8 b (by simpa using hB) (by simp; omega); simpa using this)) s_bits_Len64_0 (by decide +kernel)
        exact ⟨q1, b, q2, fun _ => q3⟩
    · have d2 : decide ((65536 : Int) ≤ ((x : Nat) : Int)) = true := dT 65536 _ c2
      rcases Nat.lt_or_ge ((x) / 2 ^ 16) 256 with c3 | c3
      · have d3 : decide ((256 : Int) ≤ (((x) / 2 ^ 16 : Nat) : Int)) = false := dF 256 _ c3
        simp only [go_sem, ↓reduceIte, Nat.reduceEqDiff, Nat.reduceAdd, Bool.false_eq_true, Int.reduceToNat, d1, d2, d3, s32, s16, s8, w1, w2, w3, w4, w5, w6]
        refine ⟨by omega, ?_⟩
        obtain ⟨q1, b, q2, q3⟩ := fin ((x) / 2 ^ 16) 16 (by omega) (by omega) (fun b hb hB => hk (16 + b) (by omega) (by have := up2 0 16 0 b (by simpa using hB) (by simp; omega); simpa using this)) s_bits_Len64_0 (by decide +kernel)
        exact ⟨q1, b, q2, fun _ => q3⟩
      · have d3 : decide ((256 : Int) ≤ (((x) / 2 ^ 16 : Nat) : Int)) = true := dT 256 _ c3
        simp only [go_sem, ↓reduceIte, Nat.reduceEqDiff, Nat.reduceAdd, Bool.false_eq_true, Int.reduceToNat, d1, d2, d3, s32, s16, s8, w1, w2, w3, w4, w5, w6]
        refine ⟨by omega, by omega, ?_⟩
        obtain ⟨q1, b, q2, q3⟩ := fin (((x) / 2 ^ 16) / 2 ^ 8) 24 (by omega) (by omega) (fun b hb hB => hk (24 + b) (by omega) (by have := up2 0 16 8 b (by simpa using hB) (by simp; omega); simpa using this)) s_bits_Len64_0 (by decide +kernel)
        exact ⟨q1, b, q2, fun _ => q3⟩
  · have d1 : decide ((4294967296 : Int) ≤ (x : Int)) = true := dT 4294967296 _ c1
    rcases Nat.lt_or_ge (x / 2 ^ 32) 65536 with c2 | c2
    · have d2 : decide ((65536 : Int) ≤ ((x / 2 ^ 32 : Nat) : Int)) = false := dF 65536 _ c2
      rcases Nat.lt_or_ge (x / 2 ^ 32) 256 with c3 | c3
      · have d3 : decide ((256 : Int) ≤ ((x / 2 ^ 32 : Nat) : Int)) = false := dF 256 _ c3
        simp only [go_sem, ↓reduceIte, Nat.reduceEqDiff, Nat.reduceAdd, Bool.false_eq_true, Int.reduceToNat, d1, d2, d3, s32, s16, s8, w1, w2, w3, w4, w5, w6]
        refine ⟨by omega, ?_⟩
        obtain ⟨q1, b, q2, q3⟩ := fin (x / 2 ^ 32) 32 (by omega) (by omega) (fun b hb hB => hk (32 + b) (by omega) (by have := up2 32 0 0 b (by simpa using hB) (by simp; omega); simpa using this)) s_bits_Len64_0 (by decide +kernel)
        exact ⟨q1, b, q2, fun _ => q3⟩
      · have d3 : decide ((256 : Int) ≤ ((x / 2 ^ 32 : Nat) : Int)) = true := dT 256 _ c3
        simp only [go_sem, ↓reduceIte, Nat.reduceEqDiff, Nat.reduceAdd, Bool.false_eq_true, Int.reduceToNat, d1, d2, d3, s32, s16, s8, w1, w2, w3, w4, w5, w6]
        refine ⟨by omega, by omega, ?_⟩
        obtain ⟨q1, b, q2, q3⟩ := fin ((x / 2 ^ 32) / 2 ^ 8) 40 (by omega) (by omega) (fun b hb hB => hk (40 + b) (by omega) (by have := up2 32 0 8 b (by simpa using hB) (by simp; omega); simpa using this)) s_bits_Len64_0 (by decide +kernel)
        exact ⟨q1, b, q2, fun _ => q3⟩
    · have d2 : decide ((65536 : Int) ≤ ((x / 2 ^ 32 : Nat) : Int)) = true := dT 65536 _ c2
      rcases Nat.lt_or_ge ((x / 2 ^ 32) / 2 ^ 16) 256 with c3 | c3
      · have d3 : decide ((256 : Int) ≤ (((x / 2 ^ 32) / 2 ^ 16 : Nat) : Int)) = false := dF 256 _ c3
        simp only [go_sem, ↓reduceIte, Nat.reduceEqDiff, Nat.reduceAdd, Bool.false_eq_true, Int.reduceToNat, d1, d2, d3, s32, s16, s8, w1, w2, w3, w4, w5, w6]
        refine ⟨by omega, by omega, ?_⟩
        obtain ⟨q1, b, q2, q3⟩ := fin ((x / 2 ^ 32) / 2 ^ 16) 48 (by omega) (by omega) (fun b hb hB => hk (48 + b) (by omega) (by have := up2 32 16 0 b (by simpa using hB) (by simp; omega); simpa using this)) s_bits_Len64_0 (by decide +kernel)
        exact ⟨q1, b, q2, fun _ => q3⟩
      · have d3 : decide ((256 : Int) ≤ (((x / 2 ^ 32) / 2 ^ 16 : Nat) : Int)) = true := dT 256 _ c3
        simp only [go_sem, ↓reduceIte, Nat.reduceEqDiff, Nat.reduceAdd, Bool.false_eq_true, Int.reduceToNat, d1, d2, d3, s32, s16, s8, w1, w2, w3, w4, w5, w6]
        refine ⟨by omega, by omega, by omega, ?_⟩
        obtain ⟨q1, b, q2, q3⟩ := fin (((x / 2 ^ 32) / 2 ^ 16) / 2 ^ 8) 56 (by omega) (by omega) (fun b hb hB => hk (56 + b) (by omega) (by have := up2 32 16 8 b (by simpa using hB) (by simp; omega); simpa using this)) s_bits_Len64_0 (by decide +kernel)
        exact ⟨q1, b, q2, fun _ => q3⟩
end Ab
end Go.Proofs.Yteoagnggnekfiaa
