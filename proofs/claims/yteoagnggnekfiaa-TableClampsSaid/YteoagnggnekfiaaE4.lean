/- The naturals of the document: sum. No condition. -/
import Derived.Test.YteoagnggnekfiaaE3
namespace Go.Proofs.Yteoagnggnekfiaa
namespace Ab
open Go Go.RowKit
set_option linter.unusedSimpArgs false
set_option linter.unusedVariables false
attribute [local go_sem ↓] x_mv x_pick x_bin x_beq x_peq x_seq x_cat x_aeq x_idxS x_un x_cvI x_idx x_idxA x_fld x_ld x_st x_nn x_prt x_slc x_mk x_bsl x_bld x_box x_alloc x_len x_capo x_mnx x_app x_cpy x_mkf x_ext x_call x_callV x_bad s_none s_some s_nil s_cons s_chks w_skip w_reg w_seq w_cond w_block w_exit w_ret t_normal t_exit t_ret b_normal b_ret b_exit n_normal n_exit n_ret p_normal p_ret f_nil f_t f_c k_ops k_chk k_fin
attribute [local go_sem] e_t e_c e_f u_some u_none u_at env_at k_v k_pick k_add k_sub k_mul k_quo k_rem k_and k_or k_xor k_shl k_shr k_eql k_neq k_lss k_leq k_gtr k_geq k_beq k_peqn k_peqs k_neg k_not k_com k_cvI k_idxS k_idx k_idxA k_idxG k_ldG k_gld k_seq k_cat k_aeq k_eqs k_fld k_ld1 k_ldn k_get k_gets k_sti k_stb k_stp k_sts k_stf k_sta k_put k_nn k_prt1 k_prtn k_slc_a k_slc_b k_slc_c k_mk k_agg k_bsl k_box k_len k_lenS k_cap k_max k_min k_ext k_callV k_true k_false k_gtt k_gtf k_gft k_gsk k_gff k_lit1i k_lit2i k_lit3i k_c0 k_c1 k_ck List.getElem?_cons_zero List.getElem?_cons_succ List.getElem?_nil Option.getD_some Option.getD_none tupOf List.map_cons List.map_nil Option.map_some Option.map_none List.nil_append List.cons_append List.append_nil Nat.mul_one Int.toNat_natCast Nat.zero_add
theorem val_take_get (B : Nat) (xs : List Nat) (k : Nat) : val B (xs.take (k + 1)) = val B (xs.take k) + B ^ k * xs.getD k 0 := by
  rcases Nat.lt_or_ge k xs.length with h | h
  · rw [val_take_succ B xs k h, List.getD_eq_getElem?_getD, List.getElem?_eq_getElem h]
    rfl
  · rw [List.take_of_length_le (by omega), List.take_of_length_le h, List.getD_eq_getElem?_getD, List.getElem?_eq_none h]
    simp
theorem digit_snoc {B q s : Nat} (hB : 0 < B) : q * (s % B) + q * B * (s / B) = q * s := by
  rw [Nat.mul_assoc, ← Nat.mul_add, Nat.mod_add_div]
theorem Add_calls {v u : AV} {x y : Nat} {h : H} {K : AV → H → Prop} (nv : Num 4294967296 h v x) (nu : Num 4294967296 h u y) (hx : Big x) (hy : Big y)
    (hk : ∀ r h', h'.wf → h.le h' → Num 4294967296 h' r (x + y) → K r h') : ACalls Try.prog 42 [v, u] h K := by
  obtain ⟨xs, hv, hxd, hxt, rfl, hxl⟩ := nv.open hx
  obtain ⟨ys, hu, hyd, hyt, rfl, hyl⟩ := nu.open hy
  obtain ⟨id, off, c, rfl⟩ := hv.form
  obtain ⟨id', off', c', rfl⟩ := hu.form
  refine in_ref02_Add (by simp) fun hw => ?_
  unfold c_ref02_Add
  have e0 : IntKind.i64.wrap (max (xs.length : Int) (ys.length : Int) + 1) = ((max xs.length ys.length + 1 : Nat) : Int) := by rw [wI] <;> omega
  simp only [go_sem, ↓reduceIte, Nat.reduceEqDiff, Nat.reduceAdd, Bool.false_eq_true, Int.reduceToNat, e0]
  refine ⟨by omega, by omega, by omega, ?_⟩
  generalize hm : max xs.length ys.length = m
  refine ⟨fun n ρ h' => h'.wf ∧ h.le h' ∧ ρ 0 = .sl id off xs.length c ∧ ρ 1 = .sl id' off' ys.length c' ∧ ∃ i out s a, n = m + 1 - i ∧ i ≤ m + 1 ∧ ρ 7 = .int .i64 (i : Nat) ∧ ρ 6 = .int .u64 (a : Nat) ∧ a ≤ 1 ∧ (i = m + 1 → a = 0) ∧ ρ 5 = s ∧ IsG h.next h' s out ∧ (∀ x ∈ out, x < 4294967296) ∧ out.length = i ∧
      val 4294967296 out + 4294967296 ^ i * a = val 4294967296 (xs.take i) + val 4294967296 (ys.take i), m + 1,
    ⟨H.wf_new hw _, H.le_new hw (H.le_refl h) _, rfl, rfl, 0, [], _, 0, by omega, by omega, rfl, rfl, by omega, by omega, rfl, IsG.made0 (Nat.le_refl _) _, by simp, rfl, rfl⟩, ?_⟩
  rintro n ρ h' ⟨hw', hle, h0, h1, i, out, s, a, rfl, hi, h7, h6, ha, hae, h5, hs, hod, hol, hov⟩
  have e7 := incI (i := i) (by omega)
  -- what a round leaves
  have round : ∀ (t : Nat), t = a + xs.getD i 0 + ys.getD i 0 → i ≤ m → (∀ v' h2, h2.wf → h.le h2 → IsG h.next h2 v' (out ++ [t % 4294967296]) → ∃ k, k < m + 1 - i ∧ h2.wf ∧ h.le h2 ∧ True ∧ True ∧ ∃ i' out' s' a', k = m + 1 - i' ∧ i' ≤ m + 1 ∧ AV.int .i64 ((i + 1 : Nat) : Int) = .int .i64 (i' : Nat) ∧ AV.int .u64 ((t / 4294967296 : Nat) : Int) = .int .u64 (a' : Nat) ∧ a' ≤ 1 ∧ (i' = m + 1 → a' = 0) ∧ v' = s' ∧ IsG h.next h2 s' out' ∧ (∀ x ∈ out', x < 4294967296) ∧ out'.length = i' ∧
      val 4294967296 out' + 4294967296 ^ i' * a' = val 4294967296 (xs.take i') + val 4294967296 (ys.take i')) := by
    intro t ht him v' h2 hw2 hle2 hv2
    have hxi : xs.getD i 0 < 4294967296 := by
      rcases Nat.lt_or_ge i xs.length with hh | hh
      · rw [List.getD_eq_getElem?_getD, List.getElem?_eq_getElem hh]; exact hxd _ (List.getElem_mem hh)
      · rw [List.getD_eq_getElem?_getD, List.getElem?_eq_none hh]; decide
    have hyi : ys.getD i 0 < 4294967296 := by
      rcases Nat.lt_or_ge i ys.length with hh | hh
      · rw [List.getD_eq_getElem?_getD, List.getElem?_eq_getElem hh]; exact hyd _ (List.getElem_mem hh)
      · rw [List.getD_eq_getElem?_getD, List.getElem?_eq_none hh]; decide
    refine ⟨m + 1 - (i + 1), by omega, hw2, hle2, True.intro, True.intro, i + 1, _, v', t / 4294967296, rfl, by omega, rfl, rfl, by omega, ?_, rfl, hv2, ?_, by simp; omega, ?_⟩
    · intro e
      have e1 : xs.getD i 0 = 0 := by rw [List.getD_eq_getElem?_getD, List.getElem?_eq_none (by omega)]; rfl
      have e2 : ys.getD i 0 = 0 := by rw [List.getD_eq_getElem?_getD, List.getElem?_eq_none (by omega)]; rfl
      omega
    · intro z hz
      rcases List.mem_append.1 hz with hz | hz
      · exact hod z hz
      · simp only [List.mem_cons, List.not_mem_nil, or_false] at hz
        omega
    · rw [val_snoc, hol, val_take_get, val_take_get, Nat.pow_succ, Nat.add_assoc, digit_snoc (by omega), ht, Nat.mul_add, Nat.mul_add]
      omega
  rcases Nat.lt_or_ge i xs.length with hxi | hxi <;> rcases Nat.lt_or_ge i ys.length with hyi | hyi
  · obtain ⟨j, rfl, _, hg⟩ := (hv.mono hle).at hxi
    have hxb := hxd _ (List.getElem_mem hxi)
    have ex : xs.getD i 0 = xs[i] := by rw [List.getD_eq_getElem?_getD, List.getElem?_eq_getElem hxi]; rfl
    obtain ⟨j', rfl, _, hg'⟩ := (hu.mono hle).at hyi
    have hyb := hyd _ (List.getElem_mem hyi)
    have ey : ys.getD i 0 = ys[i] := by rw [List.getD_eq_getElem?_getD, List.getElem?_eq_getElem hyi]; rfl
    rw [ex, ey] at round
    generalize xs[i] = p at *
    generalize ys[i] = q at *
    have r := round (a + p + q) (by omega) (by omega)
    simp only [go_sem, ↓reduceIte, Nat.reduceEqDiff, Nat.reduceAdd, Bool.false_eq_true, Int.reduceToNat, h0, h1, h5, h6, h7, ltT hxi, ltT hyi, hg, addU (a := a) (b := p) (by omega), hg', addU (a := a + p) (b := q) (by omega), rem32]
    refine ⟨by omega, by omega, by omega, by omega, ?_⟩
    try simp only [go_sem, ↓reduceIte, Nat.reduceEqDiff, Nat.reduceAdd, Bool.false_eq_true, Int.reduceToNat, h0, h1, h5, h6, h7, ltT hxi, ltT hyi, hg, addU (a := a) (b := p) (by omega), hg', addU (a := a + p) (b := q) (by omega), rem32]
    refine ⟨by omega, ?_⟩
    refine app_lit [(a + p + q) % 4294967296] hw hw' hle hs rfl rfl (by simp; omega) fun v' h2 hw2 hle2 hv2 => ?_
    simp only [go_sem, ↓reduceIte, Nat.reduceEqDiff, Nat.reduceAdd, Bool.false_eq_true, Int.reduceToNat, h0, h1, h6, h7, e7, quo32 (x := a + p + q) (by omega)]
    refine ⟨by omega, ?_⟩
    exact r v' h2 hw2 hle2 hv2
  · obtain ⟨j, rfl, _, hg⟩ := (hv.mono hle).at hxi
    have hxb := hxd _ (List.getElem_mem hxi)
    have ex : xs.getD i 0 = xs[i] := by rw [List.getD_eq_getElem?_getD, List.getElem?_eq_getElem hxi]; rfl
    have ey : ys.getD i 0 = 0 := by rw [List.getD_eq_getElem?_getD, List.getElem?_eq_none hyi]; rfl
    rw [ex, ey] at round
    generalize xs[i] = p at *
    have r := round (a + p) (by omega) (by omega)
    simp only [go_sem, ↓reduceIte, Nat.reduceEqDiff, Nat.reduceAdd, Bool.false_eq_true, Int.reduceToNat, h0, h1, h5, h6, h7, ltT hxi, ltF hyi, hg, addU (a := a) (b := p) (by omega), rem32]
    refine ⟨by omega, by omega, ?_⟩
    try simp only [go_sem, ↓reduceIte, Nat.reduceEqDiff, Nat.reduceAdd, Bool.false_eq_true, Int.reduceToNat, h0, h1, h5, h6, h7, ltT hxi, ltF hyi, hg, addU (a := a) (b := p) (by omega), rem32]
    refine ⟨by omega, ?_⟩
    refine app_lit [(a + p) % 4294967296] hw hw' hle hs rfl rfl (by simp; omega) fun v' h2 hw2 hle2 hv2 => ?_
    simp only [go_sem, ↓reduceIte, Nat.reduceEqDiff, Nat.reduceAdd, Bool.false_eq_true, Int.reduceToNat, h0, h1, h6, h7, e7, quo32 (x := a + p) (by omega)]
    refine ⟨by omega, ?_⟩
    exact r v' h2 hw2 hle2 hv2
  · have ex : xs.getD i 0 = 0 := by rw [List.getD_eq_getElem?_getD, List.getElem?_eq_none hxi]; rfl
    obtain ⟨j', rfl, _, hg'⟩ := (hu.mono hle).at hyi
    have hyb := hyd _ (List.getElem_mem hyi)
    have ey : ys.getD i 0 = ys[i] := by rw [List.getD_eq_getElem?_getD, List.getElem?_eq_getElem hyi]; rfl
    rw [ex, ey] at round
    generalize ys[i] = q at *
    have r := round (a + q) (by omega) (by omega)
    simp only [go_sem, ↓reduceIte, Nat.reduceEqDiff, Nat.reduceAdd, Bool.false_eq_true, Int.reduceToNat, h0, h1, h5, h6, h7, ltF hxi, ltT hyi, hg', addU (a := a) (b := q) (by omega), rem32]
    refine ⟨by omega, by omega, ?_⟩
    try simp only [go_sem, ↓reduceIte, Nat.reduceEqDiff, Nat.reduceAdd, Bool.false_eq_true, Int.reduceToNat, h0, h1, h5, h6, h7, ltF hxi, ltT hyi, hg', addU (a := a) (b := q) (by omega), rem32]
    refine ⟨by omega, ?_⟩
    refine app_lit [(a + q) % 4294967296] hw hw' hle hs rfl rfl (by simp; omega) fun v' h2 hw2 hle2 hv2 => ?_
    simp only [go_sem, ↓reduceIte, Nat.reduceEqDiff, Nat.reduceAdd, Bool.false_eq_true, Int.reduceToNat, h0, h1, h6, h7, e7, quo32 (x := a + q) (by omega)]
    refine ⟨by omega, ?_⟩
    exact r v' h2 hw2 hle2 hv2
  · have ex := ltF hxi
    have ey := ltF hyi
    rcases Nat.eq_zero_or_pos a with ha | ha
    · have ha0 : decide ((0 : Int) < (a : Int)) = false := by simp; omega
      simp only [go_sem, ↓reduceIte, Nat.reduceEqDiff, Nat.reduceAdd, Bool.false_eq_true, Int.reduceToNat, h0, h1, h5, h6, h7, ex, ey, ha0]
      refine norm_num hs.isN hod (by omega) fun r hr => ?_
      simp only [go_sem, ↓reduceIte, Nat.reduceEqDiff, Nat.reduceAdd, Bool.false_eq_true, Int.reduceToNat]
      intro _
      refine hk r h' hw' hle ?_
      rw [List.take_of_length_le hxi, List.take_of_length_le hyi, ha] at hov
      simp only [Nat.mul_zero, Nat.add_zero] at hov
      rw [hov] at hr
      exact hr
    · have ex1 := ltF hxi
      have ey1 := ltF hyi
      have ex : xs.getD i 0 = 0 := by rw [List.getD_eq_getElem?_getD, List.getElem?_eq_none hxi]; rfl
      have ey : ys.getD i 0 = 0 := by rw [List.getD_eq_getElem?_getD, List.getElem?_eq_none hyi]; rfl
      rw [ex, ey] at round
      have r := round (a) (by omega) (by omega)
      have ha0 : decide ((0 : Int) < (a : Int)) = true := by simp; omega
      simp only [go_sem, ↓reduceIte, Nat.reduceEqDiff, Nat.reduceAdd, Bool.false_eq_true, Int.reduceToNat, h0, h1, h5, h6, h7, ex1, ey1, rem32, ha0]
      refine ⟨by omega, ?_⟩
      refine app_lit [(a) % 4294967296] hw hw' hle hs rfl rfl (by simp; omega) fun v' h2 hw2 hle2 hv2 => ?_
      simp only [go_sem, ↓reduceIte, Nat.reduceEqDiff, Nat.reduceAdd, Bool.false_eq_true, Int.reduceToNat, h0, h1, h6, h7, e7, quo32 (x := a) (by omega)]
      refine ⟨by omega, ?_⟩
      exact r v' h2 hw2 hle2 hv2
end Ab
end Go.Proofs.Yteoagnggnekfiaa
