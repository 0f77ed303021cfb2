/- Tables: the document's own answers. No condition. -/
import Derived.Test.YteoagnggnekfiaaH4
namespace Go.Proofs.Yteoagnggnekfiaa
namespace Ab
open Go Go.RowKit
set_option linter.unusedSimpArgs false
set_option linter.unusedVariables false
attribute [local go_sem ↓] x_mv x_pick x_bin x_beq x_peq x_seq x_cat x_aeq x_idxS x_un x_cvI x_idx x_idxA x_fld x_ld x_st x_nn x_prt x_slc x_mk x_bsl x_bld x_box x_alloc x_len x_capo x_mnx x_app x_cpy x_mkf x_ext x_call x_callV x_bad s_none s_some s_nil s_cons s_chks w_skip w_reg w_seq w_cond w_block w_exit w_ret t_normal t_exit t_ret b_normal b_ret b_exit n_normal n_exit n_ret p_normal p_ret f_nil f_t f_c k_ops k_chk k_fin
attribute [local go_sem] e_t e_c e_f u_some u_none u_at env_at k_v k_pick k_add k_sub k_mul k_quo k_rem k_and k_or k_xor k_shl k_shr k_eql k_neq k_lss k_leq k_gtr k_geq k_beq k_peqn k_peqs k_neg k_not k_com k_cvI k_idxS k_idx k_idxA k_idxG k_ldG k_gld k_seq k_cat k_aeq k_eqs k_fld k_ld1 k_ldn k_get k_gets k_sti k_stb k_stp k_sts k_stf k_sta k_put k_nn k_prt1 k_prtn k_slc_a k_slc_b k_slc_c k_mk k_agg k_bsl k_box k_len k_lenS k_cap k_max k_min k_ext k_callV k_true k_false k_gtt k_gtf k_gft k_gsk k_gff k_lit1i k_lit2i k_lit3i k_c0 k_c1 k_ck List.getElem?_cons_zero List.getElem?_cons_succ List.getElem?_nil Option.getD_some Option.getD_none tupOf List.map_cons List.map_nil Option.map_some Option.map_none List.nil_append List.cons_append List.append_nil Nat.mul_one Int.toNat_natCast Nat.zero_add
theorem routeT_nat {t : Tb} {n m : Nat} (hn : n ≤ 16384) (hm : m ≤ 16384) : routeT t n m = routeF (clampT t).base.toNat (clampT t).toom.toNat (clampT t).ntt.toNat (max n m) (min n m) := by
  unfold routeT
  rw [if_neg (by omega)]
  congr 1 <;> omega
theorem rRoute_calls {t : Tb} {n m : Int} {h : H} {K : AV → H → Prop} (hk : ∀ h', h'.wf → h.le h' → K (.int .i64 (routeT t n m : Nat)) h') : ACalls Try.prog 36 [t.av, .int .i64 n, .int .i64 m] h K := by
  refine in_ref04_Route (by simp) fun hw => ?_
  unfold c_ref04_Route
  have hw1 := H.wf_new hw ⟨some 23, 11, t.cells⟩
  have hl1 := H.le_new hw (H.le_refl h) ⟨some 23, 11, t.cells⟩
  have bad : (n < 0 ∨ m < 0 ∨ 16384 < n ∨ 16384 < m) → K (.int .i64 0) (h.new ⟨some 23, 11, t.cells⟩) := fun hb => by
    have e3 : routeT t n m = 0 := by unfold routeT; rw [if_pos hb]
    rw [e3] at hk
    exact hk _ hw1 hl1
  simp only [go_sem, ↓reduceIte, Nat.reduceEqDiff, Nat.reduceAdd, Bool.false_eq_true, Int.reduceToNat, av_held, av_cells, cells_len, true_and]
  by_cases a1 : n < 0
  · simp only [go_sem, ↓reduceIte, Nat.reduceEqDiff, Nat.reduceAdd, Bool.false_eq_true, Int.reduceToNat, decide_eq_true a1]
    exact fun _ => bad (.inl a1)
  by_cases a2 : m < 0
  · simp only [go_sem, ↓reduceIte, Nat.reduceEqDiff, Nat.reduceAdd, Bool.false_eq_true, Int.reduceToNat, decide_eq_false a1, decide_eq_true a2]
    exact fun _ => bad (.inr (.inl a2))
  by_cases a3 : 16384 < n
  · simp only [go_sem, ↓reduceIte, Nat.reduceEqDiff, Nat.reduceAdd, Bool.false_eq_true, Int.reduceToNat, decide_eq_false a1, decide_eq_false a2, decide_eq_true a3]
    exact fun _ => bad (.inr (.inr (.inl a3)))
  by_cases a4 : 16384 < m
  · simp only [go_sem, ↓reduceIte, Nat.reduceEqDiff, Nat.reduceAdd, Bool.false_eq_true, Int.reduceToNat, decide_eq_false a1, decide_eq_false a2, decide_eq_false a3, decide_eq_true a4]
    exact fun _ => bad (.inr (.inr (.inr a4)))
  clear bad
  obtain ⟨p, rfl⟩ : ∃ k : Nat, n = k := ⟨n.toNat, by omega⟩
  obtain ⟨q, rfl⟩ : ∃ k : Nat, m = k := ⟨m.toNat, by omega⟩
  rw [routeT_nat (by omega) (by omega)] at hk
  simp only [go_sem, ↓reduceIte, Nat.reduceEqDiff, Nat.reduceAdd, Bool.false_eq_true, Int.reduceToNat, decide_eq_false a1, decide_eq_false a2, decide_eq_false a3, decide_eq_false a4, gsT (H.rows_new h _)]
  refine rClamp_calls fun h2 hw2 hl2 => ?_
  have hr2 := hl2.2 _ _ (H.rows_new h ⟨some 23, 11, t.cells⟩)
  have hlt := H.row_lt hw2 hr2
  simp only [go_sem, ↓reduceIte, Nat.reduceEqDiff, Nat.reduceAdd, Bool.false_eq_true, Int.reduceToNat, hr2, av_held, av_cells, cells_len, cells_one, true_and]
  simp only [Tb.av, k_sta, hr2, k_put]
  refine ⟨rfl, rfl, Option.some_ne_none _, by simp [cells_len], ?_⟩
  have ep : putAt t.cells 0 (clampT t).cells = (clampT t).cells := by simp [putAt, Tb.cells]
  have hw3 := H.wf_set hw2 hlt ⟨some 23, 11, (clampT t).cells⟩
  have hl3 := H.le_set hw (H.le_trans hl1 hl2) (Nat.le_refl _) ⟨some 23, 11, (clampT t).cells⟩
  have hr3 := H.rows_set h2 h.next ⟨some 23, 11, (clampT t).cells⟩
  have ht := clamp_isT t
  obtain ⟨B, hB⟩ : ∃ B, B = (clampT t).base.toNat := ⟨_, rfl⟩
  obtain ⟨T, hT⟩ : ∃ T, T = (clampT t).toom.toNat := ⟨_, rfl⟩
  obtain ⟨N, hN⟩ : ∃ N, N = (clampT t).ntt.toNat := ⟨_, rfl⟩
  rw [← hB, ← hT, ← hN] at hk ht
  obtain ⟨hb, htm, hnt, ⟨b1, b2, t1, n1⟩, t2, n2⟩ := ht
  simp only [ep]
  generalize hgh : h2.set h.next ⟨some 23, 11, (clampT t).cells⟩ = h3 at *
  have g0 : h3.get h.next 0 = some (.int .i64 (B : Int)) := by rw [H.get_of hr3, ← hb]; rfl
  have g1 : h3.get h.next 1 = some (.int .i64 (T : Int)) := by rw [H.get_of hr3, ← htm]; rfl
  have g2 : h3.get h.next 2 = some (.int .i64 (N : Int)) := by rw [H.get_of hr3, ← hnt]; rfl
  have fin : ∀ r : Int, r = (routeF B T N (max p q) (min p q) : Nat) → K (.int .i64 r) h3 := fun r hr => by rw [hr]; exact hk _ hw3 hl3
  simp only [go_sem, ↓reduceIte, Nat.reduceEqDiff, Nat.reduceAdd, Bool.false_eq_true, Int.reduceToNat]
  refine cond_cut (fun ρ' h' => h' = h3 ∧ ρ' 1 = .int .i64 ((max p q : Nat) : Int) ∧ ρ' 2 = .int .i64 ((min p q : Nat) : Int) ∧ ρ' 3 = .ptr (some (h.next, 0))) ?_ ?_
  · rcases Nat.lt_or_ge p q with hpq | hpq
    · simp only [go_sem, ↓reduceIte, Nat.reduceEqDiff, Nat.reduceAdd, Bool.false_eq_true, Int.reduceToNat, ltT hpq]
      refine ⟨trivial, ?_, ?_, trivial⟩
      · rw [Nat.max_eq_right (by omega)]
      · rw [Nat.min_eq_left (by omega)]
    · simp only [go_sem, ↓reduceIte, Nat.reduceEqDiff, Nat.reduceAdd, Bool.false_eq_true, Int.reduceToNat, ltF hpq]
      refine ⟨trivial, ?_, ?_, trivial⟩
      · rw [Nat.max_eq_left hpq]
      · rw [Nat.min_eq_right hpq]
  · rintro ρ h' ⟨rfl, s1, s2, s3⟩
    have hnm : min p q ≤ max p q := by omega
    have hn1 : max p q ≤ 16384 := by omega
    clear hk
    generalize max p q = n at *
    generalize min p q = m at *
    have e1 : IntKind.i64.wrap ((n : Int) + 2) = ((n + 2 : Nat) : Int) := by rw [wI] <;> omega
    have e2 : ((n + 2 : Nat) : Int).tdiv 3 = (((n + 2) / 3 : Nat) : Int) := tdivN (b := 3)
    have e3 : IntKind.i64.wrap (((n + 2) / 3 : Nat) : Int) = (((n + 2) / 3 : Nat) : Int) := wNI (by omega)
    have e4 : IntKind.i64.wrap (2 * (m : Int)) = ((2 * m : Nat) : Int) := by rw [wI] <;> omega
    have e5 := incI (i := n) (by omega)
    have e6 := addI (a := n) (b := m) (by omega)
    have e7 : IntKind.i64.wrap (2 * (((n + 2) / 3 : Nat) : Int)) = ((2 * ((n + 2) / 3) : Nat) : Int) := by rw [wI] <;> omega
    by_cases h0 : m = 0
    · simp only [go_sem, ↓reduceIte, Nat.reduceEqDiff, Nat.reduceAdd, Bool.false_eq_true, Int.reduceToNat, s1, s2, s3, eqT (show (m : Int) = 0 by omega)]
      exact fun _ => fin 0 (by simp [routeF, h0])
    by_cases h1 : m < B
    · simp only [go_sem, ↓reduceIte, Nat.reduceEqDiff, Nat.reduceAdd, Bool.false_eq_true, Int.reduceToNat, s1, s2, s3, eqF (show (m : Int) ≠ 0 by omega), g0, ltT h1]
      exact fun _ => fin 1 (by simp [routeF, h0, h1])
    by_cases h2 : 2 * m ≤ n + 1
    · simp only [go_sem, ↓reduceIte, Nat.reduceEqDiff, Nat.reduceAdd, Bool.false_eq_true, Int.reduceToNat, s1, s2, s3, eqF (show (m : Int) ≠ 0 by omega), g0, ltF (show B ≤ m by omega), e4, e5, leT h2]
      exact fun _ => fin 2 (by simp [routeF, h0, h1, h2])
    by_cases h3 : m < T
    · simp only [go_sem, ↓reduceIte, Nat.reduceEqDiff, Nat.reduceAdd, Bool.false_eq_true, Int.reduceToNat, s1, s2, s3, eqF (show (m : Int) ≠ 0 by omega), g0, g1, ltF (show B ≤ m by omega), e4, e5, leF (show n + 1 < 2 * m by omega), ltT h3]
      exact fun _ => fin 3 (by simp [routeF, h0, h1, h2, h3])
    by_cases h5 : N ≤ n + m
    · simp only [go_sem, ↓reduceIte, Nat.reduceEqDiff, Nat.reduceAdd, Bool.false_eq_true, Int.reduceToNat, s1, s2, s3, eqF (show (m : Int) ≠ 0 by omega), g0, g1, g2, ltF (show B ≤ m by omega), e4, e5, leF (show n + 1 < 2 * m by omega), ltF (show T ≤ m by omega), e6, leT h5]
      exact fun _ => fin 5 (by simp [routeF, h0, h1, h2, h3, h5])
    by_cases h4 : 2 * ((n + 2) / 3) < m
    · simp only [go_sem, ↓reduceIte, Nat.reduceEqDiff, Nat.reduceAdd, Bool.false_eq_true, Int.reduceToNat, s1, s2, s3, eqF (show (m : Int) ≠ 0 by omega), g0, g1, g2, ltF (show B ≤ m by omega), e4, e5, leF (show n + 1 < 2 * m by omega), ltF (show T ≤ m by omega), e6, leF (show n + m < N by omega), e1, e2, e3, e7, ltT h4]
      exact ⟨by omega, fun _ => fin 4 (by simp [routeF, h0, h1, h2, h3, h5, h4])⟩
    · simp only [go_sem, ↓reduceIte, Nat.reduceEqDiff, Nat.reduceAdd, Bool.false_eq_true, Int.reduceToNat, s1, s2, s3, eqF (show (m : Int) ≠ 0 by omega), g0, g1, g2, ltF (show B ≤ m by omega), e4, e5, leF (show n + 1 < 2 * m by omega), ltF (show T ≤ m by omega), e6, leF (show n + m < N by omega), e1, e2, e3, e7, ltF (show m ≤ 2 * ((n + 2) / 3) by omega)]
      exact ⟨by omega, fun _ => fin 3 (by simp [routeF, h0, h1, h2, h3, h5, h4])⟩
theorem rTransform_calls {n m w : Int} {h : H} {K : AV → H → Prop} (hk : K (.int .i64 (transZ n m w)) h) : ACalls Try.prog 41 [.int .i64 n, .int .i64 m, .int .i64 w] h K := by
  refine in_ref04_Transform (by simp) fun hw => ?_
  unfold c_ref04_Transform
  by_cases a1 : n < 1
  · rw [bad_trans (.inl a1)] at hk
    simp only [go_sem, ↓reduceIte, Nat.reduceEqDiff, Nat.reduceAdd, Bool.false_eq_true, Int.reduceToNat, decide_eq_true a1]
    exact fun _ => hk
  by_cases a2 : m < 1
  · rw [bad_trans (.inr (.inl a2))] at hk
    simp only [go_sem, ↓reduceIte, Nat.reduceEqDiff, Nat.reduceAdd, Bool.false_eq_true, Int.reduceToNat, decide_eq_false a1, decide_eq_true a2]
    exact fun _ => hk
  by_cases a3 : w < 0
  · rw [bad_trans (.inr (.inr (.inl a3)))] at hk
    simp only [go_sem, ↓reduceIte, Nat.reduceEqDiff, Nat.reduceAdd, Bool.false_eq_true, Int.reduceToNat, decide_eq_false a1, decide_eq_false a2, decide_eq_true a3]
    exact fun _ => hk
  by_cases a4 : 16384 < n
  · rw [bad_trans (.inr (.inr (.inr (.inl a4))))] at hk
    simp only [go_sem, ↓reduceIte, Nat.reduceEqDiff, Nat.reduceAdd, Bool.false_eq_true, Int.reduceToNat, decide_eq_false a1, decide_eq_false a2, decide_eq_false a3, decide_eq_true a4]
    exact fun _ => hk
  by_cases a5 : 16384 < m
  · rw [bad_trans (.inr (.inr (.inr (.inr (.inl a5)))))] at hk
    simp only [go_sem, ↓reduceIte, Nat.reduceEqDiff, Nat.reduceAdd, Bool.false_eq_true, Int.reduceToNat, decide_eq_false a1, decide_eq_false a2, decide_eq_false a3, decide_eq_false a4, decide_eq_true a5]
    exact fun _ => hk
  by_cases a6 : 3 < w
  · rw [bad_trans (.inr (.inr (.inr (.inr (.inr a6)))))] at hk
    simp only [go_sem, ↓reduceIte, Nat.reduceEqDiff, Nat.reduceAdd, Bool.false_eq_true, Int.reduceToNat, decide_eq_false a1, decide_eq_false a2, decide_eq_false a3, decide_eq_false a4, decide_eq_false a5, decide_eq_true a6]
    exact fun _ => hk
  obtain ⟨n, rfl⟩ : ∃ k : Nat, n = k := ⟨n.toNat, by omega⟩
  obtain ⟨m, rfl⟩ : ∃ k : Nat, m = k := ⟨m.toNat, by omega⟩
  obtain ⟨w, rfl⟩ : ∃ k : Nat, w = k := ⟨w.toNat, by omega⟩
  rw [transZ_nat (by omega) (by omega) (by omega) (by omega) (by omega)] at hk
  have e1 := addI (a := n) (b := m) (by omega)
  simp only [go_sem, ↓reduceIte, Nat.reduceEqDiff, Nat.reduceAdd, Bool.false_eq_true, Int.reduceToNat, decide_eq_false a1, decide_eq_false a2, decide_eq_false a3, decide_eq_false a4, decide_eq_false a5, decide_eq_false a6]
  refine for_rule (fun l ρ h' => l ≤ 16 ∧ h' = h ∧ ρ 0 = .int .i64 (n : Int) ∧ ρ 1 = .int .i64 (m : Int) ∧ ρ 2 = .int .i64 (w : Int) ∧ ρ 8 = .int .i64 (l : Int) ∧ ρ 7 = .int .i64 ((2 ^ l : Nat) : Int) ∧ (l = 0 ∨ 2 ^ (l - 1) < n + m)) 16 ⟨by omega, rfl, rfl, rfl, rfl, rfl, rfl, .inl rfl⟩ (fun i ρ h hI => hI.1) ?_
  rintro l ρ h' ⟨hl, rfl, h0, h1, h2, h8, h7, hlo⟩
  rcases Nat.lt_or_ge (2 ^ l) (n + m) with hc | hc
  · have hl15 : l < 16 := by
      rcases Nat.lt_or_ge l 16 with hh | hh
      · exact hh
      · have : 2 ^ 16 ≤ 2 ^ l := Nat.pow_le_pow_right (by omega) hh
        omega
    have e2 : IntKind.i64.wrap (2 * ((2 ^ l : Nat) : Int)) = ((2 ^ (l + 1) : Nat) : Int) := by
      rw [Nat.pow_succ]
      generalize 2 ^ l = S at *
      rw [wI] <;> omega
    simp only [go_sem, ↓reduceIte, Nat.reduceEqDiff, Nat.reduceAdd, Bool.false_eq_true, Int.reduceToNat, h0, h1, h2, h7, h8, e1, ltT hc, e2, incI (i := l) (by omega)]
    exact ⟨by omega, trivial, trivial, trivial, trivial, trivial, trivial, .inr (by rw [Nat.add_sub_cancel]; exact hc)⟩
  · have hL : BL (n + m - 1) l := ⟨by omega, by rcases hlo with hh | hh; exact .inl hh; exact .inr (by omega)⟩
    have hLe := BL.uniq (blen_spec (n + m - 1)) hL
    obtain ⟨l1, l2, l3⟩ := size_le hL (by omega) (by omega) (by omega) (by omega)
    unfold transF at hk
    rw [hLe] at hk
    unfold transC at hk
    have q0 : w * (2 ^ l / 2) ≤ 3 * 16384 := Nat.mul_le_mul (by omega) (by omega)
    have q1 : w * (2 ^ l / 2) * l ≤ 3 * 16384 * 15 := Nat.mul_le_mul q0 l1
    generalize 2 ^ l = S at *
    have e6 : ((S : Int)).tdiv 2 = ((S / 2 : Nat) : Int) := tdivN (b := 2)
    have e7 : IntKind.i64.wrap ((S / 2 : Nat) : Int) = ((S / 2 : Nat) : Int) := wNI (by omega)
    have e8 := mulI (a := w) (b := S / 2) (by omega)
    have e9 := mulI (a := w * (S / 2)) (b := l) (by omega)
    have e10 : IntKind.i64.wrap (2 * (S : Int)) = ((2 * S : Nat) : Int) := by rw [wI] <;> omega
    have e11 := addI (a := w * (S / 2) * l) (b := 2 * S) (by omega)
    have e12 : IntKind.i64.wrap (3 * ((w * (S / 2) * l + 2 * S : Nat) : Int)) = ((3 * (w * (S / 2) * l + 2 * S) : Nat) : Int) := by rw [wI] <;> omega
    have e13 : IntKind.i64.wrap (6 * (S : Int)) = ((6 * S : Nat) : Int) := by rw [wI] <;> omega
    have e14 := addI (a := 3 * (w * (S / 2) * l + 2 * S)) (b := 6 * S) (by omega)
    simp only [go_sem, ↓reduceIte, Nat.reduceEqDiff, Nat.reduceAdd, Bool.false_eq_true, Int.reduceToNat, h0, h1, h2, h7, h8, e1, ltF hc, e6, e7, e8, e9, e10, e11, e12, e13, e14]
    exact ⟨by omega, fun _ => hk⟩
theorem rCost_calls {t : Tb} : ∀ (f p q : Nat) (h : H) (K : AV → H → Prop), max p q < f → max p q ≤ 16384 → (∀ h', h'.wf → h.le h' → K (.int .i64 (costF (clampT t).base.toNat (clampT t).toom.toNat (clampT t).ntt.toNat f (max p q) (min p q) : Nat)) h') →
    ACalls Try.prog 38 [t.av, .int .i64 (p : Int), .int .i64 (q : Int)] h K := by
  have ok := (clamp_isT t).ok
  have hRT : ∀ {n m : Nat}, m ≤ n → n ≤ 16384 → routeT t n m = routeF (clampT t).base.toNat (clampT t).toom.toNat (clampT t).ntt.toNat n m := fun h1 h2 => by rw [routeT_nat h2 (by omega), Nat.max_eq_left h1, Nat.min_eq_right h1]
  generalize (clampT t).base.toNat = B at *
  generalize (clampT t).toom.toNat = T at *
  generalize (clampT t).ntt.toNat = N at *
  intro f
  induction f with
  | zero => intro n m h K hf; omega
  | succ f ih =>
    intro p q h K hf hn hk
    refine in_ref04_Cost (by simp) fun hw => ?_
    unfold c_ref04_Cost
    have hmn : min p q ≤ max p q := by omega
    have hw0 := H.wf_new hw ⟨some 23, 11, t.cells⟩
    have hl0 := H.le_new hw (H.le_refl h) ⟨some 23, 11, t.cells⟩
    have hr0 := H.rows_new h ⟨some 23, 11, t.cells⟩
    simp only [go_sem, ↓reduceIte, Nat.reduceEqDiff, Nat.reduceAdd, Bool.false_eq_true, Int.reduceToNat, av_held, av_cells, cells_len, true_and]
    generalize hg : h.new ⟨some 23, 11, t.cells⟩ = h00 at *
    refine cond_cut (fun ρ' h' => h' = h00 ∧ ρ' 1 = .int .i64 ((max p q : Nat) : Int) ∧ ρ' 2 = .int .i64 ((min p q : Nat) : Int) ∧ ρ' 3 = .ptr (some (h.next, 0))) ?_ ?_
    · rcases Nat.lt_or_ge p q with hpq | hpq
      · simp only [go_sem, ↓reduceIte, Nat.reduceEqDiff, Nat.reduceAdd, Bool.false_eq_true, Int.reduceToNat, ltT hpq]
        refine ⟨trivial, ?_, ?_, trivial⟩
        · rw [Nat.max_eq_right (by omega)]
        · rw [Nat.min_eq_left (by omega)]
      · simp only [go_sem, ↓reduceIte, Nat.reduceEqDiff, Nat.reduceAdd, Bool.false_eq_true, Int.reduceToNat, ltF hpq]
        refine ⟨trivial, ?_, ?_, trivial⟩
        · rw [Nat.max_eq_left hpq]
        · rw [Nat.min_eq_right hpq]
    rintro ρ h' ⟨rfl, s1, s2, s3⟩
    generalize max p q = n at *
    generalize min p q = m at *
    simp only [go_sem, ↓reduceIte, Nat.reduceEqDiff, Nat.reduceAdd, Bool.false_eq_true, Int.reduceToNat, s1, s2, s3, gsT hr0]
    have fit := cost_fit ok hmn hf hn
    have hb := ok.b1
    refine rRoute_calls fun h1 hw1 hl1 => ?_
    have hle := (H.le_trans hl0 hl1)
    have hr1 := hl1.2 _ _ hr0
    rw [hRT hmn hn]
    have e1 := incI (i := n) (by omega)
    have e2 : ((n + 1 : Nat) : Int).tdiv 2 = (((n + 1) / 2 : Nat) : Int) := tdivN (b := 2)
    have e3 : IntKind.i64.wrap (((n + 1) / 2 : Nat) : Int) = (((n + 1) / 2 : Nat) : Int) := wNI (by omega)
    have e4 : IntKind.i64.wrap ((n : Int) + 2) = ((n + 2 : Nat) : Int) := by rw [wI] <;> omega
    have e5 : ((n + 2 : Nat) : Int).tdiv 3 = (((n + 2) / 3 : Nat) : Int) := tdivN (b := 3)
    have e6 : IntKind.i64.wrap (((n + 2) / 3 : Nat) : Int) = (((n + 2) / 3 : Nat) : Int) := wNI (by omega)
    obtain ⟨r, hr⟩ : ∃ r : Int, r = ((routeF B T N n m : Nat) : Int) := ⟨_, rfl⟩
    rw [← hr]
    rcases route_cases (B := B) (T := T) (N := N) n m with ⟨e, h0⟩ | ⟨e, h0, h1⟩ | ⟨e, h0, h1, h2⟩ | ⟨e, h0, h1, h2, h3⟩ | ⟨e, h0, h1, h2, h3, h4, h5⟩ | ⟨e, h0, h1, h2, h3, h4⟩
    · have : r = 0 := by omega
      subst this
      rw [cost_0 e] at hk
      simp only [go_sem, ↓reduceIte, Nat.reduceEqDiff, Nat.reduceAdd, Bool.false_eq_true, Int.reduceToNat, Int.reduceBEq]
      exact fun _ => hk _ hw1 hle
    · have : r = 1 := by omega
      subst this
      rw [cost_1 e] at hk fit
      simp only [go_sem, ↓reduceIte, Nat.reduceEqDiff, Nat.reduceAdd, Bool.false_eq_true, Int.reduceToNat, Int.reduceBEq, s1, s2, s3, mulI (a := n) (b := m) (by omega)]
      exact fun _ => hk _ hw1 hle
    · have : r = 2 := by omega
      subst this
      rw [cost_2 e] at hk fit
      have e7 : IntKind.i64.wrap ((n / m : Nat) : Int) = ((n / m : Nat) : Int) := wNI (by have := Nat.div_le_self n m; omega)
      have hlt := Nat.mod_lt n h0
      simp only [go_sem, ↓reduceIte, Nat.reduceEqDiff, Nat.reduceAdd, Bool.false_eq_true, Int.reduceToNat, Int.reduceBEq, s1, s2, s3, tmodN, tdivN, gsT hr1, e7]
      refine ⟨by omega, ?_⟩
      refine ih m m _ _ (by omega) (by omega) fun h2 hw2 hl2 => ?_
      have hr2 := hl2.2 _ _ hr1
      rw [Nat.max_self, Nat.min_self]
      simp only [go_sem, ↓reduceIte, Nat.reduceEqDiff, Nat.reduceAdd, Bool.false_eq_true, Int.reduceToNat, s1, s2, s3, tmodN, mulI (a := n / m) (b := costF B T N f m m) (by omega)]
      refine ⟨by omega, ?_⟩
      rcases Nat.eq_zero_or_pos (n % m) with hz | hz
      · have ez : costF B T N f m (n % m) = 0 := cost_0 (by unfold routeF; rw [if_pos hz])
        rw [ez, Nat.add_zero] at hk
        simp only [go_sem, ↓reduceIte, Nat.reduceEqDiff, Nat.reduceAdd, Bool.false_eq_true, Int.reduceToNat, hz, decide_eq_false (show ¬ (0 : Int) < ((0 : Nat) : Int) by omega)]
        exact fun _ => hk _ hw2 (H.le_trans hle hl2)
      · simp only [go_sem, ↓reduceIte, Nat.reduceEqDiff, Nat.reduceAdd, Bool.false_eq_true, Int.reduceToNat, decide_eq_true (show (0 : Int) < ((n % m : Nat) : Int) by omega), s1, s2, s3, gsT hr2, tmodN]
        refine ⟨by omega, ?_⟩
        refine ih m (n % m) _ _ (by omega) (by omega) fun h3 hw3 hl3 => ?_
        rw [Nat.max_eq_left (by omega), Nat.min_eq_right (by omega)]
        simp only [go_sem, ↓reduceIte, Nat.reduceEqDiff, Nat.reduceAdd, Bool.false_eq_true, Int.reduceToNat, addI (a := n / m * costF B T N f m m) (b := costF B T N f m (n % m)) (by omega)]
        exact fun _ => hk _ hw3 (H.le_trans hle (H.le_trans hl2 hl3))
    · have : r = 3 := by omega
      subst this
      rw [cost_3 e] at hk fit
      have a1 := subI (a := n) (b := (n + 1) / 2) (by omega) (by omega)
      have a2 := subI (a := m) (b := (n + 1) / 2) (by omega) (by omega)
      have a3 := incI (i := (n + 1) / 2) (by omega)
      simp only [go_sem, ↓reduceIte, Nat.reduceEqDiff, Nat.reduceAdd, Bool.false_eq_true, Int.reduceToNat, Int.reduceBEq, s1, s2, s3, gsT hr1, e1, e2, e3, a1, a2, a3]
      refine ⟨by omega, ?_⟩
      refine ih ((n + 1) / 2) ((n + 1) / 2) _ _ (by omega) (by omega) fun h2 hw2 hl2 => ?_
      have hr2 := hl2.2 _ _ hr1
      rw [Nat.max_self, Nat.min_self]
      simp only [go_sem, ↓reduceIte, Nat.reduceEqDiff, Nat.reduceAdd, Bool.false_eq_true, Int.reduceToNat, s1, s2, s3, gsT hr2, and_true, true_and]
      refine ih (n - (n + 1) / 2) (m - (n + 1) / 2) _ _ (by omega) (by omega) fun h3 hw3 hl3 => ?_
      have hr3 := hl3.2 _ _ hr2
      rw [Nat.max_eq_left (show m - (n + 1) / 2 ≤ n - (n + 1) / 2 by omega), Nat.min_eq_right (show m - (n + 1) / 2 ≤ n - (n + 1) / 2 by omega)]
      simp only [go_sem, ↓reduceIte, Nat.reduceEqDiff, Nat.reduceAdd, Bool.false_eq_true, Int.reduceToNat, s1, s2, s3, gsT hr3, and_true, true_and, addI (a := costF B T N f ((n + 1) / 2) ((n + 1) / 2)) (b := costF B T N f (n - (n + 1) / 2) (m - (n + 1) / 2)) (by omega)]
      refine ih ((n + 1) / 2 + 1) ((n + 1) / 2 + 1) _ _ (by omega) (by omega) fun h4 hw4 hl4 => ?_
      rw [Nat.max_self, Nat.min_self]
      simp only [go_sem, ↓reduceIte, Nat.reduceEqDiff, Nat.reduceAdd, Bool.false_eq_true, Int.reduceToNat, addI (a := costF B T N f ((n + 1) / 2) ((n + 1) / 2) + costF B T N f (n - (n + 1) / 2) (m - (n + 1) / 2)) (b := costF B T N f ((n + 1) / 2 + 1) ((n + 1) / 2 + 1)) (by omega)]
      exact fun _ => hk _ hw4 (H.le_trans hle (H.le_trans hl2 (H.le_trans hl3 hl4)))
    · have : r = 4 := by omega
      subst this
      rw [cost_4 e] at hk fit
      have a0 : IntKind.i64.wrap (2 * (((n + 2) / 3 : Nat) : Int)) = ((2 * ((n + 2) / 3) : Nat) : Int) := by rw [wI] <;> omega
      have a1 := subI (a := n) (b := 2 * ((n + 2) / 3)) (by omega) (by omega)
      have a2 := subI (a := m) (b := 2 * ((n + 2) / 3)) (by omega) (by omega)
      have a3 := incI (i := (n + 2) / 3) (by omega)
      simp only [go_sem, ↓reduceIte, Nat.reduceEqDiff, Nat.reduceAdd, Bool.false_eq_true, Int.reduceToNat, Int.reduceBEq, s1, s2, s3, gsT hr1, e4, e5, e6, a0, a1, a2, a3]
      refine ⟨by omega, ?_⟩
      refine ih ((n + 2) / 3) ((n + 2) / 3) _ _ (by omega) (by omega) fun h2 hw2 hl2 => ?_
      have hr2 := hl2.2 _ _ hr1
      rw [Nat.max_self, Nat.min_self]
      simp only [go_sem, ↓reduceIte, Nat.reduceEqDiff, Nat.reduceAdd, Bool.false_eq_true, Int.reduceToNat, s1, s2, s3, gsT hr2, and_true, true_and]
      refine ih ((n + 2) / 3 + 1) ((n + 2) / 3 + 1) _ _ (by omega) (by omega) fun h3 hw3 hl3 => ?_
      have hr3 := hl3.2 _ _ hr2
      rw [Nat.max_self, Nat.min_self]
      have a4 : IntKind.i64.wrap (3 * ((costF B T N f ((n + 2) / 3 + 1) ((n + 2) / 3 + 1) : Nat) : Int)) = ((3 * costF B T N f ((n + 2) / 3 + 1) ((n + 2) / 3 + 1) : Nat) : Int) := by rw [wI] <;> omega
      simp only [go_sem, ↓reduceIte, Nat.reduceEqDiff, Nat.reduceAdd, Bool.false_eq_true, Int.reduceToNat, s1, s2, s3, gsT hr3, and_true, true_and, a4, addI (a := costF B T N f ((n + 2) / 3) ((n + 2) / 3)) (b := 3 * costF B T N f ((n + 2) / 3 + 1) ((n + 2) / 3 + 1)) (by omega)]
      refine ih (n - 2 * ((n + 2) / 3)) (m - 2 * ((n + 2) / 3)) _ _ (by omega) (by omega) fun h4 hw4 hl4 => ?_
      rw [Nat.max_eq_left (show m - 2 * ((n + 2) / 3) ≤ n - 2 * ((n + 2) / 3) by omega), Nat.min_eq_right (show m - 2 * ((n + 2) / 3) ≤ n - 2 * ((n + 2) / 3) by omega)]
      simp only [go_sem, ↓reduceIte, Nat.reduceEqDiff, Nat.reduceAdd, Bool.false_eq_true, Int.reduceToNat, addI (a := costF B T N f ((n + 2) / 3) ((n + 2) / 3) + 3 * costF B T N f ((n + 2) / 3 + 1) ((n + 2) / 3 + 1)) (b := costF B T N f (n - 2 * ((n + 2) / 3)) (m - 2 * ((n + 2) / 3))) (by omega)]
      exact fun _ => hk _ hw4 (H.le_trans hle (H.le_trans hl2 (H.le_trans hl3 hl4)))
    · have : r = 5 := by omega
      subst this
      rw [cost_5 e] at hk
      simp only [go_sem, ↓reduceIte, Nat.reduceEqDiff, Nat.reduceAdd, Bool.false_eq_true, Int.reduceToNat, Int.reduceBEq, s1, s2, s3]
      refine rTransform_calls ?_
      rw [show (3 : Int) = ((3 : Nat) : Int) from rfl, transZ_nat (by omega) (by omega) (by omega) (by omega) (by omega)]
      simp only [go_sem, ↓reduceIte, Nat.reduceEqDiff, Nat.reduceAdd, Bool.false_eq_true, Int.reduceToNat]
      exact fun _ => hk _ hw1 hle
theorem rSquare_calls {t : Tb} : ∀ (f n : Nat) (h : H) (K : AV → H → Prop), n < f → n ≤ 16384 → (∀ h', h'.wf → h.le h' → K (.int .i64 (sqF (clampT t).base.toNat (clampT t).toom.toNat (clampT t).ntt.toNat f n : Nat)) h') →
    ACalls Try.prog 40 [t.av, .int .i64 (n : Int)] h K := by
  have ok := (clamp_isT t).ok
  have hRT : ∀ {n m : Nat}, m ≤ n → n ≤ 16384 → routeT t n m = routeF (clampT t).base.toNat (clampT t).toom.toNat (clampT t).ntt.toNat n m := fun h1 h2 => by rw [routeT_nat h2 (by omega), Nat.max_eq_left h1, Nat.min_eq_right h1]
  generalize (clampT t).base.toNat = B at *
  generalize (clampT t).toom.toNat = T at *
  generalize (clampT t).ntt.toNat = N at *
  intro f
  induction f with
  | zero => intro n h K hf; omega
  | succ f ih =>
    intro n h K hf hn hk
    refine in_ref04_Square (by simp) fun hw => ?_
    unfold c_ref04_Square
    have hl0 := H.le_new hw (H.le_refl h) ⟨some 23, 11, t.cells⟩
    have hr0 := H.rows_new h ⟨some 23, 11, t.cells⟩
    simp only [go_sem, ↓reduceIte, Nat.reduceEqDiff, Nat.reduceAdd, Bool.false_eq_true, Int.reduceToNat, av_held, av_cells, cells_len, true_and, gsT hr0]
    have fit := Nat.lt_of_le_of_lt (sq_bound ok (f + 1) n hf) (cost_fit ok (Nat.le_refl n) hf hn)
    have hb := ok.b1
    refine rRoute_calls fun h1 hw1 hl1 => ?_
    have hle := (H.le_trans hl0 hl1)
    have hr1 := hl1.2 _ _ hr0
    rw [hRT (Nat.le_refl n) hn]
    have e1 := incI (i := n) (by omega)
    have e2 : ((n + 1 : Nat) : Int).tdiv 2 = (((n + 1) / 2 : Nat) : Int) := tdivN (b := 2)
    have e3 : IntKind.i64.wrap (((n + 1) / 2 : Nat) : Int) = (((n + 1) / 2 : Nat) : Int) := wNI (by omega)
    have e4 : IntKind.i64.wrap ((n : Int) + 2) = ((n + 2 : Nat) : Int) := by rw [wI] <;> omega
    have e5 : ((n + 2 : Nat) : Int).tdiv 3 = (((n + 2) / 3 : Nat) : Int) := tdivN (b := 3)
    have e6 : IntKind.i64.wrap (((n + 2) / 3 : Nat) : Int) = (((n + 2) / 3 : Nat) : Int) := wNI (by omega)
    obtain ⟨r, hr⟩ : ∃ r : Int, r = ((routeF B T N n n : Nat) : Int) := ⟨_, rfl⟩
    rw [← hr]
    rcases route_cases (B := B) (T := T) (N := N) n n with ⟨e, h0⟩ | ⟨e, h0, h1⟩ | ⟨e, h0, h1, h2⟩ | ⟨e, h0, h1, h2, h3⟩ | ⟨e, h0, h1, h2, h3, h4, h5⟩ | ⟨e, h0, h1, h2, h3, h4⟩
    · have : r = 0 := by omega
      subst this
      rw [sq_0 e] at hk
      simp only [go_sem, ↓reduceIte, Nat.reduceEqDiff, Nat.reduceAdd, Bool.false_eq_true, Int.reduceToNat, Int.reduceBEq]
      exact fun _ => hk _ hw1 hle
    · have : r = 1 := by omega
      subst this
      rw [sq_1 e] at hk fit
      have q : n * (n + 1) ≤ 16384 * 16385 := Nat.mul_le_mul hn (by omega)
      have e7 : ((n * (n + 1) : Nat) : Int).tdiv 2 = ((n * (n + 1) / 2 : Nat) : Int) := tdivN (b := 2)
      simp only [go_sem, ↓reduceIte, Nat.reduceEqDiff, Nat.reduceAdd, Bool.false_eq_true, Int.reduceToNat, Int.reduceBEq, mulI (a := n) (b := n + 1) (by omega), e1, e7, wNI (n := n * (n + 1) / 2) (by omega)]
      exact ⟨by omega, fun _ => hk _ hw1 hle⟩
    · omega
    · have : r = 3 := by omega
      subst this
      rw [sq_3 e] at hk fit
      have a1 := subI (a := n) (b := (n + 1) / 2) (by omega) (by omega)
      have a3 := incI (i := (n + 1) / 2) (by omega)
      simp only [go_sem, ↓reduceIte, Nat.reduceEqDiff, Nat.reduceAdd, Bool.false_eq_true, Int.reduceToNat, Int.reduceBEq, gsT hr1, e1, e2, e3, a1, a3]
      refine ⟨by omega, ?_⟩
      refine ih ((n + 1) / 2) _ _ (by omega) (by omega) fun h2 hw2 hl2 => ?_
      have hr2 := hl2.2 _ _ hr1
      simp only [go_sem, ↓reduceIte, Nat.reduceEqDiff, Nat.reduceAdd, Bool.false_eq_true, Int.reduceToNat, gsT hr2, and_true, true_and]
      refine ih (n - (n + 1) / 2) _ _ (by omega) (by omega) fun h3 hw3 hl3 => ?_
      have hr3 := hl3.2 _ _ hr2
      simp only [go_sem, ↓reduceIte, Nat.reduceEqDiff, Nat.reduceAdd, Bool.false_eq_true, Int.reduceToNat, gsT hr3, and_true, true_and, addI (a := sqF B T N f ((n + 1) / 2)) (b := sqF B T N f (n - (n + 1) / 2)) (by omega)]
      refine ih ((n + 1) / 2 + 1) _ _ (by omega) (by omega) fun h4 hw4 hl4 => ?_
      simp only [go_sem, ↓reduceIte, Nat.reduceEqDiff, Nat.reduceAdd, Bool.false_eq_true, Int.reduceToNat, addI (a := sqF B T N f ((n + 1) / 2) + sqF B T N f (n - (n + 1) / 2)) (b := sqF B T N f ((n + 1) / 2 + 1)) (by omega)]
      exact fun _ => hk _ hw4 (H.le_trans hle (H.le_trans hl2 (H.le_trans hl3 hl4)))
    · have : r = 4 := by omega
      subst this
      rw [sq_4 e] at hk fit
      have a0 : IntKind.i64.wrap (2 * (((n + 2) / 3 : Nat) : Int)) = ((2 * ((n + 2) / 3) : Nat) : Int) := by rw [wI] <;> omega
      have a1 := subI (a := n) (b := 2 * ((n + 2) / 3)) (by omega) (by omega)
      have a3 := incI (i := (n + 2) / 3) (by omega)
      simp only [go_sem, ↓reduceIte, Nat.reduceEqDiff, Nat.reduceAdd, Bool.false_eq_true, Int.reduceToNat, Int.reduceBEq, gsT hr1, e4, e5, e6, a0, a1, a3]
      refine ⟨by omega, ?_⟩
      refine ih ((n + 2) / 3) _ _ (by omega) (by omega) fun h2 hw2 hl2 => ?_
      have hr2 := hl2.2 _ _ hr1
      simp only [go_sem, ↓reduceIte, Nat.reduceEqDiff, Nat.reduceAdd, Bool.false_eq_true, Int.reduceToNat, gsT hr2, and_true, true_and]
      refine ih ((n + 2) / 3 + 1) _ _ (by omega) (by omega) fun h3 hw3 hl3 => ?_
      have hr3 := hl3.2 _ _ hr2
      have a4 : IntKind.i64.wrap (3 * ((sqF B T N f ((n + 2) / 3 + 1) : Nat) : Int)) = ((3 * sqF B T N f ((n + 2) / 3 + 1) : Nat) : Int) := by rw [wI] <;> omega
      simp only [go_sem, ↓reduceIte, Nat.reduceEqDiff, Nat.reduceAdd, Bool.false_eq_true, Int.reduceToNat, gsT hr3, and_true, true_and, a4, addI (a := sqF B T N f ((n + 2) / 3)) (b := 3 * sqF B T N f ((n + 2) / 3 + 1)) (by omega)]
      refine ih (n - 2 * ((n + 2) / 3)) _ _ (by omega) (by omega) fun h4 hw4 hl4 => ?_
      simp only [go_sem, ↓reduceIte, Nat.reduceEqDiff, Nat.reduceAdd, Bool.false_eq_true, Int.reduceToNat, addI (a := sqF B T N f ((n + 2) / 3) + 3 * sqF B T N f ((n + 2) / 3 + 1)) (b := sqF B T N f (n - 2 * ((n + 2) / 3))) (by omega)]
      exact fun _ => hk _ hw4 (H.le_trans hle (H.le_trans hl2 (H.le_trans hl3 hl4)))
    · have : r = 5 := by omega
      subst this
      rw [sq_5 e] at hk
      simp only [go_sem, ↓reduceIte, Nat.reduceEqDiff, Nat.reduceAdd, Bool.false_eq_true, Int.reduceToNat, Int.reduceBEq]
      refine rTransform_calls ?_
      rw [show (2 : Int) = ((2 : Nat) : Int) from rfl, transZ_nat (by omega) (by omega) (by omega) (by omega) (by omega)]
      simp only [go_sem, ↓reduceIte, Nat.reduceEqDiff, Nat.reduceAdd, Bool.false_eq_true, Int.reduceToNat]
      exact fun _ => hk _ hw1 hle
end Ab
end Go.Proofs.Yteoagnggnekfiaa
