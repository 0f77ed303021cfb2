/- What the statements TableKara and TablePieces compute. No condition. -/
import Derived.Test.YteoagnggnekfiaaH6
namespace Go.Proofs.Yteoagnggnekfiaa
namespace Ab
open Go Go.RowKit
set_option linter.unusedSimpArgs false
set_option linter.unusedVariables false
attribute [local go_sem ↓] x_mv x_pick x_bin x_beq x_peq x_seq x_cat x_aeq x_idxS x_un x_cvI x_idx x_idxA x_fld x_ld x_st x_nn x_prt x_slc x_mk x_bsl x_bld x_box x_alloc x_len x_capo x_mnx x_app x_cpy x_mkf x_ext x_call x_callV x_bad s_none s_some s_nil s_cons s_chks w_skip w_reg w_seq w_cond w_block w_exit w_ret t_normal t_exit t_ret b_normal b_ret b_exit n_normal n_exit n_ret p_normal p_ret f_nil f_t f_c k_ops k_chk k_fin
attribute [local go_sem] e_t e_c e_f u_some u_none u_at env_at k_v k_pick k_add k_sub k_mul k_quo k_rem k_and k_or k_xor k_shl k_shr k_eql k_neq k_lss k_leq k_gtr k_geq k_beq k_peqn k_peqs k_neg k_not k_com k_cvI k_idxS k_idx k_idxA k_idxG k_ldG k_gld k_seq k_cat k_aeq k_eqs k_fld k_ld1 k_ldn k_get k_gets k_sti k_stb k_stp k_sts k_stf k_sta k_put k_nn k_prt1 k_prtn k_slc_a k_slc_b k_slc_c k_mk k_agg k_bsl k_box k_len k_lenS k_cap k_max k_min k_ext k_callV k_true k_false k_gtt k_gtf k_gft k_gsk k_gff k_lit1i k_lit2i k_lit3i k_c0 k_c1 k_ck List.getElem?_cons_zero List.getElem?_cons_succ List.getElem?_nil Option.getD_some Option.getD_none tupOf List.map_cons List.map_nil Option.map_some Option.map_none List.nil_append List.cons_append List.append_nil Nat.mul_one Int.toNat_natCast Nat.zero_add
theorem costT_at {t : Tb} {n m f : Nat} (hm : m ≤ n) (hf : n < f) (hn : n < 20000) : costF (clampT t).base.toNat (clampT t).toom.toNat (clampT t).ntt.toNat f n m = costT t n m := by
  unfold costT
  rw [Nat.max_eq_left hm, Nat.min_eq_right hm]
  exact cost_same (clamp_isT t).ok hm hf hn
theorem costT_succ {t : Tb} {n m : Nat} (hm : m ≤ n) : costT t n m = costF (clampT t).base.toNat (clampT t).toom.toNat (clampT t).ntt.toNat (19999 + 1) n m := by
  unfold costT
  rw [Nat.max_eq_left hm, Nat.min_eq_right hm]
theorem routeT_at {t : Tb} {n m : Nat} (hm : m ≤ n) (hn : n ≤ 16384) : routeT t n m = routeF (clampT t).base.toNat (clampT t).toom.toNat (clampT t).ntt.toNat n m := by
  rw [routeT_nat hn (by omega), Nat.max_eq_left hm, Nat.min_eq_right hm]
theorem costT_2 {t : Tb} {n m : Nat} (hm : m ≤ n) (hn : n ≤ 16384) (h0 : 0 < m) (e : routeT t n m = 2) : costT t n m = n / m * costT t m m + costT t (n % m) m := by
  rw [routeT_at hm hn] at e
  have hlt := Nat.mod_lt n h0
  rw [costT_succ hm, cost_2 e, costT_at (Nat.le_refl m) (by omega) (by omega), costT_at (Nat.le_of_lt hlt) (by omega) (by omega), costT_comm (n := m) (m := n % m)]
theorem costT_3 {t : Tb} {n m : Nat} (hm : m ≤ n) (hn : n ≤ 16384) (h4 : 4 ≤ m) (e : routeT t n m = 3) : costT t n m = costT t ((n + 1) / 2) ((n + 1) / 2) + costT t (n - (n + 1) / 2) (m - (n + 1) / 2) + costT t ((n + 1) / 2 + 1) ((n + 1) / 2 + 1) := by
  rw [routeT_at hm hn] at e
  rw [costT_succ hm, cost_3 e, costT_at (Nat.le_refl ((n + 1) / 2)) (by omega) (by omega), costT_at (show m - (n + 1) / 2 ≤ n - (n + 1) / 2 by omega) (by omega) (by omega), costT_at (Nat.le_refl ((n + 1) / 2 + 1)) (by omega) (by omega)]
theorem costT_4 {t : Tb} {n m : Nat} (hm : m ≤ n) (hn : n ≤ 16384) (h4 : 4 ≤ m) (e : routeT t n m = 4) : costT t n m = costT t ((n + 2) / 3) ((n + 2) / 3) + 3 * costT t ((n + 2) / 3 + 1) ((n + 2) / 3 + 1) + costT t (n - 2 * ((n + 2) / 3)) (m - 2 * ((n + 2) / 3)) := by
  rw [routeT_at hm hn] at e
  rw [costT_succ hm, cost_4 e, costT_at (Nat.le_refl ((n + 2) / 3)) (by omega) (by omega), costT_at (show m - 2 * ((n + 2) / 3) ≤ n - 2 * ((n + 2) / 3) by omega) (by omega) (by omega), costT_at (Nat.le_refl ((n + 2) / 3 + 1)) (by omega) (by omega)]
theorem TableKara_law {t : Tb} {n : Int} {h : H} {K : AV → H → Prop} (hk : ∀ h', h'.wf → h.le h' → K (.bool true) h') : ACalls Try.prog 3 [t.av, .int .i64 n] h K := by
  refine in_law04_TableKara (by simp) fun hw => ?_
  unfold c_law04_TableKara
  have hw0 := H.wf_new hw ⟨some 23, 11, t.cells⟩
  have hl0 := H.le_new hw (H.le_refl h) ⟨some 23, 11, t.cells⟩
  have hr0 := H.rows_new h ⟨some 23, 11, t.cells⟩
  simp only [go_sem, ↓reduceIte, Nat.reduceEqDiff, Nat.reduceAdd, Bool.false_eq_true, Int.reduceToNat, av_held, av_cells, cells_len, true_and]
  refine length_calls fun a ha => ?_
  simp only [go_sem, ↓reduceIte, Nat.reduceEqDiff, Nat.reduceAdd, Bool.false_eq_true, Int.reduceToNat, incI (i := a) (by omega), hr0, cells_len]
  refine ⟨Option.some_ne_none _, by omega, ?_⟩
  have ec : putAt t.cells 1 [.int .i64 ((a + 1 : Nat) : Int)] = ({ t with toom := ((a + 1 : Nat) : Int) } : Tb).cells := by simp [putAt, Tb.cells]
  rw [ec]
  generalize hu : ({ t with toom := ((a + 1 : Nat) : Int) } : Tb) = u at *
  have hw1 := H.wf_set hw0 (Nat.lt_succ_self _) ⟨some 23, 11, u.cells⟩
  have hl1 := H.le_set hw hl0 (Nat.le_refl _) ⟨some 23, 11, u.cells⟩
  have hr1 := H.rows_set (h.new ⟨some 23, 11, t.cells⟩) h.next ⟨some 23, 11, u.cells⟩
  simp only [go_sem, ↓reduceIte, Nat.reduceEqDiff, Nat.reduceAdd, Bool.false_eq_true, Int.reduceToNat, gsT hr1]
  generalize hg : (h.new ⟨some 23, 11, t.cells⟩).set h.next ⟨some 23, 11, u.cells⟩ = g1 at *
  refine Clamp_calls fun g2 hw2 hl2 => ?_
  have hr2 := hl2.2 _ _ hr1
  simp only [go_sem, ↓reduceIte, Nat.reduceEqDiff, Nat.reduceAdd, Bool.false_eq_true, Int.reduceToNat]
  simp only [Tb.av, k_sta, H.rows_new, k_put]
  refine ⟨rfl, rfl, Option.some_ne_none _, by simp [cells_len], ?_⟩
  have ep : ∀ z : List AV, z.length = 11 → putAt z 0 (clampT u).cells = (clampT u).cells := fun z hz => by
    simp only [putAt_zero, cells_len, List.drop_of_length_le (Nat.le_of_eq hz), List.append_nil]
  simp only [ep _ (rfl : ([.int .i64 0, .int .i64 0, .int .i64 0, .int .i64 0, .int .i64 0, .int .i64 0, .int .i64 0, .int .i64 0, .int .i64 0, .int .i64 0, .int .i64 0] : List AV).length = 11)]
  generalize hz : (g2.new ⟨some 23, ([.int .i64 0, .int .i64 0, .int .i64 0, .int .i64 0, .int .i64 0, .int .i64 0, .int .i64 0, .int .i64 0, .int .i64 0, .int .i64 0, .int .i64 0] : List AV).length, [.int .i64 0, .int .i64 0, .int .i64 0, .int .i64 0, .int .i64 0, .int .i64 0, .int .i64 0, .int .i64 0, .int .i64 0, .int .i64 0, .int .i64 0]⟩).set g2.next ⟨some 23, ([.int .i64 0, .int .i64 0, .int .i64 0, .int .i64 0, .int .i64 0, .int .i64 0, .int .i64 0, .int .i64 0, .int .i64 0, .int .i64 0, .int .i64 0] : List AV).length, (clampT u).cells⟩ = g3
  have hw3 : g3.wf := by rw [← hz]; exact H.wf_set (H.wf_new hw2 _) (Nat.lt_succ_self _) _
  have hl3 : g2.le g3 := by rw [← hz]; exact H.le_set hw2 (H.le_new hw2 (H.le_refl g2) _) (Nat.le_refl _) _
  have hr3 := hl3.2 _ _ hr2
  have hc3 : g3.rows g2.next = some ⟨some 23, 11, (clampT u).cells⟩ := by rw [← hz]; exact H.rows_set _ _ _
  clear hz hg
  have ok := clamp_isT u
  have hT : (clampT u).toom.toNat = max 12 (a + 1) := by rw [← hu]; simp only [clampT]; omega
  have kb := cost_kara ok.ok 20000 a (by omega) (by rw [hT]; omega)
  have hcost : costT u a a = costF (clampT u).base.toNat (clampT u).toom.toNat (clampT u).ntt.toNat 20000 a a := by unfold costT; rw [Nat.max_self, Nat.min_self]
  rw [← hcost] at kb
  have hbl : blen (a - 3) ≤ blen a := blen_mono (by omega)
  have hbl9 : blen a ≤ 9 := blen_le (by omega)
  have b2 := ok.ok.b2
  have gT : g3.get g2.next 1 = some (.int .i64 (((clampT u).toom.toNat : Nat) : Int)) := by rw [H.get_of hc3, ← ok.toom]; rfl
  have gB : g3.get g2.next 0 = some (.int .i64 (((clampT u).base.toNat : Nat) : Int)) := by rw [H.get_of hc3, ← ok.base]; rfl
  rw [hT] at gT
  generalize (clampT u).base.toNat = B at *
  have hB2 : B * B ≤ 64 * 64 := Nat.mul_le_mul b2 b2
  simp only [go_sem, ↓reduceIte, Nat.reduceEqDiff, Nat.reduceAdd, Bool.false_eq_true, Int.reduceToNat, gT, gB, leF (show a < max 12 (a + 1) by omega), mulI (a := B) (b := B) (by omega)]
  have kb2 : costT u a a ≤ B * B * 3 ^ blen a := Nat.le_trans kb (Nat.mul_le_mul_left _ (Nat.pow_le_pow_right (by omega) hbl))
  have top : B * B * 3 ^ blen a ≤ 64 * 64 * 19683 := Nat.mul_le_mul hB2 (by
    have := Nat.pow_le_pow_right (n := 3) (by omega) hbl9
    simpa using this)
  refine for_rule (fun i ρ h' => i ≤ blen a ∧ h' = g3 ∧ ρ 1 = .int .i64 (a : Int) ∧ ρ 2 = .ptr (some (h.next, 0)) ∧ ∃ k most : Nat, ρ 7 = .int .i64 (k : Int) ∧ ρ 6 = .int .i64 (most : Int) ∧ k ≤ 400 ∧ blen k + i = blen a ∧ most * 3 ^ blen k = B * B * 3 ^ blen a) (blen a)
    ⟨by omega, rfl, rfl, rfl, a, B * B, rfl, rfl, ha, by omega, rfl⟩ (fun i ρ h hI => hI.1) ?_
  rintro i ρ h' ⟨hi, rfl, s1, s2, k, most, s7, s6, hk4, hbk, hmost⟩
  rcases Nat.eq_zero_or_pos k with h0 | h0
  · subst h0
    have hz : blen 0 = 0 := rfl
    rw [hz, Nat.pow_zero, Nat.mul_one] at hmost
    simp only [go_sem, ↓reduceIte, Nat.reduceEqDiff, Nat.reduceAdd, Bool.false_eq_true, Int.reduceToNat, s1, s2, s6, s7, decide_eq_false (show ¬ (0 : Int) < ((0 : Nat) : Int) by omega), gsT hr3]
    refine Cost_calls (by omega) (by omega) fun g4 hw4 hl4 => ?_
    simp only [go_sem, ↓reduceIte, Nat.reduceEqDiff, Nat.reduceAdd, Bool.false_eq_true, Int.reduceToNat, s6, leT (show costT u a a ≤ most by omega)]
    refine wakes04_calls fun g5 hw5 hl5 => ?_
    simp only [go_sem, ↓reduceIte, Nat.reduceEqDiff, Nat.reduceAdd, Bool.false_eq_true, Int.reduceToNat]
    exact fun _ => hk g5 hw5 (H.le_trans hl1 (H.le_trans hl2 (H.le_trans hl3 (H.le_trans hl4 hl5))))
  · have hbh := blen_half h0
    rw [hbh, Nat.pow_succ] at hmost
    have hp : 1 ≤ 3 ^ blen (k / 2) := Nat.pow_pos (by omega)
    have hm3 : most * 3 * 3 ^ blen (k / 2) = B * B * 3 ^ blen a := by rw [← hmost]; ac_rfl
    have hle : most * 3 ≤ most * 3 * 3 ^ blen (k / 2) := Nat.le_mul_of_pos_right _ hp
    have e1 : IntKind.i64.wrap (3 * (most : Int)) = ((most * 3 : Nat) : Int) := by rw [wI] <;> omega
    have e2 : ((k : Nat) : Int).tdiv 2 = ((k / 2 : Nat) : Int) := tdivN (b := 2)
    have e3 : IntKind.i64.wrap ((k / 2 : Nat) : Int) = ((k / 2 : Nat) : Int) := wNI (by omega)
    simp only [go_sem, ↓reduceIte, Nat.reduceEqDiff, Nat.reduceAdd, Bool.false_eq_true, Int.reduceToNat, s1, s2, s6, s7, decide_eq_true (show (0 : Int) < (k : Int) by omega), e1, e2, e3]
    refine ⟨by omega, ?_⟩
    exact ⟨by omega, trivial, trivial, trivial, k / 2, most * 3, rfl, rfl, by omega, by omega, hm3⟩
theorem TablePieces_law {t : Tb} {n m : Int} {h : H} {K : AV → H → Prop} (hk : ∀ h', h'.wf → h.le h' → K (.bool true) h') : ACalls Try.prog 6 [t.av, .int .i64 n, .int .i64 m] h K := by
  refine in_law04_TablePieces (by simp) fun hw => ?_
  unfold c_law04_TablePieces
  have hl0 := H.le_new hw (H.le_refl h) ⟨some 23, 11, t.cells⟩
  have hr0 := H.rows_new h ⟨some 23, 11, t.cells⟩
  simp only [go_sem, ↓reduceIte, Nat.reduceEqDiff, Nat.reduceAdd, Bool.false_eq_true, Int.reduceToNat, av_held, av_cells, cells_len, true_and]
  generalize hg : h.new ⟨some 23, 11, t.cells⟩ = g0 at *
  refine length_calls fun p hp => ?_
  simp only [go_sem, ↓reduceIte, Nat.reduceEqDiff, Nat.reduceAdd, Bool.false_eq_true, Int.reduceToNat]
  refine length_calls fun q hq => ?_
  simp only [go_sem, ↓reduceIte, Nat.reduceEqDiff, Nat.reduceAdd, Bool.false_eq_true, Int.reduceToNat]
  refine cond_cut (fun ρ' h' => h' = g0 ∧ ρ' 3 = .ptr (some (h.next, 0)) ∧ ρ' 7 = .int .i64 ((max p q : Nat) : Int) ∧ ρ' 8 = .int .i64 ((min p q : Nat) : Int)) ?_ ?_
  · rcases Nat.lt_or_ge p q with hpq | hpq
    · simp only [go_sem, ↓reduceIte, Nat.reduceEqDiff, Nat.reduceAdd, Bool.false_eq_true, Int.reduceToNat, ltT hpq]
      refine ⟨trivial, trivial, ?_, ?_⟩
      · rw [Nat.max_eq_right (by omega)]
      · rw [Nat.min_eq_left (by omega)]
    · simp only [go_sem, ↓reduceIte, Nat.reduceEqDiff, Nat.reduceAdd, Bool.false_eq_true, Int.reduceToNat, ltF hpq]
      refine ⟨trivial, trivial, ?_, ?_⟩
      · rw [Nat.max_eq_left hpq]
      · rw [Nat.min_eq_right hpq]
  rintro ρ h' ⟨rfl, s3, s7, s8⟩
  have hba : min p q ≤ max p q := by omega
  have ha : max p q ≤ 400 := by omega
  generalize max p q = a at *
  generalize min p q = b at *
  clear hp hq
  simp only [go_sem, ↓reduceIte, Nat.reduceEqDiff, Nat.reduceAdd, Bool.false_eq_true, Int.reduceToNat, s3, s7, s8, gsT hr0]
  refine Cost_calls (by omega) (by omega) fun g1 hw1 hl1 => ?_
  have hr1 := hl1.2 _ _ hr0
  simp only [go_sem, ↓reduceIte, Nat.reduceEqDiff, Nat.reduceAdd, Bool.false_eq_true, Int.reduceToNat, s3, s7, s8, gsT hr1]
  refine Route_calls fun g2 hw2 hl2 => ?_
  have hr2 := hl2.2 _ _ hr1
  have hle2 := (H.le_trans hl0 (H.le_trans hl1 hl2))
  have ok := (clamp_isT t).ok
  have hb4 := ok.b1
  have hrt := routeT_at (t := t) hba (by omega)
  have cb := costT_le (t := t) (n := a) (m := b) (by omega) (by omega)
  have cq : a * b ≤ 400 * 400 := Nat.mul_le_mul ha (by omega)
  have wk : ∀ g : H, g2.le g → ∀ K' : AV → H → Prop, (∀ h', h'.wf → g2.le h' → K' (.bool true) h') → ACalls Try.prog 20 [] g K' := fun g hgl K' hK' => wakes04_calls fun g5 hw5 hl5 => hK' g5 hw5 (H.le_trans hgl hl5)
  obtain ⟨r, hr⟩ : ∃ r : Int, r = ((routeT t a b : Nat) : Int) := ⟨_, rfl⟩
  rw [← hr]
  have e1 := incI (i := a) (by omega)
  have e2 : ((a + 1 : Nat) : Int).tdiv 2 = (((a + 1) / 2 : Nat) : Int) := tdivN (b := 2)
  have e3 : IntKind.i64.wrap (((a + 1) / 2 : Nat) : Int) = (((a + 1) / 2 : Nat) : Int) := wNI (by omega)
  have e4 : IntKind.i64.wrap ((a : Int) + 2) = ((a + 2 : Nat) : Int) := by rw [wI] <;> omega
  have e5 : ((a + 2 : Nat) : Int).tdiv 3 = (((a + 2) / 3 : Nat) : Int) := tdivN (b := 3)
  have e6 : IntKind.i64.wrap (((a + 2) / 3 : Nat) : Int) = (((a + 2) / 3 : Nat) : Int) := wNI (by omega)
  rcases route_cases (B := (clampT t).base.toNat) (T := (clampT t).toom.toNat) (N := (clampT t).ntt.toNat) a b with ⟨e, h0⟩ | ⟨e, h0, h1⟩ | ⟨e, h0, h1, h2⟩ | ⟨e, h0, h1, h2, h3⟩ | ⟨e, h0, h1, h2, h3, h4, h5⟩ | ⟨e, h0, h1, h2, h3, h4⟩
  · have : r = 0 := by omega
    subst this
    have hc : costT t a b = 0 := (costT_zero (by omega) (by omega)).2 (.inr h0)
    simp only [go_sem, ↓reduceIte, Nat.reduceEqDiff, Nat.reduceAdd, Bool.false_eq_true, Int.reduceToNat, Int.reduceBEq, s3, s7, s8, eqT (show ((costT t a b : Nat) : Int) = 0 by omega), eqT (show (b : Int) = 0 by omega)]
    refine wk g2 (H.le_refl g2) _ fun h' hw' hl' => ?_
    simp only [go_sem, ↓reduceIte, Nat.reduceEqDiff, Nat.reduceAdd, Bool.false_eq_true, Int.reduceToNat]
    exact fun _ => hk h' hw' (H.le_trans hle2 hl')
  · have : r = 1 := by omega
    subst this
    have hc : costT t a b = a * b := by rw [costT_succ hba, cost_1 e]
    simp only [go_sem, ↓reduceIte, Nat.reduceEqDiff, Nat.reduceAdd, Bool.false_eq_true, Int.reduceToNat, Int.reduceBEq, s3, s7, s8, mulI (a := a) (b := b) (by omega), eqT (show ((costT t a b : Nat) : Int) = ((a * b : Nat) : Int) by rw [hc])]
    refine wk g2 (H.le_refl g2) _ fun h' hw' hl' => ?_
    simp only [go_sem, ↓reduceIte, Nat.reduceEqDiff, Nat.reduceAdd, Bool.false_eq_true, Int.reduceToNat]
    exact fun _ => hk h' hw' (H.le_trans hle2 hl')
  · have : r = 2 := by omega
    subst this
    have hc := costT_2 hba (by omega) h0 (by omega : routeT t a b = 2)
    have hlt := Nat.mod_lt a h0
    have hdm := Nat.div_add_mod a b
    have hq0 : 0 ≤ a / b := Nat.zero_le _
    have c1 : ∀ i, i ≤ a / b → i * costT t b b ≤ a / b * costT t b b := fun i hi => Nat.mul_le_mul_right _ hi
    simp only [go_sem, ↓reduceIte, Nat.reduceEqDiff, Nat.reduceAdd, Bool.false_eq_true, Int.reduceToNat, Int.reduceBEq, s3, s7, s8]
    refine for_rule (fun i ρ h' => i ≤ a / b + 1 ∧ h'.wf ∧ g2.le h' ∧ ρ 3 = .ptr (some (h.next, 0)) ∧ ρ 8 = .int .i64 (b : Int) ∧ ρ 9 = .int .i64 ((costT t a b : Nat) : Int) ∧ ∃ k : Int, ∃ sum : Nat, ρ 11 = .int .i64 k ∧ ρ 10 = .int .i64 (sum : Int) ∧
      ((i ≤ a / b ∧ k = (a - b * i : Nat) ∧ sum = i * costT t b b) ∨ (i = a / b + 1 ∧ k ≤ 0 ∧ sum = costT t a b))) (a / b + 1) ⟨by omega, hw2, H.le_refl _, s3, s8, rfl, a, 0, rfl, rfl, .inl ⟨by omega, by simp, by simp⟩⟩ (fun i ρ h hI => hI.1) ?_
    rintro i ρ' h' ⟨hi, hw', hl', s3, s8, s9, k, sum, s11, s10, hks⟩
    have hr' := hl'.2 _ _ hr2
    have done : k ≤ 0 → sum = costT t a b → awp Try.prog (.seq (.seq (.reg [mv 44 11, o 45 (.bin .gtr (.t 44) (i64 0))]) (.cond (.t 45) .skip (.exit 1))) .skip) (fun _ _ _ => True) ρ' h' := fun _ _ => by
      simp only [go_sem, ↓reduceIte, Nat.reduceEqDiff, Nat.reduceAdd, Bool.false_eq_true, Int.reduceToNat, s11]
      exact ⟨fun _ => trivial, fun _ => trivial⟩
    clear done
    rcases hks with ⟨hiq, hkk, hsum⟩ | ⟨hiq, hkk, hsum⟩
    · have hbi : b * i ≤ b * (a / b) := Nat.mul_le_mul_left _ hiq
      by_cases hk0 : k ≤ 0
      · -- nothing is left
        have hiq2 : i = a / b := by
          rcases Nat.lt_or_ge i (a / b) with hh | hh
          · have : b * (i + 1) ≤ b * (a / b) := Nat.mul_le_mul_left _ hh
            rw [Nat.mul_succ] at this
            omega
          · omega
        have hz : a % b = 0 := by rw [hiq2] at hkk; omega
        have hcz : costT t (a % b) b = 0 := (costT_zero (by omega) (by omega)).2 (.inl hz)
        simp only [go_sem, ↓reduceIte, Nat.reduceEqDiff, Nat.reduceAdd, Bool.false_eq_true, Int.reduceToNat, s3, s8, s9, s10, s11, decide_eq_false (show ¬ (0 : Int) < k by omega), eqT (show ((costT t a b : Nat) : Int) = (sum : Int) by rw [hc, hcz, hsum, hiq2]; simp)]
        refine wk h' hl' _ fun h2 hw2 hl2 => ?_
        simp only [go_sem, ↓reduceIte, Nat.reduceEqDiff, Nat.reduceAdd, Bool.false_eq_true, Int.reduceToNat]
        exact fun _ => hk h2 hw2 (H.le_trans hle2 hl2)
      · by_cases hkb : (b : Int) ≤ k
        · have hlt2 : i < a / b := by
            rcases Nat.lt_or_ge i (a / b) with hh | hh
            · exact hh
            · have : i = a / b := by omega
              rw [this] at hkk
              omega
          have hbi2 : b * (i + 1) ≤ b * (a / b) := Nat.mul_le_mul_left _ hlt2
          have c1' := c1 (i + 1) hlt2
          rw [Nat.mul_succ] at hbi2
          rw [Nat.succ_mul] at c1'
          have em : min k (b : Int) = (b : Int) := by omega
          have ek : IntKind.i64.wrap (k - b) = ((a - b * (i + 1) : Nat) : Int) := by rw [Nat.mul_succ, wI] <;> omega
          simp only [go_sem, ↓reduceIte, Nat.reduceEqDiff, Nat.reduceAdd, Bool.false_eq_true, Int.reduceToNat, s3, s8, s9, s10, s11, decide_eq_true (show (0 : Int) < k by omega), em, gsT hr']
          refine Cost_calls (by omega) (by omega) fun g3 hw3 hl3 => ?_
          simp only [go_sem, ↓reduceIte, Nat.reduceEqDiff, Nat.reduceAdd, Bool.false_eq_true, Int.reduceToNat, s3, s8, s9, s10, s11, ek, addI (a := sum) (b := costT t b b) (by omega)]
          exact ⟨by omega, hw3, (H.le_trans hl' hl3), by first | rfl | trivial | assumption, by first | rfl | trivial | assumption, by first | rfl | trivial | assumption, _, _, rfl, rfl, .inl ⟨hlt2, rfl, by rw [Nat.succ_mul, hsum]⟩⟩
        · have hiq2 : i = a / b := by
            rcases Nat.lt_or_ge i (a / b) with hh | hh
            · have : b * (i + 1) ≤ b * (a / b) := Nat.mul_le_mul_left _ hh
              rw [Nat.mul_succ] at this
              omega
            · omega
          have hkr : k = ((a % b : Nat) : Int) := by rw [hiq2] at hkk; omega
          have em : min k (b : Int) = ((a % b : Nat) : Int) := by omega
          have ek : IntKind.i64.wrap (k - b) = k - b := wI (by omega) (by omega)
          simp only [go_sem, ↓reduceIte, Nat.reduceEqDiff, Nat.reduceAdd, Bool.false_eq_true, Int.reduceToNat, s3, s8, s9, s10, s11, decide_eq_true (show (0 : Int) < k by omega), em, gsT hr']
          refine Cost_calls (by omega) (by omega) fun g3 hw3 hl3 => ?_
          have hs2 : sum + costT t (a % b) b = costT t a b := by rw [hc, hsum, hiq2]
          simp only [go_sem, ↓reduceIte, Nat.reduceEqDiff, Nat.reduceAdd, Bool.false_eq_true, Int.reduceToNat, s3, s8, s9, s10, s11, ek, addI (a := sum) (b := costT t (a % b) b) (by omega)]
          exact ⟨by omega, hw3, (H.le_trans hl' hl3), by first | rfl | trivial | assumption, by first | rfl | trivial | assumption, by first | rfl | trivial | assumption, _, _, rfl, rfl, .inr ⟨by omega, by omega, hs2⟩⟩
    · simp only [go_sem, ↓reduceIte, Nat.reduceEqDiff, Nat.reduceAdd, Bool.false_eq_true, Int.reduceToNat, s3, s8, s9, s10, s11, decide_eq_false (show ¬ (0 : Int) < k by omega), eqT (show ((costT t a b : Nat) : Int) = (sum : Int) by rw [hsum])]
      refine wk h' hl' _ fun h2 hw2 hl2 => ?_
      simp only [go_sem, ↓reduceIte, Nat.reduceEqDiff, Nat.reduceAdd, Bool.false_eq_true, Int.reduceToNat]
      exact fun _ => hk h2 hw2 (H.le_trans hle2 hl2)
  · have : r = 3 := by omega
    subst this
    have hc := costT_3 hba (by omega) (by omega) (by omega : routeT t a b = 3)
    have a1 := subI (a := a) (b := (a + 1) / 2) (by omega) (by omega)
    have a2 := subI (a := b) (b := (a + 1) / 2) (by omega) (by omega)
    have a3 := incI (i := (a + 1) / 2) (by omega)
    simp only [go_sem, ↓reduceIte, Nat.reduceEqDiff, Nat.reduceAdd, Bool.false_eq_true, Int.reduceToNat, Int.reduceBEq, s3, s7, s8, e1, e2, e3]
    refine ⟨by omega, ?_⟩
    simp only [go_sem, ↓reduceIte, Nat.reduceEqDiff, Nat.reduceAdd, Bool.false_eq_true, Int.reduceToNat, Int.reduceBEq, s3, s7, s8, ltT (show (a + 1) / 2 < b by omega), gsT hr2, a1, a2, a3]
    refine Cost_calls (by omega) (by omega) fun g3 hw3 hl3 => ?_
    have hr3 := hl3.2 _ _ hr2
    simp only [go_sem, ↓reduceIte, Nat.reduceEqDiff, Nat.reduceAdd, Bool.false_eq_true, Int.reduceToNat, s3, gsT hr3, and_true, true_and]
    refine Cost_calls (by omega) (by omega) fun g4 hw4 hl4 => ?_
    have hr4 := hl4.2 _ _ hr3
    simp only [go_sem, ↓reduceIte, Nat.reduceEqDiff, Nat.reduceAdd, Bool.false_eq_true, Int.reduceToNat, s3, gsT hr4, and_true, true_and, addI (a := costT t ((a + 1) / 2) ((a + 1) / 2)) (b := costT t (a - (a + 1) / 2) (b - (a + 1) / 2)) (by omega)]
    refine Cost_calls (by omega) (by omega) fun g5 hw5 hl5 => ?_
    simp only [go_sem, ↓reduceIte, Nat.reduceEqDiff, Nat.reduceAdd, Bool.false_eq_true, Int.reduceToNat, addI (a := costT t ((a + 1) / 2) ((a + 1) / 2) + costT t (a - (a + 1) / 2) (b - (a + 1) / 2)) (b := costT t ((a + 1) / 2 + 1) ((a + 1) / 2 + 1)) (by omega), ← hc, beq_self_int]
    refine wk g5 (H.le_trans hl3 (H.le_trans hl4 hl5)) _ fun h2 hw2 hl2 => ?_
    simp only [go_sem, ↓reduceIte, Nat.reduceEqDiff, Nat.reduceAdd, Bool.false_eq_true, Int.reduceToNat]
    exact fun _ => hk h2 hw2 (H.le_trans hle2 hl2)
  · have : r = 4 := by omega
    subst this
    have hc := costT_4 hba (by omega) (by omega) (by omega : routeT t a b = 4)
    have a0 : IntKind.i64.wrap (2 * (((a + 2) / 3 : Nat) : Int)) = ((2 * ((a + 2) / 3) : Nat) : Int) := by rw [wI] <;> omega
    have a1 := subI (a := a) (b := 2 * ((a + 2) / 3)) (by omega) (by omega)
    have a2 := subI (a := b) (b := 2 * ((a + 2) / 3)) (by omega) (by omega)
    have a3 := incI (i := (a + 2) / 3) (by omega)
    simp only [go_sem, ↓reduceIte, Nat.reduceEqDiff, Nat.reduceAdd, Bool.false_eq_true, Int.reduceToNat, Int.reduceBEq, s3, s7, s8, e4, e5, e6]
    refine ⟨by omega, ?_⟩
    simp only [go_sem, ↓reduceIte, Nat.reduceEqDiff, Nat.reduceAdd, Bool.false_eq_true, Int.reduceToNat, Int.reduceBEq, s3, s7, s8, a0, ltT (show 2 * ((a + 2) / 3) < b by omega), gsT hr2, a1, a2, a3]
    refine Cost_calls (by omega) (by omega) fun g3 hw3 hl3 => ?_
    have hr3 := hl3.2 _ _ hr2
    simp only [go_sem, ↓reduceIte, Nat.reduceEqDiff, Nat.reduceAdd, Bool.false_eq_true, Int.reduceToNat, s3, gsT hr3, and_true, true_and]
    refine Cost_calls (by omega) (by omega) fun g4 hw4 hl4 => ?_
    have hr4 := hl4.2 _ _ hr3
    have a4 : IntKind.i64.wrap (3 * ((costT t ((a + 2) / 3 + 1) ((a + 2) / 3 + 1) : Nat) : Int)) = ((3 * costT t ((a + 2) / 3 + 1) ((a + 2) / 3 + 1) : Nat) : Int) := by rw [wI] <;> omega
    simp only [go_sem, ↓reduceIte, Nat.reduceEqDiff, Nat.reduceAdd, Bool.false_eq_true, Int.reduceToNat, s3, gsT hr4, and_true, true_and, a4, addI (a := costT t ((a + 2) / 3) ((a + 2) / 3)) (b := 3 * costT t ((a + 2) / 3 + 1) ((a + 2) / 3 + 1)) (by omega)]
    refine Cost_calls (by omega) (by omega) fun g5 hw5 hl5 => ?_
    simp only [go_sem, ↓reduceIte, Nat.reduceEqDiff, Nat.reduceAdd, Bool.false_eq_true, Int.reduceToNat, addI (a := costT t ((a + 2) / 3) ((a + 2) / 3) + 3 * costT t ((a + 2) / 3 + 1) ((a + 2) / 3 + 1)) (b := costT t (a - 2 * ((a + 2) / 3)) (b - 2 * ((a + 2) / 3))) (by omega), ← hc, beq_self_int]
    refine wk g5 (H.le_trans hl3 (H.le_trans hl4 hl5)) _ fun h2 hw2 hl2 => ?_
    simp only [go_sem, ↓reduceIte, Nat.reduceEqDiff, Nat.reduceAdd, Bool.false_eq_true, Int.reduceToNat]
    exact fun _ => hk h2 hw2 (H.le_trans hle2 hl2)
  · have : r = 5 := by omega
    subst this
    have n1 := ok.n1
    have hc : costT t a b = transF a b 3 := by rw [costT_succ hba, cost_5 e]
    simp only [go_sem, ↓reduceIte, Nat.reduceEqDiff, Nat.reduceAdd, Bool.false_eq_true, Int.reduceToNat, Int.reduceBEq, s3, s7, s8, addI (a := a) (b := b) (by omega), decide_eq_true (show (64 : Int) ≤ ((a + b : Nat) : Int) by omega)]
    refine Transform_calls ?_
    rw [show (3 : Int) = ((3 : Nat) : Int) from rfl, transZ_nat (by omega) (by omega) (by omega) (by omega) (by omega), ← hc]
    simp only [go_sem, ↓reduceIte, Nat.reduceEqDiff, Nat.reduceAdd, Bool.false_eq_true, Int.reduceToNat, beq_self_int]
    refine wk g2 (H.le_refl g2) _ fun h2 hw2 hl2 => ?_
    simp only [go_sem, ↓reduceIte, Nat.reduceEqDiff, Nat.reduceAdd, Bool.false_eq_true, Int.reduceToNat]
    exact fun _ => hk h2 hw2 (H.le_trans hle2 hl2)
theorem reads_table {h : H} {u : AV} (r : ReadsV Try.prog h 23 u) : ∃ t : Tb, u = t.av := by
  have hc : Try.prog.cellsOf 23 = 11 := by kernel_rfl
  have hz : Try.prog.cellsOf 3 = 1 := by kernel_rfl
  unfold ReadsV at r
  rw [Try.underlying23] at r
  obtain ⟨l, rfl, r⟩ := r
  have get : ∀ i, Reads Try.prog h 3 ((l.drop i).take 1) → ∃ n : Int, (l.drop i).take 1 = [.int .i64 n] := fun i hi => by
    obtain ⟨n, e, _⟩ := cell_int Try.underlying3 hi
    exact ⟨n, e⟩
  cases r with
  | int ht' hw => rw [Try.underlying23] at ht'; cases ht'
  | bool ht' => rw [Try.underlying23] at ht'; cases ht'
  | str ht' => rw [Try.underlying23] at ht'; cases ht'
  | snil ht' => rw [Try.underlying23] at ht'; cases ht'
  | sl ht' => rw [Try.underlying23] at ht'; cases ht'
  | struct ht' hl hf =>
    rw [Try.underlying23] at ht'
    injection ht' with ht'
    injection ht' with ht'
    subst ht'
    rw [hc] at hl
    simp only [List.mem_cons, List.not_mem_nil, or_false, forall_eq_or_imp, forall_eq, hz] at hf
    obtain ⟨f0, f1, f2, f3, f4, f5, f6, f7, f8, f9, f10⟩ := hf
    obtain ⟨n0, g0⟩ := get 0 f0
    obtain ⟨n1, g1⟩ := get 1 f1
    obtain ⟨n2, g2⟩ := get 2 f2
    obtain ⟨n3, g3⟩ := get 3 f3
    obtain ⟨n4, g4⟩ := get 4 f4
    obtain ⟨n5, g5⟩ := get 5 f5
    obtain ⟨n6, g6⟩ := get 6 f6
    obtain ⟨n7, g7⟩ := get 7 f7
    obtain ⟨n8, g8⟩ := get 8 f8
    obtain ⟨n9, g9⟩ := get 9 f9
    obtain ⟨n10, g10⟩ := get 10 f10
    match l, hl with
    | [x0, x1, x2, x3, x4, x5, x6, x7, x8, x9, x10], _ =>
      simp only [List.drop_zero, List.drop_succ_cons, List.take_succ_cons, List.take_zero, List.cons.injEq, and_true] at g0 g1 g2 g3 g4 g5 g6 g7 g8 g9 g10
      exact ⟨⟨n0, n1, n2, n3, n4, n5, n6, n7, n8, n9, n10⟩, by rw [g0, g1, g2, g3, g4, g5, g6, g7, g8, g9, g10]; rfl⟩
theorem TableRoutes_row (h : H) (avs : List AV) (_ : h.wf) (r : ReadsAll Try.prog h [23, 3, 3] avs) : ACalls Try.prog 8 avs h (fun r _ => r = .bool true) := by
  match avs, r with
  | [_, _, _], ⟨r0, r1, r2, _⟩ =>
    obtain ⟨t0, rfl⟩ := reads_table r0
    obtain ⟨n1, rfl, _⟩ := reads_i64 r1
    obtain ⟨n2, rfl, _⟩ := reads_i64 r2
    exact TableRoutes_law fun _ _ _ => rfl
theorem TableCosts_row (h : H) (avs : List AV) (_ : h.wf) (r : ReadsAll Try.prog h [23, 3, 3, 3] avs) : ACalls Try.prog 9 avs h (fun r _ => r = .bool true) := by
  match avs, r with
  | [_, _, _, _], ⟨r0, r1, r2, r3, _⟩ =>
    obtain ⟨t0, rfl⟩ := reads_table r0
    obtain ⟨n1, rfl, _⟩ := reads_i64 r1
    obtain ⟨n2, rfl, _⟩ := reads_i64 r2
    obtain ⟨n3, rfl, _⟩ := reads_i64 r3
    exact TableCosts_law fun _ _ _ => rfl
theorem TableSquare_row (h : H) (avs : List AV) (_ : h.wf) (r : ReadsAll Try.prog h [23, 3, 3] avs) : ACalls Try.prog 10 avs h (fun r _ => r = .bool true) := by
  match avs, r with
  | [_, _, _], ⟨r0, r1, r2, _⟩ =>
    obtain ⟨t0, rfl⟩ := reads_table r0
    obtain ⟨n1, rfl, _⟩ := reads_i64 r1
    obtain ⟨n2, rfl, _⟩ := reads_i64 r2
    exact TableSquare_law fun _ _ _ => rfl
theorem TableKara_row (h : H) (avs : List AV) (_ : h.wf) (r : ReadsAll Try.prog h [23, 3] avs) : ACalls Try.prog 3 avs h (fun r _ => r = .bool true) := by
  match avs, r with
  | [_, _], ⟨r0, r1, _⟩ =>
    obtain ⟨t0, rfl⟩ := reads_table r0
    obtain ⟨n1, rfl, _⟩ := reads_i64 r1
    exact TableKara_law fun _ _ _ => rfl
theorem TablePieces_row (h : H) (avs : List AV) (_ : h.wf) (r : ReadsAll Try.prog h [23, 3, 3] avs) : ACalls Try.prog 6 avs h (fun r _ => r = .bool true) := by
  match avs, r with
  | [_, _, _], ⟨r0, r1, r2, _⟩ =>
    obtain ⟨t0, rfl⟩ := reads_table r0
    obtain ⟨n1, rfl, _⟩ := reads_i64 r1
    obtain ⟨n2, rfl, _⟩ := reads_i64 r2
    exact TablePieces_law fun _ _ _ => rfl
theorem TableMore_row (h : H) (avs : List AV) (_ : h.wf) (r : ReadsAll Try.prog h [23, 3, 3, 3] avs) : ACalls Try.prog 11 avs h (fun r _ => r = .bool true) := by
  match avs, r with
  | [_, _, _, _], ⟨r0, r1, r2, r3, _⟩ =>
    obtain ⟨t0, rfl⟩ := reads_table r0
    obtain ⟨n1, rfl, _⟩ := reads_i64 r1
    obtain ⟨n2, rfl, _⟩ := reads_i64 r2
    obtain ⟨n3, rfl, _⟩ := reads_i64 r3
    exact TableMore_law fun _ _ _ => rfl
end Ab
end Go.Proofs.Yteoagnggnekfiaa
