/- Joined texts: M13. No condition. -/
import Derived.Test.YtnmnkocibjdhjaaZ9
namespace Go.Proofs.Ytnmnkocibjdhjaa
namespace Ab
open Go Go.RowKit
set_option linter.unusedSimpArgs false
set_option linter.unusedVariables false
attribute [local go_sem ↓] x_mv x_pick x_bin x_beq x_peq x_seq x_cat x_aeq x_idxS x_un x_cvI x_idx x_idxA x_fld x_ld x_st x_nn x_prt x_slc x_mk x_bsl x_bld x_box x_alloc x_len x_capo x_mnx x_app x_cpy x_mkf x_ext x_call x_callV x_bad s_none s_some s_nil s_cons s_chks w_skip w_reg w_seq w_cond w_block w_exit w_ret t_normal t_exit t_ret b_normal b_ret b_exit n_normal n_exit n_ret p_normal p_ret f_nil f_t f_c k_ops k_chk k_fin
attribute [local go_sem] e_t e_c e_f u_some u_none u_at env_at k_v k_pick k_add k_sub k_mul k_quo k_rem k_and k_or k_xor k_shl k_shr k_eql k_neq k_lss k_leq k_gtr k_geq k_beq k_peqn k_peqs k_neg k_not k_com k_cvI k_idxS k_idx k_idxA k_idxG k_ldG k_gld k_seq k_cat k_aeq k_eqs k_fld k_ld1 k_ldn k_get k_gets k_sti k_stb k_stp k_sts k_stf k_sta k_put k_nn k_prt1 k_prtn k_slc_a k_slc_b k_slc_c k_mk k_agg k_bsl k_box k_len k_lenS k_cap k_max k_min k_ext k_callV k_true k_false k_gtt k_gtf k_gft k_gsk k_gff k_lit1i k_lit2i k_lit3i k_c0 k_c1 k_ck List.getElem?_cons_zero List.getElem?_cons_succ List.getElem?_nil Option.getD_some Option.getD_none tupOf List.map_cons List.map_nil Option.map_some Option.map_none List.nil_append List.cons_append List.append_nil Nat.mul_one Int.toNat_natCast Nat.zero_add
set_option maxRecDepth 100000 in
theorem reads_table {h : H} {u : AV} (r : ReadsV Try.prog h 50 u) : ∃ t : Tb, u = t.av := by
  have hc : Try.prog.cellsOf 50 = 11 := by kernel_rfl
  have hz : Try.prog.cellsOf 3 = 1 := by kernel_rfl
  unfold ReadsV at r
  rw [Try.underlying50] at r
  obtain ⟨l, rfl, r⟩ := r
  have get : ∀ i, Reads Try.prog h 3 ((l.drop i).take 1) → ∃ n : Int, (l.drop i).take 1 = [.int .i64 n] := fun i hi => by
    obtain ⟨n, e, _⟩ := cell_int Try.underlying3 hi
    exact ⟨n, e⟩
  cases r with
  | int ht' hw => rw [Try.underlying50] at ht'; cases ht'
  | bool ht' => rw [Try.underlying50] at ht'; cases ht'
  | str ht' => rw [Try.underlying50] at ht'; cases ht'
  | snil ht' => rw [Try.underlying50] at ht'; cases ht'
  | sl ht' => rw [Try.underlying50] at ht'; cases ht'
  | struct ht' hl hf =>
    rw [Try.underlying50] at ht'
    injection ht' with ht'
    injection ht' with ht'
    subst ht'
    rw [hc] at hl
    simp only [List.mem_cons, List.not_mem_nil, or_false, forall_eq_or_imp, forall_eq, hz] at hf
    obtain ⟨f0, f1, f2, f3, f4, f5, f6, f7, f8, f9, f10⟩ := hf
    obtain ⟨n0, g0⟩ := get 0 f0
    obtain ⟨n1, g1⟩ := get 1 f1
    obtain ⟨n2, g2⟩ := get 2 f2
    obtain ⟨n3, g3⟩ := get 3 f3
    obtain ⟨n4, g4⟩ := get 4 f4
    obtain ⟨n5, g5⟩ := get 5 f5
    obtain ⟨n6, g6⟩ := get 6 f6
    obtain ⟨n7, g7⟩ := get 7 f7
    obtain ⟨n8, g8⟩ := get 8 f8
    obtain ⟨n9, g9⟩ := get 9 f9
    obtain ⟨n10, g10⟩ := get 10 f10
    match l, hl with
    | [x0, x1, x2, x3, x4, x5, x6, x7, x8, x9, x10], _ =>
      simp only [List.drop_zero, List.drop_succ_cons, List.take_succ_cons, List.take_zero, List.cons.injEq, and_true] at g0 g1 g2 g3 g4 g5 g6 g7 g8 g9 g10
      exact ⟨⟨n0, n1, n2, n3, n4, n5, n6, n7, n8, n9, n10⟩, by rw [g0, g1, g2, g3, g4, g5, g6, g7, g8, g9, g10]; rfl⟩
theorem from13_calls {v : AV} {ws : List Nat} {h : H} {K : AV → H → Prop} (hv : IsN h v ws) (hd : Dig ws) (hlen : ws.length ≤ 1099511627776)
    (hk : ∀ r h', h'.wf → h.le h' → Num 4294967296 h' r (val 18446744073709551616 ws) → K r h') : ACalls Try.prog 35 [v] h K := by
  refine in_law13_from (by simp) fun hw => ?_
  unfold c_law13_from
  simp only [go_sem, ↓reduceIte, Nat.reduceEqDiff, Nat.reduceAdd, Bool.false_eq_true, Int.reduceToNat]
  refine From_calls hv hd hlen fun r h' hw' hl' hr => ?_
  simp only [go_sem, ↓reduceIte, Nat.reduceEqDiff, Nat.reduceAdd, Bool.false_eq_true, Int.reduceToNat]
  exact fun _ => hk r h' hw' hl' hr
theorem words_calls {v : AV} {xs : List Nat} {h : H} {K : AV → H → Prop} (hv : IsN h v xs) (hd : Dig xs) (hlen : xs.length < 4611686018427387904) (hk : K (.int .i64 (wlen (val 18446744073709551616 xs) : Nat)) h) : ACalls Try.prog 32 [v] h K := by
  refine in_law13_words (by simp) fun hw => ?_
  unfold c_law13_words
  simp only [go_sem, ↓reduceIte, Nat.reduceEqDiff, Nat.reduceAdd, Bool.false_eq_true, Int.reduceToNat]
  refine Len_calls hv hd hlen ?_
  simp only [go_sem, ↓reduceIte, Nat.reduceEqDiff, Nat.reduceAdd, Bool.false_eq_true, Int.reduceToNat]
  exact fun _ => hk
theorem wakes13_calls {h : H} {K : AV → H → Prop} (hk : ∀ h', h'.wf → h.le h' → K (.bool true) h') : ACalls Try.prog 33 [] h K := by
  refine in_law13_wakes (by simp) fun hw => ?_
  unfold c_law13_wakes
  have e1 : ∀ l : List AV, abuild l [] = some l := fun l => by simp [abuild]
  simp only [go_sem, ↓reduceIte, Nat.reduceEqDiff, Nat.reduceAdd, Bool.false_eq_true, Int.reduceToNat, e1]
  refine dNew_calls (t := ⟨0, 0, 0, 0, 0, 0, 0, 0, 0, 0, 0⟩) fun e u h1 hw1 hl1 hn1 hue he ht => ?_
  simp only [go_sem, ↓reduceIte, Nat.reduceEqDiff, Nat.reduceAdd, Bool.false_eq_true, Int.reduceToNat, Bool.false_bne, Option.isNone]
  have hw2 := H.wf_new hw1 ⟨some 23, 1, [AV.int .u64 0, AV.int .u64 1]⟩
  have hl2 := H.le_new hw1 (H.le_refl h1) ⟨some 23, 1, [AV.int .u64 0, AV.int .u64 1]⟩
  have hl3 := H.le_new hw2 (H.le_refl _) ⟨some 23, 1, [AV.int .u64 3]⟩
  have d1 : Dig [0, 1] := fun z hz => by simp at hz; omega
  have d2 : Dig [3] := Dig.one (by omega)
  have hx : Big (val 18446744073709551616 [0, 1]) := lt_big64 (k := 2) (by decide) (by omega)
  have hy : Big (val 18446744073709551616 [3]) := word_big (by decide)
  refine Long_calls (x := val 18446744073709551616 [0, 1]) (y := val 18446744073709551616 [3]) ((he.mono hl2).mono hl3) ((ht.mono hl2).mono hl3) (by omega) (((IsN.lit [0, 1] _ rfl rfl).mono hl3).nn d1 (by simp)) ((IsN.lit [3] _ rfl rfl).nn d2 (by simp)) hx hy (fun h => absurd h (by decide)) fun _ q r h4 hw4 hl4 ht4 hq hr => ?_
  obtain ⟨qs, hq1, hq2, hq3, hq4⟩ := hq
  obtain ⟨rs, hr1, hr2, hr3, hr4⟩ := hr
  have hql : qs.length = 1 := by rw [top_len hq2 hq3, hq4]; decide
  have hrl : rs = [1] := top_inj hr2 (Dig.one (by omega)) hr3 (fun z hz => by simp at hz; omega) (by rw [hr4]; decide)
  subst hrl
  obtain ⟨iq, cq, rfl⟩ := hq1.form
  have hln : h.le h4 := ⟨by have := hl4.1; have := hl3.1; have := hl2.1; have := hl1.1; omega, fun i p hp => hl4.2 i p (by have := H.row_lt hw hp; omega) (hl3.2 _ _ (hl2.2 _ _ (hl1.2 _ _ hp)))⟩
  simp only [go_sem, ↓reduceIte, Nat.reduceEqDiff, Nat.reduceAdd, Bool.false_eq_true, Int.reduceToNat, beq_self_eq_true, hql, eqT (show ((1 : Nat) : Int) = 1 from rfl)]
  have hl5 := H.le_new hw4 (H.le_refl h4) ⟨some 23, 1, [AV.int .u64 1]⟩
  refine kSame_calls (xs := [1]) (hr1.isN.mono hl5) (IsN.lit [1] _ rfl rfl) (by simp) ?_
  simp only [go_sem, ↓reduceIte, Nat.reduceEqDiff, Nat.reduceAdd, Bool.false_eq_true, Int.reduceToNat]
  exact fun hw' => hk _ hw' (H.le_trans hln hl5)
/-- The rows below n, as they are. -/
def H.upto (h : H) (n : Nat) : H := { rows := fun i => if i < n then h.rows i else none, next := n }
theorem H.upto_next (h : H) (n : Nat) : (h.upto n).next = n := rfl
theorem H.upto_wf (h : H) (n : Nat) : (h.upto n).wf := fun i hi => by
  show (if i < n then h.rows i else none) = none
  rw [if_neg]
  exact Nat.not_lt.2 hi
theorem H.upto_le {h : H} {n : Nat} (hn : n ≤ h.next) : (h.upto n).le h := ⟨hn, fun i r hr => by
  have hr' : (if i < n then h.rows i else none) = some r := hr
  split at hr'
  · exact hr'
  · cases hr'⟩
theorem upto_row {u : Nat} {h h' : H} (hw : h.wf) (hl : H.lee u h h') {i : Nat} {r : Row} (hi : i ≠ u) (hr : h.rows i = some r) : (h'.upto h.next).rows i = some r := by
  show (if i < h.next then h'.rows i else none) = some r
  rw [if_pos (H.row_lt hw hr)]
  exact hl.2 i r hi hr
theorem IsG.upto {b u : Nat} {h h' : H} {v : AV} {xs : List Nat} (hw : h.wf) (hl : H.lee u h h') (hub : u < b) (hv : IsG b h v xs) : IsG b (h'.upto h.next) v xs := by
  obtain ⟨id, c, rfl, h1⟩ := hv
  refine ⟨id, c, rfl, ?_⟩
  rcases h1 with h1 | ⟨i, r, rfl, hb, hr, h2⟩
  · exact .inl h1
  · exact .inr ⟨i, r, rfl, hb, upto_row hw hl (by omega) hr, h2⟩
theorem IsN.upto {u m nw dp : Nat} {t : Tb} {h h' : H} {v : AV} {xs : List Nat} (hw : h.wf) (ht : Tune h u m nw dp t) (hl : H.lee u h h') (hv : IsN h v xs) : IsN (h'.upto h.next) v xs := by
  obtain ⟨id, off, c, rfl, h1⟩ := hv
  refine ⟨id, off, c, rfl, ?_⟩
  rcases h1 with h1 | ⟨i, r, rfl, hr, hor, h3⟩
  · exact .inl h1
  · refine .inr ⟨i, r, rfl, upto_row hw hl ?_ hr, hor, h3⟩
    rintro rfl
    rw [ht] at hr
    injection hr with hr
    subst hr
    rcases hor with h | h <;> simp [tuneRow] at h
theorem Lent.upto {b u : Nat} {h h' : H} {v : AV} {xs : List Nat} (hw : h.wf) (hl : H.lee u h h') (hub : u < b) (hv : Lent b h v xs) : Lent b (h'.upto h.next) v xs := by
  obtain ⟨id, e, h1⟩ := hv
  exact ⟨id, e, h1.upto hw hl hub⟩
theorem DivsLongs_law {t : Tb} {va vb : AV} {xs0 ys0 : List Nat} {h : H} {K : AV → H → Prop} (hv0 : IsN h va xs0) (hx0 : ∀ x ∈ xs0, x < 18446744073709551616) (hu0 : IsN h vb ys0) (hy0 : ∀ x ∈ ys0, x < 18446744073709551616) (hk : ∀ h', h'.wf → K (.bool true) h') : ACalls Try.prog 5 [t.av, va, vb] h K := by
  refine in_law13_DivsLongs (by simp) fun hw => ?_
  unfold c_law13_DivsLongs
  have hl0 := H.le_new hw (H.le_refl h) ⟨some 50, 11, t.cells⟩
  have hr0 := H.rows_new h ⟨some 50, 11, t.cells⟩
  simp only [go_sem, ↓reduceIte, Nat.reduceEqDiff, Nat.reduceAdd, Bool.false_eq_true, Int.reduceToNat, av_held, av_cells, cells_len, true_and]
  generalize hg : h.new ⟨some 50, 11, t.cells⟩ = g0 at *
  refine Cut_calls (n := 40) (hv0.mono hl0) fun a ha => ?_
  simp only [go_sem, ↓reduceIte, Nat.reduceEqDiff, Nat.reduceAdd, Bool.false_eq_true, Int.reduceToNat]
  refine Cut_calls (n := 30) (hu0.mono hl0) fun b hb => ?_
  have hxd : Dig (xs0.take 40) := Dig.take hx0 40
  have hyd : Dig (ys0.take 30) := Dig.take hy0 30
  have hxl : (xs0.take 40).length ≤ 40 := by simp; omega
  have hyl : (ys0.take 30).length ≤ 30 := by simp; omega
  generalize xs0.take 40 = xs at *
  generalize ys0.take 30 = ys at *
  simp only [go_sem, ↓reduceIte, Nat.reduceEqDiff, Nat.reduceAdd, Bool.false_eq_true, Int.reduceToNat, gsT hr0]
  refine dNew_calls fun e u g1 hw1 hl1 hn1 hue he ht => ?_
  simp only [go_sem, ↓reduceIte, Nat.reduceEqDiff, Nat.reduceAdd, Bool.false_eq_true, Int.reduceToNat, Option.isNone, Bool.false_bne]
  refine Lend_calls (ha.mono hl1) (by omega) fun x g2 hw2 hl2 lx => ?_
  simp only [go_sem, ↓reduceIte, Nat.reduceEqDiff, Nat.reduceAdd, Bool.false_eq_true, Int.reduceToNat]
  refine Lend_calls (hb.mono (H.le_trans hl1 hl2)) (by omega) fun y g3 hw3 hl3 ly => ?_
  have lx3 := lx.mono hl3
  have bx : Big (val 18446744073709551616 xs) := lt_big64 (k := 40) (Nat.lt_of_lt_of_le (val_lt 18446744073709551616 (by omega) xs hxd) (Nat.pow_le_pow_right (by omega) hxl)) (by omega)
  have by_ : Big (val 18446744073709551616 ys) := lt_big64 (k := 30) (Nat.lt_of_lt_of_le (val_lt 18446744073709551616 (by omega) ys hyd) (Nat.pow_le_pow_right (by omega) hyl)) (by omega)
  have hut := H.row_lt hw1 ht
  have ht3 := (ht.mono hl2).mono hl3
  have hA3 := ha.mono (H.le_trans hl1 (H.le_trans hl2 hl3))
  have hB3 := hb.mono (H.le_trans hl1 (H.le_trans hl2 hl3))
  simp only [go_sem, ↓reduceIte, Nat.reduceEqDiff, Nat.reduceAdd, Bool.false_eq_true, Int.reduceToNat]
  refine Long_calls ((he.mono hl2).mono hl3) ht3 (by omega) (lx3.isN.nn hxd (by omega)) (ly.isN.nn hyd (by omega)) bx by_ (fun hz hw4 => ?_) (fun hpos q r g4 hw4 hl4 ht4 hq hr => ?_)
  · simp only [go_sem, ↓reduceIte, Nat.reduceEqDiff, Nat.reduceAdd, Bool.false_eq_true, Int.reduceToNat]
    refine words_calls hA3 hxd (by omega) ?_
    simp only [go_sem, ↓reduceIte, Nat.reduceEqDiff, Nat.reduceAdd, Bool.false_eq_true, Int.reduceToNat]
    refine words_calls hB3 hyd (by omega) ?_
    rw [hz, wlen_zero]
    simp only [go_sem, ↓reduceIte, Nat.reduceEqDiff, Nat.reduceAdd, Bool.false_eq_true, Int.reduceToNat, eqT (show ((0 : Nat) : Int) = 0 from rfl), beq_self_eq_true]
    refine wakes13_calls fun g5 hw5 hl5 => ?_
    simp only [go_sem, ↓reduceIte, Nat.reduceEqDiff, Nat.reduceAdd, Bool.false_eq_true, Int.reduceToNat]
    exact fun _ => hk g5 hw5
  · have hA4 := hA3.monoE ht3 hl4
    have hB4 := hB3.monoE ht3 hl4
    have hm1 : wlen (val 18446744073709551616 ys) ≠ 0 := fun h => by have := wlen_eq_zero.1 h; omega
    have hwx : wlen (val 18446744073709551616 xs) ≤ 40 := Nat.le_trans (wlen_len hxd) hxl
    have hwy : wlen (val 18446744073709551616 ys) ≤ 30 := Nat.le_trans (wlen_len hyd) hyl
    simp only [go_sem, ↓reduceIte, Nat.reduceEqDiff, Nat.reduceAdd, Bool.false_eq_true, Int.reduceToNat]
    refine words_calls hA4 hxd (by omega) ?_
    simp only [go_sem, ↓reduceIte, Nat.reduceEqDiff, Nat.reduceAdd, Bool.false_eq_true, Int.reduceToNat]
    refine words_calls hB4 hyd (by omega) ?_
    simp only [go_sem, ↓reduceIte, Nat.reduceEqDiff, Nat.reduceAdd, Bool.false_eq_true, Int.reduceToNat, eqF (show ((wlen (val 18446744073709551616 ys) : Nat) : Int) ≠ 0 by omega)]
    refine from13_calls hA4 hxd (by omega) fun fa g5 hw5 hl5 nfa => ?_
    simp only [go_sem, ↓reduceIte, Nat.reduceEqDiff, Nat.reduceAdd, Bool.false_eq_true, Int.reduceToNat]
    refine from13_calls (hB4.mono hl5) hyd (by omega) fun fb g6 hw6 hl6 nfb => ?_
    simp only [go_sem, ↓reduceIte, Nat.reduceEqDiff, Nat.reduceAdd, Bool.false_eq_true, Int.reduceToNat]
    refine DivMod_calls (nfa.mono hl6) nfb bx by_ hpos fun qq rr g7 hw7 hl7 nq nr => ?_
    simp only [go_sem, ↓reduceIte, Nat.reduceEqDiff, Nat.reduceAdd, Bool.false_eq_true, Int.reduceToNat]
    have hle47 := (H.le_trans hl5 (H.le_trans hl6 hl7))
    refine cond_cut (fun ρ' h2 => h2 = g7 ∧ ρ' 1 = a ∧ ρ' 2 = b ∧ ρ' 7 = .ptr (some (e, 0)) ∧ ρ' 8 = x ∧ ρ' 9 = y ∧ ρ' 10 = q ∧ ρ' 11 = r ∧ ρ' 12 = .int .i64 0 ∧ ρ' 15 = qq ∧ ρ' 16 = rr ∧ ρ' 17 = .int .i64 ((longCost (val 18446744073709551616 xs) (val 18446744073709551616 ys) : Nat) : Int)) ?_ ?_
    · rcases Nat.lt_or_ge (wlen (val 18446744073709551616 xs)) (wlen (val 18446744073709551616 ys)) with hlt | hge
      · have ec : longCost (val 18446744073709551616 xs) (val 18446744073709551616 ys) = 0 := by unfold longCost; rw [if_pos hlt]
        rw [ec]
        simp only [go_sem, ↓reduceIte, Nat.reduceEqDiff, Nat.reduceAdd, Bool.false_eq_true, Int.reduceToNat, leF hlt]
        exact ⟨trivial, trivial, trivial, trivial, trivial, trivial, trivial, trivial, trivial, trivial, trivial, rfl⟩
      · have ec : longCost (val 18446744073709551616 xs) (val 18446744073709551616 ys) = (wlen (val 18446744073709551616 xs) - wlen (val 18446744073709551616 ys) + 1) * (wlen (val 18446744073709551616 ys) + 1) := by unfold longCost; rw [if_neg (by omega)]
        have hcb : (wlen (val 18446744073709551616 xs) - wlen (val 18446744073709551616 ys) + 1) * (wlen (val 18446744073709551616 ys) + 1) ≤ 41 * 31 := Nat.mul_le_mul (by omega) (by omega)
        rw [ec]
        simp only [go_sem, ↓reduceIte, Nat.reduceEqDiff, Nat.reduceAdd, Bool.false_eq_true, Int.reduceToNat, leT hge, subI (a := wlen (val 18446744073709551616 xs)) (b := wlen (val 18446744073709551616 ys)) hge (by omega), incI (i := wlen (val 18446744073709551616 xs) - wlen (val 18446744073709551616 ys)) (by omega), incI (i := wlen (val 18446744073709551616 ys)) (by omega), mulI (a := wlen (val 18446744073709551616 xs) - wlen (val 18446744073709551616 ys) + 1) (b := wlen (val 18446744073709551616 ys) + 1) (by omega)]
        exact ⟨trivial, trivial, trivial, trivial, trivial, trivial, trivial, trivial, trivial, trivial, trivial, trivial⟩
    rintro ρ g7' ⟨rfl, q1, q2, q7, q8, q9, q10, q11, q12, q15, q16, q17⟩
    have hqN := hq.nt.mono hle47
    have hrN := hr.nt.mono hle47
    simp only [go_sem, ↓reduceIte, Nat.reduceEqDiff, Nat.reduceAdd, Bool.false_eq_true, Int.reduceToNat, q1, q2, q7, q8, q9, q10, q11, q12, q15, q16, q17, neF (show (0 : Int) = 0 from rfl)]
    refine rSame_calls nq (bx.le (Nat.div_le_self _ _)) hqN fun g8 hw8 hl8 => ?_
    simp only [go_sem, ↓reduceIte, Nat.reduceEqDiff, Nat.reduceAdd, Bool.false_eq_true, Int.reduceToNat, Bool.not_true, q16, q11, q7, q17]
    refine rSame_calls (nr.mono hl8) (by_.le (Nat.le_of_lt (Nat.mod_lt _ hpos))) (hrN.mono hl8) fun g9 hw9 hl9 => ?_
    have hle49 := (H.le_trans hle47 (H.le_trans hl8 hl9))
    have he9 := (((he.mono hl2).mono hl3).monoE ht3 hl4).mono hle49
    have ht9 := ht4.mono hle49
    simp only [Eng] at he9
    obtain ⟨r1, e1, hr1, hc1, r2, e2, hr2, hc2, r3, e3, hr3, hc3, r4, e4, hr4, hc4, r5, e5, hr5, hc5, rfl⟩ := he9
    have k1 : g9.get e 0 = some (.ptr (some (e1, 0))) := by rw [H.get_of hr1, hc1]; rfl
    have k2 : g9.get e1 0 = some (.ptr (some (e2, 0))) := by rw [H.get_of hr2, hc2]; rfl
    have k3 : g9.get e2 0 = some (.ptr (some (e3, 0))) := by rw [H.get_of hr3, hc3]; rfl
    have k4 : g9.get e3 0 = some (.ptr (some (e4, 0))) := by rw [H.get_of hr4, hc4]; rfl
    have k5 : g9.get e4 0 = some (.ptr (some (e5, 0))) := by rw [H.get_of hr5, hc5]; rfl
    simp only [go_sem, ↓reduceIte, Nat.reduceEqDiff, Nat.reduceAdd, Bool.false_eq_true, Int.reduceToNat, Bool.not_true, q7, k1, k2, k3, k4, k5]
    refine Muls2_calls ht9 ?_
    rw [Nat.zero_add]
    simp only [go_sem, ↓reduceIte, Nat.reduceEqDiff, Nat.reduceAdd, Bool.false_eq_true, Int.reduceToNat, q17, neF (show ((longCost (val 18446744073709551616 xs) (val 18446744073709551616 ys) : Nat) : Int) = (longCost (val 18446744073709551616 xs) (val 18446744073709551616 ys) : Nat) from rfl), q10, q11]
    have hle39 : H.lee e5 g3 g9 := hl4.trans hle49.lee
    have hu2 : e5 < g2.next := Nat.lt_of_lt_of_le hut hl2.1
    have uw := H.upto_wf g9 g3.next
    have ule := H.upto_le hle39.1
    have hun := Nat.le_of_eq (H.upto_next g9 g3.next)
    have ux := lx3.upto hw3 hle39 hut
    have uy := ly.upto hw3 hle39 hu2
    have ua := hA3.upto hw3 ht3 hle39
    have ub := hB3.upto hw3 ht3 hle39
    generalize g9.upto g3.next = gu at *
    refine Spoil_calls (hq.mono hle49).own fun g10 hw10 hka10 hko10 => ?_
    simp only [go_sem, ↓reduceIte, Nat.reduceEqDiff, Nat.reduceAdd, Bool.false_eq_true, Int.reduceToNat, q11]
    refine Spoil_calls (hko10 _ _ (hr.mono hle49).own) fun g11 hw11 hka11 _ => ?_
    have ul := hka11 gu uw (hka10 gu uw ule hun) hun
    simp only [go_sem, ↓reduceIte, Nat.reduceEqDiff, Nat.reduceAdd, Bool.false_eq_true, Int.reduceToNat, q8, q1]
    refine Intact_calls (ux.mono ul) (ua.mono ul) (by omega) ?_
    simp only [go_sem, ↓reduceIte, Nat.reduceEqDiff, Nat.reduceAdd, Bool.false_eq_true, Int.reduceToNat, q9, q2]
    refine Intact_calls (uy.mono ul) (ub.mono ul) (by omega) ?_
    simp only [go_sem, ↓reduceIte, Nat.reduceEqDiff, Nat.reduceAdd, Bool.false_eq_true, Int.reduceToNat]
    refine wakes13_calls fun g12 hw12 hl12 => ?_
    simp only [go_sem, ↓reduceIte, Nat.reduceEqDiff, Nat.reduceAdd, Bool.false_eq_true, Int.reduceToNat]
    exact fun _ => hk g12 hw12
set_option maxRecDepth 100000 in
theorem DivsLongs_row (h : H) (avs : List AV) (_ : h.wf) (r : ReadsAll Try.prog h [50, 28, 28] avs) : ACalls Try.prog 5 avs h (fun r _ => r = .bool true) := by
  match avs, r with
  | [_, _, _], ⟨r0, r1, r2, _⟩ =>
    obtain ⟨t0, rfl⟩ := reads_table r0
    obtain ⟨xs, h1, hx, _⟩ := reads_words r1
    obtain ⟨ys, h2, hy, _⟩ := reads_words r2
    exact DivsLongs_law h1 hx h2 hy fun _ _ => rfl
end Ab
end Go.Proofs.Ytnmnkocibjdhjaa
