/- Joined texts: M13 V1 V2 M14 M15. No condition. -/
import Derived.Test.YtnmnkocibjdhjaaZ10
namespace Go.Proofs.Ytnmnkocibjdhjaa
namespace Ab
open Go Go.RowKit
set_option linter.unusedSimpArgs false
set_option linter.unusedVariables false
attribute [local go_sem ↓] x_mv x_pick x_bin x_beq x_peq x_seq x_cat x_aeq x_idxS x_un x_cvI x_idx x_idxA x_fld x_ld x_st x_nn x_prt x_slc x_mk x_bsl x_bld x_box x_alloc x_len x_capo x_mnx x_app x_cpy x_mkf x_ext x_call x_callV x_bad s_none s_some s_nil s_cons s_chks w_skip w_reg tP_fin tP_no tP_alt w_seq w_cond w_block w_exit w_ret t_normal t_exit t_ret b_normal b_ret b_exit n_normal n_exit n_ret p_normal p_ret f_nil f_t f_c k_ops k_chk k_fin
attribute [local go_sem] e_t e_c e_f u_some u_none u_at env_at k_v k_pick k_add k_sub k_mul k_quo k_rem k_and k_or k_xor k_shl k_shr k_eql k_neq k_lss k_leq k_gtr k_geq k_beq k_peqn k_peqs k_neg k_not k_com k_cvI k_idxS k_idx k_idxA k_idxG k_ldG k_gld k_seq k_cat k_aeq k_eqs k_fld k_ld1 k_ldn k_get k_gets k_sti k_stb k_stp k_sts k_stf k_sta k_put k_nn k_prt1 k_prtn k_slc_a k_slc_b k_slc_c k_mk k_agg k_bsl k_box k_len k_lenS k_cap k_max k_min k_ext k_callV k_true k_false k_gtt k_gtf k_gft k_gsk k_gff k_lit1i k_lit2i k_lit3i k_c0 k_c1 k_ck List.getElem?_cons_zero List.getElem?_cons_succ List.getElem?_nil Option.getD_some Option.getD_none tupOf List.map_cons List.map_nil Option.map_some Option.map_none List.nil_append List.cons_append List.append_nil Nat.mul_one Int.toNat_natCast Nat.zero_add
set_option maxRecDepth 100000 in
theorem reads_table {h : H} {u : AV} (r : ReadsV Try.prog h 50 u) : ∃ t : Tb, u = t.av := by
  have hc : Try.prog.cellsOf 50 = 11 := by kernel_rfl
  have hz : Try.prog.cellsOf 3 = 1 := by kernel_rfl
  unfold ReadsV at r
  rw [Try.underlying50] at r
  obtain ⟨l, rfl, r⟩ := r
  have get : ∀ i, Reads Try.prog h 3 ((l.drop i).take 1) → ∃ n : Int, (l.drop i).take 1 = [.int .i64 n] := fun i hi => by
    obtain ⟨n, e, _⟩ := cell_int Try.underlying3 hi
    exact ⟨n, e⟩
  cases r with
  | int ht' hw => rw [Try.underlying50] at ht'; cases ht'
  | bool ht' => rw [Try.underlying50] at ht'; cases ht'
  | str ht' => rw [Try.underlying50] at ht'; cases ht'
  | snil ht' => rw [Try.underlying50] at ht'; cases ht'
  | sl ht' => rw [Try.underlying50] at ht'; cases ht'
  | struct ht' hl hf =>
    rw [Try.underlying50] at ht'
    injection ht' with ht'
    injection ht' with ht'
    subst ht'
    rw [hc] at hl
    simp only [List.mem_cons, List.not_mem_nil, or_false, forall_eq_or_imp, forall_eq, hz] at hf
    obtain ⟨f0, f1, f2, f3, f4, f5, f6, f7, f8, f9, f10⟩ := hf
    obtain ⟨n0, g0⟩ := get 0 f0
    obtain ⟨n1, g1⟩ := get 1 f1
    obtain ⟨n2, g2⟩ := get 2 f2
    obtain ⟨n3, g3⟩ := get 3 f3
    obtain ⟨n4, g4⟩ := get 4 f4
    obtain ⟨n5, g5⟩ := get 5 f5
    obtain ⟨n6, g6⟩ := get 6 f6
    obtain ⟨n7, g7⟩ := get 7 f7
    obtain ⟨n8, g8⟩ := get 8 f8
    obtain ⟨n9, g9⟩ := get 9 f9
    obtain ⟨n10, g10⟩ := get 10 f10
    match l, hl with
    | [x0, x1, x2, x3, x4, x5, x6, x7, x8, x9, x10], _ =>
      simp only [List.drop_zero, List.drop_succ_cons, List.take_succ_cons, List.take_zero, List.cons.injEq, and_true] at g0 g1 g2 g3 g4 g5 g6 g7 g8 g9 g10
      exact ⟨⟨n0, n1, n2, n3, n4, n5, n6, n7, n8, n9, n10⟩, by rw [g0, g1, g2, g3, g4, g5, g6, g7, g8, g9, g10]; rfl⟩
theorem from13_calls {v : AV} {ws : List Nat} {h : H} {K : AV → H → Prop} (hv : IsN h v ws) (hd : Dig ws) (hlen : ws.length ≤ 1099511627776)
    (hk : ∀ r h', h'.wf → h.le h' → Num 4294967296 h' r (val 18446744073709551616 ws) → K r h') : ACalls Try.prog 35 [v] h K := by
  refine in_law13_from (by simp) fun hw => ?_
  unfold c_law13_from
  simp only [go_sem, ↓reduceIte, Nat.reduceEqDiff, Nat.reduceAdd, Bool.false_eq_true, Int.reduceToNat]
  refine From_calls hv hd hlen fun r h' hw' hl' hr => ?_
  simp only [go_sem, ↓reduceIte, Nat.reduceEqDiff, Nat.reduceAdd, Bool.false_eq_true, Int.reduceToNat]
  exact fun _ => hk r h' hw' hl' hr
theorem words_calls {v : AV} {xs : List Nat} {h : H} {K : AV → H → Prop} (hv : IsN h v xs) (hd : Dig xs) (hlen : xs.length < 4611686018427387904) (hk : K (.int .i64 (wlen (val 18446744073709551616 xs) : Nat)) h) : ACalls Try.prog 32 [v] h K := by
  refine in_law13_words (by simp) fun hw => ?_
  unfold c_law13_words
  simp only [go_sem, ↓reduceIte, Nat.reduceEqDiff, Nat.reduceAdd, Bool.false_eq_true, Int.reduceToNat]
  refine Len_calls hv hd hlen ?_
  simp only [go_sem, ↓reduceIte, Nat.reduceEqDiff, Nat.reduceAdd, Bool.false_eq_true, Int.reduceToNat]
  exact fun _ => hk
theorem wakes13_calls {h : H} {K : AV → H → Prop} (hk : ∀ h', h'.wf → h.le h' → K (.bool true) h') : ACalls Try.prog 33 [] h K := by
  refine in_law13_wakes (by simp) fun hw => ?_
  unfold c_law13_wakes
  have e1 : ∀ l : List AV, abuild l [] = some l := fun l => by simp [abuild]
  simp only [go_sem, ↓reduceIte, Nat.reduceEqDiff, Nat.reduceAdd, Bool.false_eq_true, Int.reduceToNat, e1]
  refine dNew_calls (t := ⟨0, 0, 0, 0, 0, 0, 0, 0, 0, 0, 0⟩) fun e u h1 hw1 hl1 hn1 hue he ht => ?_
  simp only [go_sem, ↓reduceIte, Nat.reduceEqDiff, Nat.reduceAdd, Bool.false_eq_true, Int.reduceToNat, Bool.false_bne, Option.isNone]
  have hw2 := H.wf_new hw1 ⟨some 23, 1, [AV.int .u64 0, AV.int .u64 1]⟩
  have hl2 := H.le_new hw1 (H.le_refl h1) ⟨some 23, 1, [AV.int .u64 0, AV.int .u64 1]⟩
  have hl3 := H.le_new hw2 (H.le_refl _) ⟨some 23, 1, [AV.int .u64 3]⟩
  have d1 : Dig [0, 1] := fun z hz => by simp at hz; omega
  have d2 : Dig [3] := Dig.one (by omega)
  have hx : Big (val 18446744073709551616 [0, 1]) := lt_big64 (k := 2) (by decide) (by omega)
  have hy : Big (val 18446744073709551616 [3]) := word_big (by decide)
  refine Long_calls (x := val 18446744073709551616 [0, 1]) (y := val 18446744073709551616 [3]) ((he.mono hl2).mono hl3) ((ht.mono hl2).mono hl3) (((IsN.lit [0, 1] _ rfl rfl).mono hl3).nn d1 (by simp)) ((IsN.lit [3] _ rfl rfl).nn d2 (by simp)) hx hy (fun h => absurd h (by decide)) fun _ q r h4 hw4 hl4 ht4 hq hr => ?_
  obtain ⟨qs, hq1, hq2, hq3, hq4⟩ := hq
  obtain ⟨rs, hr1, hr2, hr3, hr4⟩ := hr
  have hql : qs.length = 1 := by rw [top_len hq2 hq3, hq4]; decide
  have hrl : rs = [1] := top_inj hr2 (Dig.one (by omega)) hr3 (fun z hz => by simp at hz; omega) (by rw [hr4]; decide)
  subst hrl
  obtain ⟨iq, cq, rfl⟩ := hq1.form
  have hln : h.le h4 := ⟨by have := hl4.1; have := hl3.1; have := hl2.1; have := hl1.1; omega, fun i p hp => hl4.2 i p (by have := H.row_lt hw hp; omega) (hl3.2 _ _ (hl2.2 _ _ (hl1.2 _ _ hp)))⟩
  simp only [go_sem, ↓reduceIte, Nat.reduceEqDiff, Nat.reduceAdd, Bool.false_eq_true, Int.reduceToNat, beq_self_eq_true, hql, eqT (show ((1 : Nat) : Int) = 1 from rfl)]
  have hl5 := H.le_new hw4 (H.le_refl h4) ⟨some 23, 1, [AV.int .u64 1]⟩
  refine kSame_calls (xs := [1]) (hr1.isN.mono hl5) (IsN.lit [1] _ rfl rfl) (by simp) ?_
  simp only [go_sem, ↓reduceIte, Nat.reduceEqDiff, Nat.reduceAdd, Bool.false_eq_true, Int.reduceToNat]
  exact fun hw' => hk _ hw' (H.le_trans hln hl5)
/-- The rows below n, asx they are. -/
def H.upto (h : H) (n : Nat) : H := { rows := fun i => if i < n then h.rows i else none, next := n }
theorem H.upto_next (h : H) (n : Nat) : (h.upto n).next = n := rfl
theorem H.upto_wf (h : H) (n : Nat) : (h.upto n).wf := fun i hi => by
  show (if i < n then h.rows i else none) = none
  rw [if_neg]
  exact Nat.not_lt.2 hi
theorem H.upto_le {h : H} {n : Nat} (hn : n ≤ h.next) : (h.upto n).le h := ⟨hn, fun i r hr => by
  have hr' : (if i < n then h.rows i else none) = some r := hr
  split at hr'
  · exact hr'
  · cases hr'⟩
theorem upto_row {u : Nat} {h h' : H} (hw : h.wf) (hl : H.lee u h h') {i : Nat} {r : Row} (hi : i ≠ u) (hr : h.rows i = some r) : (h'.upto h.next).rows i = some r := by
  show (if i < h.next then h'.rows i else none) = some r
  rw [if_pos (H.row_lt hw hr)]
  exact hl.2 i r hi hr
theorem IsG.upto {b u : Nat} {h h' : H} {v : AV} {xs : List Nat} (hw : h.wf) (hl : H.lee u h h') (hub : u < b) (hv : IsG b h v xs) : IsG b (h'.upto h.next) v xs := by
  obtain ⟨id, c, rfl, h1⟩ := hv
  refine ⟨id, c, rfl, ?_⟩
  rcases h1 with h1 | ⟨i, r, rfl, hb, hr, h2⟩
  · exact .inl h1
  · exact .inr ⟨i, r, rfl, hb, upto_row hw hl (by omega) hr, h2⟩
theorem IsN.upto {u m nw dp : Nat} {t : Tb} {h h' : H} {v : AV} {xs : List Nat} (hw : h.wf) (ht : Tune h u m nw dp t) (hl : H.lee u h h') (hv : IsN h v xs) : IsN (h'.upto h.next) v xs := by
  obtain ⟨id, off, c, rfl, h1⟩ := hv
  refine ⟨id, off, c, rfl, ?_⟩
  rcases h1 with h1 | ⟨i, r, rfl, hr, hor, h3⟩
  · exact .inl h1
  · refine .inr ⟨i, r, rfl, upto_row hw hl ?_ hr, hor, h3⟩
    rintro rfl
    rw [ht] at hr
    injection hr with hr
    subst hr
    rcases hor with h | h <;> simp [tuneRow] at h
theorem Lent.upto {b u : Nat} {h h' : H} {v : AV} {xs : List Nat} (hw : h.wf) (hl : H.lee u h h') (hub : u < b) (hv : Lent b h v xs) : Lent b (h'.upto h.next) v xs := by
  obtain ⟨id, e, h1⟩ := hv
  exact ⟨id, e, h1.upto hw hl hub⟩
theorem DivsLongs_law {t : Tb} {va vb : AV} {xs0 ys0 : List Nat} {h : H} {K : AV → H → Prop} (hv0 : IsN h va xs0) (hx0 : ∀ x ∈ xs0, x < 18446744073709551616) (hu0 : IsN h vb ys0) (hy0 : ∀ x ∈ ys0, x < 18446744073709551616) (hk : ∀ h', h'.wf → K (.bool true) h') : ACalls Try.prog 5 [t.av, va, vb] h K := by
  refine in_law13_DivsLongs (by simp) fun hw => ?_
  unfold c_law13_DivsLongs
  have hl0 := H.le_new hw (H.le_refl h) ⟨some 50, 11, t.cells⟩
  have hr0 := H.rows_new h ⟨some 50, 11, t.cells⟩
  simp only [go_sem, ↓reduceIte, Nat.reduceEqDiff, Nat.reduceAdd, Bool.false_eq_true, Int.reduceToNat, av_held, av_cells, cells_len, true_and]
  generalize hg : h.new ⟨some 50, 11, t.cells⟩ = g0 at *
  refine Cut_calls (n := 40) (hv0.mono hl0) fun a ha => ?_
  simp only [go_sem, ↓reduceIte, Nat.reduceEqDiff, Nat.reduceAdd, Bool.false_eq_true, Int.reduceToNat]
  refine Cut_calls (n := 30) (hu0.mono hl0) fun b hb => ?_
  have hxd : Dig (xs0.take 40) := Dig.take hx0 40
  have hyd : Dig (ys0.take 30) := Dig.take hy0 30
  have hxl : (xs0.take 40).length ≤ 40 := by simp; omega
  have hyl : (ys0.take 30).length ≤ 30 := by simp; omega
  generalize xs0.take 40 = xs at *
  generalize ys0.take 30 = ys at *
  simp only [go_sem, ↓reduceIte, Nat.reduceEqDiff, Nat.reduceAdd, Bool.false_eq_true, Int.reduceToNat, gsT hr0]
  refine dNew_calls fun e u g1 hw1 hl1 hn1 hue he ht => ?_
  simp only [go_sem, ↓reduceIte, Nat.reduceEqDiff, Nat.reduceAdd, Bool.false_eq_true, Int.reduceToNat, Option.isNone, Bool.false_bne]
  refine Lend_calls (ha.mono hl1) (by omega) fun x g2 hw2 hl2 lx => ?_
  simp only [go_sem, ↓reduceIte, Nat.reduceEqDiff, Nat.reduceAdd, Bool.false_eq_true, Int.reduceToNat]
  refine Lend_calls (hb.mono (H.le_trans hl1 hl2)) (by omega) fun y g3 hw3 hl3 ly => ?_
  have lx3 := lx.mono hl3
  have bx : Big (val 18446744073709551616 xs) := lt_big64 (k := 40) (Nat.lt_of_lt_of_le (val_lt 18446744073709551616 (by omega) xs hxd) (Nat.pow_le_pow_right (by omega) hxl)) (by omega)
  have by_ : Big (val 18446744073709551616 ys) := lt_big64 (k := 30) (Nat.lt_of_lt_of_le (val_lt 18446744073709551616 (by omega) ys hyd) (Nat.pow_le_pow_right (by omega) hyl)) (by omega)
  have hut := H.row_lt hw1 ht
  have ht3 := (ht.mono hl2).mono hl3
  have hA3 := ha.mono (H.le_trans hl1 (H.le_trans hl2 hl3))
  have hB3 := hb.mono (H.le_trans hl1 (H.le_trans hl2 hl3))
  simp only [go_sem, ↓reduceIte, Nat.reduceEqDiff, Nat.reduceAdd, Bool.false_eq_true, Int.reduceToNat]
  refine Long_calls ((he.mono hl2).mono hl3) ht3 (lx3.isN.nn hxd (by omega)) (ly.isN.nn hyd (by omega)) bx by_ (fun hz hw4 => ?_) (fun hpos q r g4 hw4 hl4 ht4 hq hr => ?_)
  · simp only [go_sem, ↓reduceIte, Nat.reduceEqDiff, Nat.reduceAdd, Bool.false_eq_true, Int.reduceToNat]
    refine words_calls hA3 hxd (by omega) ?_
    simp only [go_sem, ↓reduceIte, Nat.reduceEqDiff, Nat.reduceAdd, Bool.false_eq_true, Int.reduceToNat]
    refine words_calls hB3 hyd (by omega) ?_
    rw [hz, wlen_zero]
    simp only [go_sem, ↓reduceIte, Nat.reduceEqDiff, Nat.reduceAdd, Bool.false_eq_true, Int.reduceToNat, eqT (show ((0 : Nat) : Int) = 0 from rfl), beq_self_eq_true]
    refine wakes13_calls fun g5 hw5 hl5 => ?_
    simp only [go_sem, ↓reduceIte, Nat.reduceEqDiff, Nat.reduceAdd, Bool.false_eq_true, Int.reduceToNat]
    exact fun _ => hk g5 hw5
  · have hA4 := hA3.monoE ht3 hl4
    have hB4 := hB3.monoE ht3 hl4
    have hm1 : wlen (val 18446744073709551616 ys) ≠ 0 := fun h => by have := wlen_eq_zero.1 h; omega
    have hwx : wlen (val 18446744073709551616 xs) ≤ 40 := Nat.le_trans (wlen_len hxd) hxl
    have hwy : wlen (val 18446744073709551616 ys) ≤ 30 := Nat.le_trans (wlen_len hyd) hyl
    simp only [go_sem, ↓reduceIte, Nat.reduceEqDiff, Nat.reduceAdd, Bool.false_eq_true, Int.reduceToNat]
    refine words_calls hA4 hxd (by omega) ?_
    simp only [go_sem, ↓reduceIte, Nat.reduceEqDiff, Nat.reduceAdd, Bool.false_eq_true, Int.reduceToNat]
    refine words_calls hB4 hyd (by omega) ?_
    simp only [go_sem, ↓reduceIte, Nat.reduceEqDiff, Nat.reduceAdd, Bool.false_eq_true, Int.reduceToNat, eqF (show ((wlen (val 18446744073709551616 ys) : Nat) : Int) ≠ 0 by omega)]
    refine from13_calls hA4 hxd (by omega) fun fa g5 hw5 hl5 nfa => ?_
    simp only [go_sem, ↓reduceIte, Nat.reduceEqDiff, Nat.reduceAdd, Bool.false_eq_true, Int.reduceToNat]
    refine from13_calls (hB4.mono hl5) hyd (by omega) fun fb g6 hw6 hl6 nfb => ?_
    simp only [go_sem, ↓reduceIte, Nat.reduceEqDiff, Nat.reduceAdd, Bool.false_eq_true, Int.reduceToNat]
    refine DivMod_calls (nfa.mono hl6) nfb bx by_ hpos fun qq rr g7 hw7 hl7 nq nr => ?_
    simp only [go_sem, ↓reduceIte, Nat.reduceEqDiff, Nat.reduceAdd, Bool.false_eq_true, Int.reduceToNat]
    have hle47 := (H.le_trans hl5 (H.le_trans hl6 hl7))
    refine cond_cut (fun ρ' h2 => h2 = g7 ∧ ρ' 1 = a ∧ ρ' 2 = b ∧ ρ' 7 = .ptr (some (e, 0)) ∧ ρ' 8 = x ∧ ρ' 9 = y ∧ ρ' 10 = q ∧ ρ' 11 = r ∧ ρ' 12 = .int .i64 0 ∧ ρ' 15 = qq ∧ ρ' 16 = rr ∧ ρ' 17 = .int .i64 ((longCost (val 18446744073709551616 xs) (val 18446744073709551616 ys) : Nat) : Int)) ?_ ?_
    · rcases Nat.lt_or_ge (wlen (val 18446744073709551616 xs)) (wlen (val 18446744073709551616 ys)) with hlt | hge
      · have ec : longCost (val 18446744073709551616 xs) (val 18446744073709551616 ys) = 0 := by unfold longCost; rw [if_pos hlt]
        rw [ec]
        simp only [go_sem, ↓reduceIte, Nat.reduceEqDiff, Nat.reduceAdd, Bool.false_eq_true, Int.reduceToNat, leF hlt]
        exact ⟨trivial, trivial, trivial, trivial, trivial, trivial, trivial, trivial, trivial, trivial, trivial, rfl⟩
      · have ec : longCost (val 18446744073709551616 xs) (val 18446744073709551616 ys) = (wlen (val 18446744073709551616 xs) - wlen (val 18446744073709551616 ys) + 1) * (wlen (val 18446744073709551616 ys) + 1) := by unfold longCost; rw [if_neg (by omega)]
        have hcb : (wlen (val 18446744073709551616 xs) - wlen (val 18446744073709551616 ys) + 1) * (wlen (val 18446744073709551616 ys) + 1) ≤ 41 * 31 := Nat.mul_le_mul (by omega) (by omega)
        rw [ec]
        simp only [go_sem, ↓reduceIte, Nat.reduceEqDiff, Nat.reduceAdd, Bool.false_eq_true, Int.reduceToNat, leT hge, subI (a := wlen (val 18446744073709551616 xs)) (b := wlen (val 18446744073709551616 ys)) hge (by omega), incI (i := wlen (val 18446744073709551616 xs) - wlen (val 18446744073709551616 ys)) (by omega), incI (i := wlen (val 18446744073709551616 ys)) (by omega), mulI (a := wlen (val 18446744073709551616 xs) - wlen (val 18446744073709551616 ys) + 1) (b := wlen (val 18446744073709551616 ys) + 1) (by omega)]
        exact ⟨trivial, trivial, trivial, trivial, trivial, trivial, trivial, trivial, trivial, trivial, trivial, trivial⟩
    rintro ρ g7' ⟨rfl, q1, q2, q7, q8, q9, q10, q11, q12, q15, q16, q17⟩
    have hqN := hq.nt.mono hle47
    have hrN := hr.nt.mono hle47
    simp only [go_sem, ↓reduceIte, Nat.reduceEqDiff, Nat.reduceAdd, Bool.false_eq_true, Int.reduceToNat, q1, q2, q7, q8, q9, q10, q11, q12, q15, q16, q17, neF (show (0 : Int) = 0 from rfl)]
    refine rSame_calls nq (bx.le (Nat.div_le_self _ _)) hqN fun g8 hw8 hl8 => ?_
    simp only [go_sem, ↓reduceIte, Nat.reduceEqDiff, Nat.reduceAdd, Bool.false_eq_true, Int.reduceToNat, Bool.not_true, q16, q11, q7, q17]
    refine rSame_calls (nr.mono hl8) (by_.le (Nat.le_of_lt (Nat.mod_lt _ hpos))) (hrN.mono hl8) fun g9 hw9 hl9 => ?_
    have hle49 := (H.le_trans hle47 (H.le_trans hl8 hl9))
    have he9 := (((he.mono hl2).mono hl3).monoE ht3 hl4).mono hle49
    have ht9 := ht4.mono hle49
    simp only [Eng] at he9
    obtain ⟨r1, e1, hr1, hc1, r2, e2, hr2, hc2, r3, e3, hr3, hc3, r4, e4, hr4, hc4, r5, e5, hr5, hc5, rfl⟩ := he9
    have k1 : g9.get e 0 = some (.ptr (some (e1, 0))) := by rw [H.get_of hr1, hc1]; rfl
    have k2 : g9.get e1 0 = some (.ptr (some (e2, 0))) := by rw [H.get_of hr2, hc2]; rfl
    have k3 : g9.get e2 0 = some (.ptr (some (e3, 0))) := by rw [H.get_of hr3, hc3]; rfl
    have k4 : g9.get e3 0 = some (.ptr (some (e4, 0))) := by rw [H.get_of hr4, hc4]; rfl
    have k5 : g9.get e4 0 = some (.ptr (some (e5, 0))) := by rw [H.get_of hr5, hc5]; rfl
    simp only [go_sem, ↓reduceIte, Nat.reduceEqDiff, Nat.reduceAdd, Bool.false_eq_true, Int.reduceToNat, Bool.not_true, q7, k1, k2, k3, k4, k5]
    refine Muls2_calls ht9 ?_
    rw [Nat.zero_add, wr_small (m := longCost (val 18446744073709551616 xs) (val 18446744073709551616 ys)) (by have := longCost_le hwx hwy; omega)]
    simp only [go_sem, ↓reduceIte, Nat.reduceEqDiff, Nat.reduceAdd, Bool.false_eq_true, Int.reduceToNat, q17, neF (show ((longCost (val 18446744073709551616 xs) (val 18446744073709551616 ys) : Nat) : Int) = (longCost (val 18446744073709551616 xs) (val 18446744073709551616 ys) : Nat) from rfl), q10, q11]
    have hle39 : H.lee e5 g3 g9 := hl4.trans hle49.lee
    have hu2 : e5 < g2.next := Nat.lt_of_lt_of_le hut hl2.1
    have uw := H.upto_wf g9 g3.next
    have ule := H.upto_le hle39.1
    have hun := Nat.le_of_eq (H.upto_next g9 g3.next)
    have ux := lx3.upto hw3 hle39 hut
    have uy := ly.upto hw3 hle39 hu2
    have ua := hA3.upto hw3 ht3 hle39
    have ub := hB3.upto hw3 ht3 hle39
    generalize g9.upto g3.next = gu at *
    refine Spoil_calls (hq.mono hle49).own fun g10 hw10 hka10 hko10 => ?_
    simp only [go_sem, ↓reduceIte, Nat.reduceEqDiff, Nat.reduceAdd, Bool.false_eq_true, Int.reduceToNat, q11]
    refine Spoil_calls (hko10 _ _ (hr.mono hle49).own) fun g11 hw11 hka11 _ => ?_
    have ul := hka11 gu uw (hka10 gu uw ule hun) hun
    simp only [go_sem, ↓reduceIte, Nat.reduceEqDiff, Nat.reduceAdd, Bool.false_eq_true, Int.reduceToNat, q8, q1]
    refine Intact_calls (ux.mono ul) (ua.mono ul) (by omega) ?_
    simp only [go_sem, ↓reduceIte, Nat.reduceEqDiff, Nat.reduceAdd, Bool.false_eq_true, Int.reduceToNat, q9, q2]
    refine Intact_calls (uy.mono ul) (ub.mono ul) (by omega) ?_
    simp only [go_sem, ↓reduceIte, Nat.reduceEqDiff, Nat.reduceAdd, Bool.false_eq_true, Int.reduceToNat]
    refine wakes13_calls fun g12 hw12 hl12 => ?_
    simp only [go_sem, ↓reduceIte, Nat.reduceEqDiff, Nat.reduceAdd, Bool.false_eq_true, Int.reduceToNat]
    exact fun _ => hk g12 hw12
set_option maxRecDepth 100000 in
theorem DivsLongs_row (h : H) (avs : List AV) (_ : h.wf) (r : ReadsAll Try.prog h [50, 28, 28] avs) : ACalls Try.prog 5 avs h (fun r _ => r = .bool true) := by
  match avs, r with
  | [_, _, _], ⟨r0, r1, r2, _⟩ =>
    obtain ⟨t0, rfl⟩ := reads_table r0
    obtain ⟨xs, h1, hx, _⟩ := reads_words r1
    obtain ⟨ys, h2, hy, _⟩ := reads_words r2
    exact DivsLongs_law h1 hx h2 hy fun _ _ => rfl
end Ab
end Go.Proofs.Ytnmnkocibjdhjaa
namespace Go.Proofs.Ytnmnkocibjdhjaa
namespace Ab
open Go Go.RowKit
set_option linter.unusedSimpArgs false
set_option linter.unusedVariables false
theorem putAt_len {l m : List AV} {k : Nat} (h : k + m.length ≤ l.length) : (putAt l k m).length = l.length := by simp [putAt]; omega
theorem putAt_get {l m : List AV} {k i : Nat} (h : k + m.length ≤ l.length) : (putAt l k m)[i]? = if k ≤ i ∧ i < k + m.length then m[i - k]? else l[i]? := by
  unfold putAt
  have hm : min k l.length = k := by omega
  rcases Nat.lt_or_ge i k with h1 | h1
  · rw [if_neg (by omega), List.append_assoc, List.getElem?_append_left (by simp; omega), List.getElem?_take, if_pos h1]
  · rcases Nat.lt_or_ge i (k + m.length) with h2 | h2
    · rw [if_pos ⟨h1, h2⟩, List.append_assoc, List.getElem?_append_right (by simp; omega), List.getElem?_append_left (by simp; omega)]
      simp [hm]
    · rw [if_neg (by omega), List.getElem?_append_right (by simp; omega), List.getElem?_drop]
      congr 1
      simp [hm]
      omega
/-- A slice of n elements, z cells each, that reads asx these cells. -/
def IsC (z : Nat) (h : H) (v : AV) (n : Nat) (cs : List AV) : Prop :=
  cs.length = n * z ∧ ∃ id off c, v = .sl id off n c ∧ ((id = none ∧ n = 0 ∧ off = 0) ∨ ∃ i r, id = some i ∧ h.rows i = some r ∧ (r.own = none ∨ r.esz = z) ∧ off + n * z ≤ r.cells.length ∧ (r.cells.drop off).take (n * z) = cs)
/-- One that the call has made, from row b on. -/
def IsCF (t : TypeId) (z b : Nat) (h : H) (v : AV) (n : Nat) (cs : List AV) : Prop :=
  cs.length = n * z ∧ ∃ id c, v = .sl id 0 n c ∧ ((id = none ∧ n = 0) ∨ ∃ i r, id = some i ∧ b ≤ i ∧ h.rows i = some r ∧ r.own = some t ∧ r.esz = z ∧ n * z ≤ r.cells.length ∧ r.cells.take (n * z) = cs)
theorem IsCF.isC {t : TypeId} {z b n : Nat} {h : H} {v : AV} {cs : List AV} (hv : IsCF t z b h v n cs) : IsC z h v n cs := by
  obtain ⟨hl, id, c, rfl, h1⟩ := hv
  refine ⟨hl, id, 0, c, rfl, ?_⟩
  rcases h1 with ⟨rfl, rfl⟩ | ⟨i, r, rfl, _, hr, _, he, hf, ht⟩
  · exact .inl ⟨rfl, rfl, rfl⟩
  · exact .inr ⟨i, r, rfl, hr, .inr he, by omega, by simpa using ht⟩
theorem IsC.mono {z n : Nat} {h h' : H} {v : AV} {cs : List AV} (hv : IsC z h v n cs) (hl : h.le h') : IsC z h' v n cs := by
  obtain ⟨h0, id, off, c, rfl, h1⟩ := hv
  refine ⟨h0, id, off, c, rfl, ?_⟩
  rcases h1 with h1 | ⟨i, r, rfl, hr, h2⟩
  · exact .inl h1
  · exact .inr ⟨i, r, rfl, hl.2 i r hr, h2⟩
theorem IsCF.mono {t : TypeId} {z b n : Nat} {h h' : H} {v : AV} {cs : List AV} (hv : IsCF t z b h v n cs) (hl : h.le h') : IsCF t z b h' v n cs := by
  obtain ⟨h0, id, c, rfl, h1⟩ := hv
  refine ⟨h0, id, c, rfl, ?_⟩
  rcases h1 with h1 | ⟨i, r, rfl, hb, hr, h2⟩
  · exact .inl h1
  · exact .inr ⟨i, r, rfl, hb, hl.2 i r hr, h2⟩
theorem IsCF.base {t : TypeId} {z b b' n : Nat} {h : H} {v : AV} {cs : List AV} (hv : IsCF t z b h v n cs) (hb : b' ≤ b) : IsCF t z b' h v n cs := by
  obtain ⟨h0, id, c, rfl, h1⟩ := hv
  refine ⟨h0, id, c, rfl, ?_⟩
  rcases h1 with h1 | ⟨i, r, rfl, hb', h2⟩
  · exact .inl h1
  · exact .inr ⟨i, r, rfl, by omega, h2⟩
theorem IsC.monoE {u m nw dp z n : Nat} {tb : Tb} {h h' : H} {v : AV} {cs : List AV} (ht : Tune h u m nw dp tb) (hz : z ≠ 14) (hv : IsC z h v n cs) (hl : H.lee u h h') : IsC z h' v n cs := by
  obtain ⟨h0, id, off, c, rfl, h1⟩ := hv
  refine ⟨h0, id, off, c, rfl, ?_⟩
  rcases h1 with h1 | ⟨i, r, rfl, hr, hor, h2⟩
  · exact .inl h1
  · refine .inr ⟨i, r, rfl, hl.2 i r ?_ hr, hor, h2⟩
    rintro rfl
    rw [ht] at hr
    injection hr with hr
    subst hr
    rcases hor with h | h
    · simp [tuneRow] at h
    · exact hz h.symm
theorem IsCF.monoE {t : TypeId} {z b n u : Nat} {h h' : H} {v : AV} {cs : List AV} (hub : u < b) (hv : IsCF t z b h v n cs) (hl : H.lee u h h') : IsCF t z b h' v n cs := by
  obtain ⟨h0, id, c, rfl, h1⟩ := hv
  refine ⟨h0, id, c, rfl, ?_⟩
  rcases h1 with h1 | ⟨i, r, rfl, hb, hr, h2⟩
  · exact .inl h1
  · exact .inr ⟨i, r, rfl, hb, hl.2 i r (by omega) hr, h2⟩
theorem IsCF.nil (t : TypeId) (z b : Nat) (h : H) (c : Option Nat) : IsCF t z b h (.sl none 0 0 c) 0 [] := ⟨by simp, none, c, rfl, .inl ⟨rfl, rfl⟩⟩
theorem IsC.nil (z : Nat) (h : H) (c : Option Nat) : IsC z h (.sl none 0 0 c) 0 [] := ⟨by simp, none, 0, c, rfl, .inl ⟨rfl, rfl, rfl⟩⟩
theorem IsC.form {z n : Nat} {h : H} {v : AV} {cs : List AV} (hv : IsC z h v n cs) : ∃ id off c, v = .sl id off n c := by
  obtain ⟨_, id, off, c, e, _⟩ := hv
  exact ⟨id, off, c, e⟩
theorem IsCF.form {t : TypeId} {z b n : Nat} {h : H} {v : AV} {cs : List AV} (hv : IsCF t z b h v n cs) : ∃ id c, v = .sl id 0 n c := by
  obtain ⟨_, id, c, e, _⟩ := hv
  exact ⟨id, c, e⟩
theorem IsC.row {z n m : Nat} {h : H} {id : Option Nat} {off : Nat} {c : Option Nat} {cs : List AV} (hv : IsC z h (.sl id off m c) n cs) : ∀ i, id = some i → ∃ r, h.rows i = some r ∧ (r.own = none ∨ r.esz = z) := by
  obtain ⟨_, id', off', c', e, h1⟩ := hv
  injection e with e1 e2 e3 e4
  subst e1
  rintro i rfl
  rcases h1 with ⟨h0, _, _⟩ | ⟨i', r, h0, hr, he, _⟩
  · cases h0
  · injection h0 with h0
    subst h0
    exact ⟨r, hr, he⟩
/-- A cell that is there. -/
theorem IsC.at {z n m : Nat} {h : H} {id : Option Nat} {off : Nat} {c : Option Nat} {cs : List AV} (hv : IsC z h (.sl id off m c) n cs) {j : Nat} (hj : j < n * z) : ∃ i, id = some i ∧ m = n ∧ h.get i (off + j) = cs[j]? := by
  obtain ⟨hl, id', off', c', e, h1⟩ := hv
  injection e with e1 e2 e3 e4
  subst e1; subst e2; subst e3; subst e4
  rcases h1 with ⟨_, rfl, _⟩ | ⟨i, r, rfl, hr, _, hf, ht⟩
  · simp at hj
  · refine ⟨i, rfl, rfl, ?_⟩
    rw [← ht, List.getElem?_take, if_pos hj, List.getElem?_drop]
    simp [H.get, hr]
/-- An element that is there, whole. -/
theorem IsC.ats {z n m : Nat} {h : H} {id : Option Nat} {off : Nat} {c : Option Nat} {cs : List AV} (hv : IsC z h (.sl id off m c) n cs) {j w : Nat} (hj : j + w ≤ n * z) (hw : 0 < w) : ∃ i, id = some i ∧ m = n ∧ h.gets i (off + j) w = some ((cs.drop j).take w) := by
  obtain ⟨hl, id', off', c', e, h1⟩ := hv
  injection e with e1 e2 e3 e4
  subst e1; subst e2; subst e3; subst e4
  rcases h1 with ⟨_, rfl, _⟩ | ⟨i, r, rfl, hr, _, hf, ht⟩
  · simp at hj; omega
  · refine ⟨i, rfl, rfl, ?_⟩
    simp only [H.gets, hr, Option.bind_some]
    rw [if_pos (by omega), ← ht, List.drop_take, List.take_take, List.drop_drop, Nat.min_eq_left (by omega)]
theorem IsC.cut {z n m : Nat} {h : H} {id : Option Nat} {off : Nat} {c c' : Option Nat} {cs : List AV} (hv : IsC z h (.sl id off m c) n cs) {a b : Nat} (hab : a ≤ b) (hb : b ≤ n) : IsC z h (.sl id (off + a * z) (b - a) c') (b - a) ((cs.take (b * z)).drop (a * z)) := by
  obtain ⟨hl, id', off', c2, e, h1⟩ := hv
  injection e with e1 e2 e3 e4
  subst e1; subst e2; subst e3
  have q1 : a * z ≤ b * z := Nat.mul_le_mul_right _ hab
  have q2 : b * z ≤ m * z := Nat.mul_le_mul_right _ hb
  have q3 : (b - a) * z = b * z - a * z := Nat.sub_mul _ _ _
  refine ⟨by simp; omega, id, off + a * z, c', rfl, ?_⟩
  rcases h1 with ⟨rfl, rfl, rfl⟩ | ⟨i, r, rfl, hr, he, hf, ht⟩
  · have : b = 0 := by omega
    subst this
    have : a = 0 := by omega
    subst this
    exact .inl ⟨rfl, rfl, by simp⟩
  · refine .inr ⟨i, r, rfl, hr, he, by omega, ?_⟩
    rw [q3, ← ht, List.take_take, Nat.min_eq_left q2, List.drop_take, List.drop_drop]
theorem IsCF.cut {t : TypeId} {z b n m : Nat} {h : H} {id : Option Nat} {c c' : Option Nat} {cs : List AV} (hv : IsCF t z b h (.sl id 0 m c) n cs) {k : Nat} (hk : k ≤ n) : IsCF t z b h (.sl id 0 k c') k (cs.take (k * z)) := by
  obtain ⟨hl, id', c2, e, h1⟩ := hv
  injection e with e1 e2 e3 e4
  subst e1; subst e3
  have q : k * z ≤ m * z := Nat.mul_le_mul_right _ hk
  refine ⟨by simp; omega, id, c', rfl, ?_⟩
  rcases h1 with ⟨rfl, rfl⟩ | ⟨i, r, rfl, hbi, hr, ho, he, hf, ht⟩
  · exact .inl ⟨rfl, by omega⟩
  · exact .inr ⟨i, r, rfl, hbi, hr, ho, he, by omega, by rw [← ht, List.take_take, Nat.min_eq_left q]⟩
/-- append, onto a row of the call's own. -/
theorem app_cells {t : TypeId} {z b : Nat} {h : H} {K : AV → H → Prop} {s x : AV} {n m : Nat} {cs ds : List AV} {bt : Nat} (hz : 0 < z) (hw : h.wf) (hs : IsCF t z b h s n cs) (hx : IsC z h x m ds) (hd : ds.all (·.one) = true) (hb : b ≤ h.next) (hl : (n + m) * bt ≤ 140737488355328) (hl2 : n + m ≤ 140737488355328)
    (hk : ∀ v h', h'.wf → IsCF t z b h' v (n + m) (cs ++ ds) → h.next ≤ h'.next → (∀ i r, i < b → h.rows i = some r → h'.rows i = some r) → K v h') : appK t z bt s x h K := by
  have hs0 := hs
  obtain ⟨hcl, ids, cc, rfl, hs⟩ := hs
  obtain ⟨hdl, idx, offx, cx, rfl, hx⟩ := hx
  simp only [appK]
  refine ⟨fun h0 => ?_, fun h0 => ?_⟩
  · subst h0
    have : ds = [] := List.eq_nil_of_length_eq_zero (by simpa using hdl)
    subst this
    exact hk _ _ hw (by simpa using hs0) (Nat.le_refl _) (fun i r _ e => e)
  · rcases hx with ⟨_, rfl, _⟩ | ⟨j, r, rfl, hr, _, hfit, ht⟩
    · simp at h0
    · refine ⟨j, r, rfl, hr, hfit, by rw [ht]; exact hd, hl, hl2, ?_⟩
      rw [ht]
      rcases hs with ⟨rfl, rfl⟩ | ⟨i, q, rfl, hbi, hq, ho, he, hf2, ht2⟩
      · have : cs = [] := List.eq_nil_of_length_eq_zero (by simpa using hcl)
        subst this
        refine .inl ⟨rfl, rfl, hk _ _ (H.wf_new hw _) ?_ (by simp [H.new]) (fun i q hi e => ?_)⟩
        · refine ⟨by simp [hdl], some h.next, none, by simp, .inr ⟨h.next, _, rfl, hb, H.rows_new _ _, rfl, rfl, ?_, ?_⟩⟩
          · simp [hdl]
          · simp only [List.nil_append, Nat.zero_add]
            exact List.take_of_length_le (by omega)
        · rw [H.rows_new_ne (by omega)]; exact e
      · refine .inr ⟨i, q, rfl, hq, ho, he, (by simp), hf2, hk _ _ (H.wf_new (H.wf_del hw _) _) ?_ (by rw [H.next_new, H.next_del]; omega) (fun j' q' hj e => ?_)⟩
        · refine ⟨by simp [hcl, hdl, Nat.add_mul], some h.next, none, rfl, .inr ⟨h.next, _, rfl, hb, H.rows_new _ _, rfl, rfl, ?_, ?_⟩⟩
          · simp only [List.length_append, ht2, hcl, hdl, Nat.add_mul]; omega
          · rw [ht2]
            exact List.take_of_length_le (by simp [hcl, hdl, Nat.add_mul])
        · rw [H.rows_new_ne (by rw [H.next_del]; omega), H.rows_del_ne (by omega)]
          exact e
theorem app_els {t : TypeId} {z : Nat} {a h : H} {K : AV → H → Prop} {s x : AV} {n m : Nat} {cs ds : List AV} {bt : Nat} (hz : 0 < z) (ha : a.wf) (hw : h.wf) (hah : a.le h) (hs : IsCF t z a.next h s n cs) (hx : IsC z h x m ds) (hd : ds.all (·.one) = true) (hbt : bt ≤ 64) (hl : n + m ≤ 1099511627776)
    (hk : ∀ v h', h'.wf → a.le h' → IsCF t z a.next h' v (n + m) (cs ++ ds) → K v h') : appK t z bt s x h K := by
  have := Nat.mul_le_mul hl hbt
  exact app_cells hz hw hs hx hd hah.1 (by omega) (by omega) fun v h' w' hv hn ho => hk v h' w' (H.le_old ha hah hn ho) hv
/-- Cells written. -/
theorem IsCF.put {t : TypeId} {z b n m : Nat} {h : H} {id : Option Nat} {c : Option Nat} {cs : List AV} (hw : h.wf) (hv : IsCF t z b h (.sl id 0 m c) n cs) {k w : Nat} (hk : k + w ≤ n * z) (hw0 : 0 < w) : ∃ i r, id = some i ∧ b ≤ i ∧ i < h.next ∧ h.rows i = some r ∧ r.own ≠ none ∧ m = n ∧ k + w ≤ r.cells.length ∧
    ∀ l : List AV, l.length = w → IsCF t z b (h.set i { r with cells := putAt r.cells k l }) (.sl id 0 m c) n (putAt cs k l) := by
  obtain ⟨hl, id', c2, e, h1⟩ := hv
  injection e with e1 e2 e3 e4
  subst e1; subst e3; subst e4
  rcases h1 with ⟨_, rfl⟩ | ⟨i, r, rfl, hbi, hr, ho, he, hf, ht⟩
  · simp at hk; omega
  · refine ⟨i, r, rfl, hbi, H.row_lt hw hr, hr, by rw [ho]; simp, rfl, by omega, fun l hll => ?_⟩
    refine ⟨by rw [putAt_len (by omega)]; exact hl, some i, c, rfl, .inr ⟨i, _, rfl, hbi, H.rows_set _ _ _, ho, he, ?_, ?_⟩⟩
    · show m * z ≤ (putAt r.cells k l).length
      rw [putAt_len (by omega)]
      exact hf
    · show (putAt r.cells k l).take (m * z) = _
      apply List.ext_getElem?
      intro j
      rw [List.getElem?_take, putAt_get (by omega), putAt_get (by omega), ← ht, List.getElem?_take]
      by_cases hj : j < m * z
      · rw [if_pos hj, if_pos hj]
      · rw [if_neg hj, if_neg hj, if_neg (by omega)]
theorem zs_len {z n : Nat} {zero : List AV} (h : zero.length = z) : (zs zero n).length = n * z := by
  subst h
  unfold zs
  split
  · simp
  · simp
theorem IsCF.made {t : TypeId} {z b : Nat} {h : H} {zero : List AV} (hb : b ≤ h.next) (hz : zero.length = z) (n : Nat) : IsCF t z b (h.new ⟨some t, z, zs zero n⟩) (.sl (some h.next) 0 n (some n)) n (zs zero n) :=
  ⟨zs_len hz, some h.next, some n, rfl, .inr ⟨h.next, _, rfl, hb, H.rows_new _ _, rfl, rfl, Nat.le_of_eq (zs_len hz).symm, List.take_of_length_le (Nat.le_of_eq (zs_len hz))⟩⟩
theorem IsCF.made0 {t : TypeId} {z b : Nat} {h : H} {zero : List AV} (hb : b ≤ h.next) (n : Nat) : IsCF t z b (h.new ⟨some t, z, zs zero n⟩) (.sl (some h.next) 0 0 (some n)) 0 [] :=
  ⟨by simp, some h.next, some n, rfl, .inr ⟨h.next, _, rfl, hb, H.rows_new _ _, rfl, rfl, by simp, by simp⟩⟩
theorem IsCF.lit {t : TypeId} {z b : Nat} {h : H} (hb : b ≤ h.next) {l : List AV} {n : Nat} (hn : l.length = n * z) : IsCF t z b (h.new ⟨some t, z, l⟩) (.sl (some h.next) 0 n (some n)) n l :=
  ⟨hn, some h.next, some n, rfl, .inr ⟨h.next, _, rfl, hb, H.rows_new _ _, rfl, rfl, Nat.le_of_eq hn.symm, List.take_of_length_le (Nat.le_of_eq hn)⟩⟩
end Ab
end Go.Proofs.Ytnmnkocibjdhjaa
namespace Go.Proofs.Ytnmnkocibjdhjaa
namespace Ab
open Go Go.RowKit
set_option linter.unusedSimpArgs false
set_option linter.unusedVariables false
set_option maxRecDepth 100000
/-- Cells that stand for things, z cells for one. -/
def AllC {α : Type} (z : Nat) (R : List AV → α → Prop) (cs : List AV) (xs : List α) : Prop := cs.length = xs.length * z ∧ ∀ (j : Nat) (x : α), xs[j]? = some x → R ((cs.drop (j * z)).take z) x
theorem AllC.nil {α : Type} (z : Nat) (R : List AV → α → Prop) : AllC z R [] [] := ⟨by simp, fun _ _ h => by simp at h⟩
theorem AllC.mono {α : Type} {z : Nat} {R R' : List AV → α → Prop} {cs : List AV} {xs : List α} (h : AllC z R cs xs) (hr : ∀ c x, R c x → R' c x) : AllC z R' cs xs := ⟨h.1, fun j x h1 => hr _ x (h.2 j x h1)⟩
theorem AllC.snoc {α : Type} {z : Nat} {R : List AV → α → Prop} {cs l : List AV} {xs : List α} (h : AllC z R cs xs) {x : α} (hz : l.length = z) (hc : R l x) : AllC z R (cs ++ l) (xs ++ [x]) := by
  refine ⟨by simp [h.1, hz, Nat.add_mul], fun j x' h2 => ?_⟩
  rcases Nat.lt_or_ge j xs.length with hj | hj
  · rw [List.getElem?_append_left hj] at h2
    have h3 : j * z + z ≤ cs.length := by rw [h.1, ← Nat.succ_mul]; exact Nat.mul_le_mul_right _ hj
    rw [List.drop_append_of_le_length (by omega), List.take_append_of_le_length (by simp; omega)]
    exact h.2 j x' h2
  · rw [List.getElem?_append_right hj] at h2
    rcases hjj : j - xs.length with _ | k
    · rw [hjj] at h2
      simp at h2
      subst h2
      have : j = xs.length := by omega
      rw [this, ← h.1, List.drop_left, List.take_of_length_le (by omega)]
      exact hc
    · rw [hjj] at h2
      simp at h2
theorem chunk_le {j n z : Nat} (h : j < n) : j * z + z ≤ n * z := by rw [← Nat.succ_mul]; exact Nat.mul_le_mul_right _ h
theorem AllC.drop {α : Type} {z : Nat} {R : List AV → α → Prop} {cs : List AV} {xs : List α} (h : AllC z R cs xs) (n : Nat) : AllC z R (cs.drop (n * z)) (xs.drop n) := by
  refine ⟨by simp [h.1, Nat.sub_mul], fun j x h2 => ?_⟩
  rw [List.getElem?_drop] at h2
  rw [List.drop_drop, ← Nat.add_mul]
  exact h.2 _ x h2
theorem AllC.take {α : Type} {z : Nat} {R : List AV → α → Prop} {cs : List AV} {xs : List α} (h : AllC z R cs xs) (n : Nat) : AllC z R (cs.take (n * z)) (xs.take n) := by
  refine ⟨?_, fun j x h2 => ?_⟩
  · simp only [List.length_take, h.1]
    rcases Nat.le_total n xs.length with h1 | h1
    · have := Nat.mul_le_mul_right z h1
      rw [Nat.min_eq_left this, Nat.min_eq_left h1]
    · have := Nat.mul_le_mul_right z h1
      rw [Nat.min_eq_right this, Nat.min_eq_right h1]
  · rw [List.getElem?_take] at h2
    split at h2
    · rename_i hj
      have := chunk_le (z := z) hj
      rw [List.drop_take, List.take_take, Nat.min_eq_left (by omega)]
      exact h.2 j x h2
    · cases h2
theorem AllC.set {α : Type} {z : Nat} {R : List AV → α → Prop} {cs l : List AV} {xs : List α} (h : AllC z R cs xs) {j : Nat} {x : α} (hj : j < xs.length) (hz : l.length = z) (hc : R l x) : AllC z R (putAt cs (j * z) l) (xs.set j x) := by
  have h0 := chunk_le (z := z) hj
  have hl := h.1
  refine ⟨by rw [putAt_len (by omega), List.length_set]; exact hl, fun k y h2 => ?_⟩
  rw [List.getElem?_set] at h2
  have ext : ∀ m, (((putAt cs (j * z) l).drop (k * z)).take z)[m]? = if m < z then (if j * z ≤ k * z + m ∧ k * z + m < j * z + z then l[k * z + m - j * z]? else cs[k * z + m]?) else none := by
    intro m
    rw [List.getElem?_take]
    split
    · rw [List.getElem?_drop, putAt_get (by omega), hz]
    · rfl
  split at h2
  · rename_i e
    subst e
    injection h2 with h2
    subst h2
    have : ((putAt cs (j * z) l).drop (j * z)).take z = l := by
      apply List.ext_getElem?
      intro m
      rw [ext m]
      split
      · rw [if_pos (by omega), show j * z + m - j * z = m by omega]
      · rw [List.getElem?_eq_none (by omega)]
    rw [this]
    exact hc
  · rename_i hne
    have hk : k < xs.length := (List.getElem?_eq_some_iff.1 h2).1
    have : ((putAt cs (j * z) l).drop (k * z)).take z = (cs.drop (k * z)).take z := by
      apply List.ext_getElem?
      intro m
      rw [ext m, List.getElem?_take, List.getElem?_drop]
      split
      · rename_i hm
        rw [if_neg]
        rcases Nat.lt_or_gt_of_ne hne with h3 | h3
        · have := chunk_le (z := z) h3; omega
        · have := chunk_le (z := z) h3; omega
      · rfl
    rw [this]
    exact h.2 k y h2
/-- A slice of things. -/
def IsA {α : Type} (z : Nat) (R : H → List AV → α → Prop) (h : H) (v : AV) (xs : List α) : Prop := ∃ cs, IsC z h v xs.length cs ∧ AllC z (R h) cs xs
/-- What stays where memory grows. -/
def Grows {α : Type} (R : H → List AV → α → Prop) : Prop := ∀ ⦃h h' : H⦄ ⦃c : List AV⦄ ⦃x : α⦄, R h c x → h.le h' → R h' c x
theorem IsA.form {α : Type} {z : Nat} {R : H → List AV → α → Prop} {h : H} {v : AV} {xs : List α} (hv : IsA z R h v xs) : ∃ id off c, v = .sl id off xs.length c := by
  obtain ⟨cs, h1, _⟩ := hv
  exact h1.form
theorem IsA.mono {α : Type} {z : Nat} {R : H → List AV → α → Prop} (hR : Grows R) {h h' : H} {v : AV} {xs : List α} (hv : IsA z R h v xs) (hl : h.le h') : IsA z R h' v xs := by
  obtain ⟨cs, h1, h2⟩ := hv
  exact ⟨cs, h1.mono hl, h2.mono fun c x hc => hR hc hl⟩
theorem take_one {l : List AV} {j : Nat} (h : j < l.length) : (l.drop j).take 1 = [l[j]] := by
  rw [List.drop_eq_getElem_cons h]
  rfl
theorem IsA.at1 {α : Type} {R : H → List AV → α → Prop} {h : H} {id : Option Nat} {off n : Nat} {c : Option Nat} {xs : List α} (hv : IsA 1 R h (.sl id off n c) xs) {j : Nat} (hj : j < xs.length) : ∃ i a, id = some i ∧ n = xs.length ∧ h.get i (off + j) = some a ∧ R h [a] xs[j] := by
  obtain ⟨cs, h1, h2⟩ := hv
  obtain ⟨i, e1, e2, e3⟩ := h1.at (j := j) (by omega)
  have hl := h2.1
  have h3 := h2.2 j _ (List.getElem?_eq_getElem hj)
  rw [Nat.mul_one, take_one (by omega)] at h3
  exact ⟨i, cs[j], e1, e2, e3.trans (List.getElem?_eq_getElem (by omega)), h3⟩
theorem IsA.atz {α : Type} {z : Nat} {R : H → List AV → α → Prop} {h : H} {id : Option Nat} {off n : Nat} {c : Option Nat} {xs : List α} (hz : 0 < z) (hv : IsA z R h (.sl id off n c) xs) {j : Nat} (hj : j < xs.length) : ∃ i l, id = some i ∧ n = xs.length ∧ l.length = z ∧ h.gets i (off + j * z) z = some l ∧ (∀ k, k < z → h.get i (off + j * z + k) = l[k]?) ∧ R h l xs[j] := by
  obtain ⟨cs, h1, h2⟩ := hv
  have h0 := chunk_le (z := z) hj
  obtain ⟨i, e1, e2, e3⟩ := h1.ats (j := j * z) (w := z) (by omega) hz
  have hl := h2.1
  refine ⟨i, _, e1, e2, by simp; omega, e3, fun k hk => ?_, h2.2 j _ (List.getElem?_eq_getElem hj)⟩
  obtain ⟨i', f1, _, f3⟩ := h1.at (j := j * z + k) (by omega)
  rw [e1] at f1
  injection f1 with f1
  subst f1
  rw [Nat.add_assoc, f3, List.getElem?_take, if_pos hk, List.getElem?_drop]
theorem IsA.row {α : Type} {z : Nat} {R : H → List AV → α → Prop} {h : H} {id : Option Nat} {off n : Nat} {c : Option Nat} {xs : List α} (hv : IsA z R h (.sl id off n c) xs) : ∀ i, id = some i → ∃ r, h.rows i = some r ∧ (r.own = none ∨ r.esz = z) := by
  obtain ⟨cs, h1, _⟩ := hv
  exact h1.row
theorem IsA.nil {α : Type} (z : Nat) (R : H → List AV → α → Prop) (h : H) (c : Option Nat) : IsA z R h (.sl none 0 0 c) [] := ⟨[], IsC.nil _ _ _, AllC.nil _ _⟩
theorem IsA.cut {α : Type} {z n : Nat} {R : H → List AV → α → Prop} {h : H} {id : Option Nat} {off : Nat} {c c' : Option Nat} {xs : List α} (hv : IsA z R h (.sl id off n c) xs) {a b : Nat} (hab : a ≤ b) (hb : b ≤ xs.length) : IsA z R h (.sl id (off + a * z) (b - a) c') ((xs.take b).drop a) := by
  obtain ⟨cs, h1, h2⟩ := hv
  refine ⟨_, ?_, (h2.take b).drop a⟩
  have hl : ((xs.take b).drop a).length = b - a := by simp; omega
  rw [hl]
  exact h1.cut (c' := c') hab hb
/-- A list that the call builds: its things do not lie in its own row. -/
def Live {α : Type} (t : TypeId) (z b : Nat) (R : H → List AV → α → Prop) (h : H) (v : AV) (xs : List α) : Prop := ∃ io c cs, v = .sl io 0 xs.length c ∧ IsCF t z b h v xs.length cs ∧ AllC z (R (h.del io)) cs xs
theorem H.del_le {h : H} (o : Option Nat) : (h.del o).le h := ⟨Nat.le_refl _, fun i r e => by
  simp only [H.del] at e
  split at e
  · cases e
  · exact e⟩
theorem H.del_mono {h h' : H} (hl : h.le h') (o : Option Nat) : (h.del o).le (h'.del o) := ⟨hl.1, fun i r e => by
  simp only [H.del] at e ⊢
  split at e
  · cases e
  · rename_i hi; rw [if_neg hi]; exact hl.2 i r e⟩
theorem H.get_le {a h : H} (hl : a.le h) {i j : Nat} {v : AV} (e : a.get i j = some v) : h.get i j = some v := by
  unfold H.get at *
  cases hr : a.rows i with
  | none => rw [hr] at e; cases e
  | some r => rw [hr] at e; rw [hl.2 _ _ hr]; exact e
theorem Live.nil {α : Type} (t : TypeId) (z b : Nat) (R : H → List AV → α → Prop) (h : H) (c : Option Nat) : Live t z b R h (.sl none 0 0 c) [] := ⟨none, c, [], rfl, IsCF.nil _ _ _ _ _, AllC.nil _ _⟩
theorem Live.form {α : Type} {t : TypeId} {z b : Nat} {R : H → List AV → α → Prop} {h : H} {v : AV} {xs : List α} (hv : Live t z b R h v xs) : ∃ io c, v = .sl io 0 xs.length c := by
  obtain ⟨io, c, cs, e, _⟩ := hv
  exact ⟨io, c, e⟩
theorem Live.isA {α : Type} {t : TypeId} {z b : Nat} {R : H → List AV → α → Prop} (hR : Grows R) {h : H} {v : AV} {xs : List α} (hv : Live t z b R h v xs) : IsA z R h v xs := by
  obtain ⟨io, c, cs, e, h1, h2⟩ := hv
  exact ⟨cs, h1.isC, h2.mono fun l x hx => hR hx (H.del_le io)⟩
theorem Live.mono {α : Type} {t : TypeId} {z b : Nat} {R : H → List AV → α → Prop} (hR : Grows R) {h h' : H} {v : AV} {xs : List α} (hv : Live t z b R h v xs) (hl : h.le h') : Live t z b R h' v xs := by
  obtain ⟨io, c, cs, e, h1, h2⟩ := hv
  exact ⟨io, c, cs, e, h1.mono hl, h2.mono fun l x hx => hR hx (H.del_mono hl io)⟩
theorem Live.base_le {α : Type} {t : TypeId} {z : Nat} {R : H → List AV → α → Prop} {a h : H} {io c : Option Nat} {n : Nat} {xs : List α} (ha : a.wf) (hah : a.le h) (hv : Live t z a.next R h (.sl io 0 n c) xs) : a.le (h.del io) := by
  obtain ⟨io', c', cs, e, ⟨_, id, c2, e2, h3⟩, _⟩ := hv
  injection e2 with e2
  subst e2
  rcases h3 with ⟨rfl, _⟩ | ⟨i, q, rfl, hb, _⟩
  · exact H.le_del_none hah
  · exact H.le_del ha hah hb
/-- One more. -/
theorem Live.app {α : Type} {t : TypeId} {z : Nat} {R : H → List AV → α → Prop} (hR : Grows R) {a h h2 : H} {K : AV → H → Prop} {io : Option Nat} {co : Option Nat} {l : List AV} {ys : List α} {y : α} {bt n : Nat} (hz : 0 < z) (ha : a.wf) (hw : h.wf) (hah : a.le h)
    (hs : Live t z a.next R h (.sl io 0 n co) ys) (hn : n = ys.length) (hx : R (h.del io) l y) (hlz : l.length = z) (h1 : l.all (·.one) = true) (hbt : bt ≤ 64) (hl : n + 1 ≤ 1099511627776)
    (hh : h2 = h.new ⟨some t, z, l⟩) (hk : ∀ v h', h'.wf → a.le h' → Live t z a.next R h' v (ys ++ [y]) → K v h') : appK t z bt (.sl io 0 n co) (.sl (some h.next) 0 1 (some 1)) h2 K := by
  subst hh
  subst hn
  obtain ⟨io', co', cs, e, hs, hc⟩ := hs
  injection e with e1 e2 e3 e4
  subst e1; subst e4
  have hbb := Nat.mul_le_mul hl hbt
  have hw2 := H.wf_new hw ⟨some t, z, l⟩
  have hs2 := hs.mono (H.le_new hw (H.le_refl h) ⟨some t, z, l⟩)
  have hah2 := H.le_new hw hah ⟨some t, z, l⟩
  obtain ⟨hcl, id', c', e, h3⟩ := hs2
  injection e with e1 e2 e3 e4
  subst e1; subst e4
  have hnx : (h.new ⟨some t, z, l⟩).next = h.next + 1 := rfl
  simp only [appK]
  refine ⟨fun h0 => by omega, fun _ => ⟨h.next, _, rfl, H.rows_new _ _, ?_, ?_, by omega, by omega, ?_⟩⟩
  · show 0 + 1 * z ≤ l.length
    omega
  · show ((l.drop 0).take (1 * z)).all (·.one) = true
    rw [List.drop_zero, Nat.one_mul, List.take_of_length_le (by omega)]
    exact h1
  have et : ((⟨some t, z, l⟩ : Row).cells.drop 0).take (1 * z) = l := by
    show (l.drop 0).take (1 * z) = l
    rw [List.drop_zero, Nat.one_mul, List.take_of_length_le (by omega)]
  rw [et]
  have hlen1 : (ys ++ [y]).length = ys.length + 1 := by simp
  rcases h3 with ⟨rfl, h0⟩ | ⟨i, q, rfl, hbi, hq, ho, he, hf2, ht2⟩
  · have hy : ys = [] := List.eq_nil_of_length_eq_zero h0
    subst hy
    have : cs = [] := List.eq_nil_of_length_eq_zero (by simpa using hcl)
    subst this
    refine .inl ⟨rfl, rfl, hk _ _ (H.wf_new hw2 _) (H.le_new hw2 hah2 _) ⟨some (h.next + 1), none, [] ++ l, rfl, ?_, ?_⟩⟩
    · exact ⟨by simp [hlz], some (h.next + 1), none, rfl, .inr ⟨h.next + 1, _, rfl, by have := hah.1; omega, H.rows_new _ _, rfl, rfl, by simp [hlz], List.take_of_length_le (by simp [hlz])⟩⟩
    · refine (hc.snoc hlz hx).mono fun l' x' hx' => hR hx' ⟨by show h.next ≤ h.next + 1 + 1; omega, fun j r hj => ?_⟩
      have hj' := (H.del_le none).2 j r hj
      have hlt := H.row_lt hw hj'
      simp only [H.del]
      rw [if_neg (by intro e; injection e; omega), H.rows_new_ne (by rw [hnx]; omega), H.rows_new_ne (by omega)]
      exact hj'
  · have hil := H.row_lt hw2 hq
    have hi2 : i ≠ h.next := by
      intro e
      obtain ⟨_, id2, c2, e2, h4⟩ := hs
      injection e2 with e2
      rcases h4 with ⟨h4, _⟩ | ⟨i2, q2, h4, _, h5, _⟩
      · rw [← e2] at h4; cases h4
      · rw [← e2] at h4
        injection h4 with h4
        have := H.row_lt hw h5
        omega
    refine .inr ⟨i, q, rfl, hq, ho, he, by simp, hf2, hk _ _ (H.wf_new (H.wf_del hw2 _) _) (H.le_new (H.wf_del hw2 _) (H.le_del ha hah2 hbi) _) ⟨some (h.next + 1), none, cs ++ l, by rw [hlen1]; rfl, ?_, ?_⟩⟩
    · refine ⟨by simp [hcl, hlz, Nat.add_mul], some (h.next + 1), none, by rw [hlen1]; rfl, .inr ⟨h.next + 1, _, rfl, by have := hah.1; omega, H.rows_new _ _, rfl, rfl, ?_, ?_⟩⟩
      · rw [hlen1]
        simp only [List.length_append, ht2, hcl, hlz, Nat.add_mul]; omega
      · rw [hlen1, ht2]
        exact List.take_of_length_le (by simp [hcl, hlz, Nat.add_mul])
    · refine (hc.snoc hlz hx).mono fun l' x' hx' => hR hx' ⟨by show h.next ≤ h.next + 1 + 1; omega, fun j r hj => ?_⟩
      have hj' := (H.del_le (some i)).2 j r hj
      have hlt := H.row_lt hw hj'
      have hji : j ≠ i := by
        rintro rfl
        simp [H.del] at hj
      simp only [H.del]
      rw [if_neg (by intro e; injection e; omega)]
      show ((H.del _ (some i)).new _).rows j = some r
      rw [H.rows_new_ne (by rw [H.next_del, hnx]; omega), H.rows_del_ne hji, H.rows_new_ne (by omega)]
      exact hj'
section
variable {h : H} {u : AV}
theorem cell_slice {t e : TypeId} (ht : Try.prog.underlying t = some (.slice e)) {l : List AV} (r : Reads Try.prog h t l) : ∃ v n cs, l = [v] ∧ IsC (Try.prog.cellsOf e) h v n cs ∧ n ≤ maxLen ∧ ∀ i, i < n → Reads Try.prog h e ((cs.drop (i * Try.prog.cellsOf e)).take (Try.prog.cellsOf e)) := by
  cases r with
  | int ht' hw => rw [ht] at ht'; cases ht'
  | bool ht' => rw [ht] at ht'; cases ht'
  | str ht' => rw [ht] at ht'; cases ht'
  | snil ht' => exact ⟨_, 0, [], rfl, IsC.nil _ _ _, by simp, fun i hi => by omega⟩
  | struct ht' => rw [ht] at ht'; cases ht'
  | @sl _ e' id len r ht' hr ho hlen hl hall =>
    rw [ht] at ht'
    injection ht' with e1
    injection e1 with e1
    subst e1
    refine ⟨_, len, r.cells, rfl, ⟨hl, some id, 0, none, rfl, .inr ⟨id, r, rfl, hr, .inl ho, by omega, ?_⟩⟩, hlen, hall⟩
    rw [List.drop_zero, List.take_of_length_le (by omega)]
theorem Dig.big {xs : List Nat} (hd : Dig xs) (hl : xs.length ≤ 500000) : Big (val 18446744073709551616 xs) := lt_big64 (k := xs.length) (val_lt 18446744073709551616 (by omega) xs hd) hl
/-- A row of words that came in. -/
def IsD (h : H) (l : List AV) (xs : List Nat) : Prop := ∃ v, l = [v] ∧ IsN h v xs ∧ Dig xs ∧ xs.length ≤ maxLen
theorem IsD.grows : Grows IsD := by
  rintro h h' c x ⟨v, e, h1, h2⟩ hl
  exact ⟨v, e, h1.mono hl, h2⟩
theorem all_of {α : Type} {z : Nat} {R : List AV → α → Prop} : ∀ {n : Nat} {cs : List AV}, cs.length = n * z → (∀ i, i < n → ∃ x, R ((cs.drop (i * z)).take z) x) → ∃ xs : List α, xs.length = n ∧ AllC z R cs xs
  | 0, cs, hl, _ => ⟨[], rfl, by
    have : cs = [] := List.eq_nil_of_length_eq_zero (by simpa using hl)
    subst this
    exact AllC.nil _ _⟩
  | n + 1, cs, hl, hx => by
    have h0 : n * z + z = cs.length := by rw [hl, Nat.succ_mul]
    obtain ⟨xs, h1, h2⟩ := all_of (z := z) (n := n) (cs := cs.take (n * z)) (R := R) (by rw [List.length_take]; omega) (fun i hi => by
      obtain ⟨x, hr⟩ := hx i (by omega)
      have := chunk_le (z := z) hi
      refine ⟨x, ?_⟩
      rw [List.drop_take, List.take_take, Nat.min_eq_left (by omega)]
      exact hr)
    obtain ⟨x, hr⟩ := hx n (by omega)
    have h3 := h2.snoc (l := (cs.drop (n * z)).take z) (x := x) (by simp; omega) hr
    refine ⟨xs ++ [x], by simp [h1], ?_⟩
    rw [List.take_of_length_le (l := cs.drop (n * z)) (by simp; omega), List.take_append_drop] at h3
    exact h3
theorem reads_rows (r : ReadsV Try.prog h 86 u) : ∃ xss, IsA 1 IsD h u xss ∧ xss.length ≤ maxLen := by
  have hz : Try.prog.cellsOf 28 = 1 := by kernel_rfl
  obtain ⟨v, n, cs, e, h1, h2, h3⟩ := cell_slice (e := 28) (by kernel_rfl) (readsV_slice (e := 28) (by kernel_rfl) r)
  injection e with e
  subst e
  rw [hz] at h1 h3
  obtain ⟨xss, hn, hxs⟩ := all_of (z := 1) (R := IsD h) (n := n) (cs := cs) h1.1 fun i hi => by
    obtain ⟨v, xs, e, q1, q2, q3⟩ := cell_words (by kernel_rfl) (h3 i hi)
    exact ⟨xs, v, e, q1, q2, q3⟩
  subst hn
  exact ⟨xss, ⟨cs, h1, hxs⟩, h2⟩
end
end Ab
end Go.Proofs.Ytnmnkocibjdhjaa
namespace Go.Proofs.Ytnmnkocibjdhjaa
namespace Ab
open Go Go.RowKit
set_option maxRecDepth 100000
set_option linter.unusedSimpArgs false
set_option linter.unusedVariables false
attribute [local go_sem ↓] x_mv x_pick x_bin x_beq x_peq x_seq x_cat x_aeq x_idxS x_un x_cvI x_idx x_idxA x_fld x_ld x_st x_nn x_prt x_slc x_mk x_bsl x_bld x_box x_alloc x_len x_capo x_mnx x_app x_cpy x_mkf x_ext x_call x_callV x_bad s_none s_some s_nil s_cons s_chks w_skip w_reg tP_fin tP_no tP_alt w_seq w_cond w_block w_exit w_ret t_normal t_exit t_ret b_normal b_ret b_exit n_normal n_exit n_ret p_normal p_ret f_nil f_t f_c k_ops k_chk k_fin
attribute [local go_sem] e_t e_c e_f u_some u_none u_at env_at k_v k_pick k_add k_sub k_mul k_quo k_rem k_and k_or k_xor k_shl k_shr k_eql k_neq k_lss k_leq k_gtr k_geq k_beq k_peqn k_peqs k_neg k_not k_com k_cvI k_idxS k_idx k_idxA k_idxG k_ldG k_gld k_seq k_cat k_aeq k_eqs k_fld k_ld1 k_ldn k_get k_gets k_sti k_stb k_stp k_sts k_stf k_sta k_put k_nn k_prt1 k_prtn k_slc_a k_slc_b k_slc_c k_mk k_agg k_bsl k_box k_len k_lenS k_cap k_max k_min k_ext k_callV k_true k_false k_gtt k_gtf k_gft k_gsk k_gff k_lit1i k_lit2i k_lit3i k_c0 k_c1 k_ck List.getElem?_cons_zero List.getElem?_cons_succ List.getElem?_nil Option.getD_some Option.getD_none tupOf List.map_cons List.map_nil Option.map_some Option.map_none List.nil_append List.cons_append List.append_nil Nat.mul_one Int.toNat_natCast Nat.zero_add
theorem CutA_calls {v : AV} {xs : List Nat} {n : Nat} {a h : H} {K : AV → H → Prop} (hah : a.le h) (hv : IsN a v xs) (hk : ∀ r, IsN a r (xs.take n) → K r h) : ACalls Try.prog 28 [v, .int .i64 (n : Int)] h K := by
  obtain ⟨id, off, c, rfl⟩ := hv.form
  refine in_keep_Cut (by simp) fun hw => ?_
  unfold c_keep_Cut
  simp only [go_sem, ↓reduceIte, Nat.reduceEqDiff, Nat.reduceAdd, Bool.false_eq_true, Int.reduceToNat, minN]
  refine ⟨by omega, by omega, (hv.mono hah).row, fun _ => ?_⟩
  have := hv.take (b := min xs.length n) (c' := c) (by omega)
  rw [take_min] at this
  exact hk _ this
theorem lit_one {z a : AV} (h : a.one = true) : abuild (zs [z] 1) [(0, 1, a)] = some [a] := k_lit1 h
theorem Cuts_calls {v : AV} {xss : List (List Nat)} {k n : Nat} {h : H} {K : AV → H → Prop} (hv : IsA 1 IsD h v xss) (hk2 : k ≤ 1000000)
    (hk : ∀ r h', h'.wf → h.le h' → IsA 1 IsD h' r ((xss.take k).map (·.take n)) → K r h') : ACalls Try.prog 40 [v, .int .i64 (k : Int), .int .i64 (n : Int)] h K := by
  obtain ⟨id, off, c, rfl⟩ := hv.form
  refine in_keep_Cuts (by simp) fun hw => ?_
  unfold c_keep_Cuts
  simp only [go_sem, ↓reduceIte, Nat.reduceEqDiff, Nat.reduceAdd, Bool.false_eq_true, Int.reduceToNat]
  refine for_rule (fun i ρ h' => i ≤ min xss.length k ∧ h'.wf ∧ h.le h' ∧ ρ 0 = .sl id off xss.length c ∧ ρ 1 = .int .i64 (k : Int) ∧ ρ 2 = .int .i64 (n : Int) ∧ ρ 8 = .int .i64 (i : Int) ∧ Live 28 1 h.next IsD h' (ρ 7) ((xss.take i).map (·.take n))) (min xss.length k)
    ⟨by omega, hw, H.le_refl h, rfl, rfl, rfl, rfl, Live.nil _ _ _ _ _ _⟩ (fun i ρ h hI => hI.1) ?_
  rintro i ρ h' ⟨hi, hw', hle, q0, q1, q2, q8, hs⟩
  obtain ⟨io, co, q7⟩ := hs.form
  have hlen : ((xss.take i).map (·.take n)).length = i := by simp; omega
  rw [hlen] at q7
  have fin : i = min xss.length k → K (ρ 7) h' := fun e => hk _ _ hw' hle (by
    have e2 : xss.take i = xss.take k := by rw [e, Nat.min_comm]; exact (List.take_eq_take_iff).2 (by omega)
    rw [← e2]
    exact hs.isA IsD.grows)
  rw [q7] at hs fin
  rcases Nat.lt_or_ge i xss.length with h1 | h1
  · rcases Nat.lt_or_ge i k with h2 | h2
    · have hb := hs.base_le hw hle
      obtain ⟨ii, a, rfl, _, hg2, a', e, ha3, had, hal⟩ := (hv.mono IsD.grows hb).at1 h1
      injection e with e
      subst e
      have hg := H.get_le (H.del_le io) hg2
      simp only [go_sem, ↓reduceIte, Nat.reduceEqDiff, Nat.reduceAdd, Bool.false_eq_true, Int.reduceToNat, q0, q1, q2, q7, q8, ltT h1, ltT h2]
      refine ⟨by omega, by omega, ?_⟩
      simp only [go_sem, ↓reduceIte, Nat.reduceEqDiff, Nat.reduceAdd, Bool.false_eq_true, Int.reduceToNat, hg, q2, q7, q8]
      refine CutA_calls (H.del_le io) ha3 fun r hr => ?_
      obtain ⟨ir, or, cr, rfl⟩ := hr.form
      simp only [go_sem, ↓reduceIte, Nat.reduceEqDiff, Nat.reduceAdd, Bool.false_eq_true, Int.reduceToNat, lit_one (show (AV.sl ir or (xss[i].take n).length cr).one = true from rfl)]
      refine hs.app (K := _) IsD.grows (by omega) hw hw' hle hlen.symm (y := xss[i].take n) ⟨_, rfl, hr, had.take n, by rw [List.length_take]; omega⟩ rfl (by simp [AV.one]) (by omega) (by omega) rfl fun v2 h3 hw3 hle3 hs3 => ?_
      simp only [go_sem, ↓reduceIte, Nat.reduceEqDiff, Nat.reduceAdd, Bool.false_eq_true, Int.reduceToNat, q0, q1, q2, q8, incI (i := i) (by omega)]
      refine ⟨by omega, hw3, hle3, by first | rfl | trivial | assumption, by first | rfl | trivial | assumption, by first | rfl | trivial | assumption, by first | rfl | trivial | assumption, ?_⟩
      rw [List.take_succ_eq_append_getElem h1, List.map_append]
      exact hs3
    · have := fin (by omega)
      simp only [go_sem, ↓reduceIte, Nat.reduceEqDiff, Nat.reduceAdd, Bool.false_eq_true, Int.reduceToNat, q0, q1, q2, q7, q8, ltT h1, ltF h2]
      exact fun _ => this
  · have := fin (by omega)
    simp only [go_sem, ↓reduceIte, Nat.reduceEqDiff, Nat.reduceAdd, Bool.false_eq_true, Int.reduceToNat, q0, q1, q2, q7, q8, ltF h1]
    exact fun _ => this
/-- Rows asx naturals. -/
theorem Nats_calls {v : AV} {xss : List (List Nat)} {h : H} {K : AV → H → Prop} (hv : IsA 1 IsD h v xss) (hl : xss.length ≤ 1000000)
    (hk : ∀ r h', h'.wf → h.le h' → IsA 1 IsD h' r xss → K r h') : ACalls Try.prog 42 [v] h K := by
  obtain ⟨id, off, c, rfl⟩ := hv.form
  refine in_keep_Nats (by simp) fun hw => ?_
  unfold c_keep_Nats
  simp only [go_sem, ↓reduceIte, Nat.reduceEqDiff, Nat.reduceAdd, Bool.false_eq_true, Int.reduceToNat]
  refine for_rule (fun i ρ h' => i ≤ xss.length ∧ h'.wf ∧ h.le h' ∧ ρ 0 = .sl id off xss.length c ∧ ρ 4 = .int .i64 (i : Int) ∧ Live 43 1 h.next IsD h' (ρ 3) (xss.take i)) xss.length
    ⟨by omega, hw, H.le_refl h, rfl, rfl, Live.nil _ _ _ _ _ _⟩ (fun i ρ h hI => hI.1) ?_
  rintro i ρ h' ⟨hi, hw', hle, q0, q4, hs⟩
  obtain ⟨io, co, q3⟩ := hs.form
  have hlen : (xss.take i).length = i := by simp; omega
  rw [hlen] at q3
  have fin : i = xss.length → K (ρ 3) h' := fun e => hk _ _ hw' hle (by
    rw [e, List.take_length] at hs
    exact hs.isA IsD.grows)
  rw [q3] at hs fin
  rcases Nat.lt_or_ge i xss.length with h1 | h1
  · have hb := hs.base_le hw hle
    obtain ⟨ii, a, rfl, _, hg2, ha2⟩ := (hv.mono IsD.grows hb).at1 h1
    have hg := H.get_le (H.del_le io) hg2
    have h1a : a.one = true := by
      obtain ⟨a', e, ha, _⟩ := ha2
      injection e with e
      subst e
      obtain ⟨x1, x2, x3, rfl⟩ := ha.form
      rfl
    simp only [go_sem, ↓reduceIte, Nat.reduceEqDiff, Nat.reduceAdd, Bool.false_eq_true, Int.reduceToNat, q0, q3, q4, ltT h1]
    refine ⟨by omega, by omega, ?_⟩
    simp only [go_sem, ↓reduceIte, Nat.reduceEqDiff, Nat.reduceAdd, Bool.false_eq_true, Int.reduceToNat, hg, q3, q4, lit_one h1a]
    refine hs.app (K := _) IsD.grows (by omega) hw hw' hle hlen.symm (y := xss[i]) ha2 rfl (by simp [h1a]) (by omega) (by omega) rfl fun v2 h3 hw3 hle3 hs3 => ?_
    simp only [go_sem, ↓reduceIte, Nat.reduceEqDiff, Nat.reduceAdd, Bool.false_eq_true, Int.reduceToNat, q0, q4, incI (i := i) (by omega)]
    refine ⟨by omega, hw3, hle3, by first | rfl | trivial | assumption, by first | rfl | trivial | assumption, ?_⟩
    rw [List.take_succ_eq_append_getElem h1]
    exact hs3
  · have := fin (by omega)
    simp only [go_sem, ↓reduceIte, Nat.reduceEqDiff, Nat.reduceAdd, Bool.false_eq_true, Int.reduceToNat, q0, q3, q4, ltF h1]
    exact fun _ => this
/-- A fresh number is not in an older row. -/
theorem Nf.del {b : Nat} {h : H} {v : AV} {x : Nat} {io : Option Nat} (hio : ∀ i, io = some i → i < b) (hv : Nf b h v x) : Nf b (h.del io) v x := by
  obtain ⟨xs, ⟨id, c, rfl, h1⟩, h2⟩ := hv
  refine ⟨xs, ⟨id, c, rfl, ?_⟩, h2⟩
  rcases h1 with h1 | ⟨i, r, rfl, hb, hr, h3⟩
  · exact .inl h1
  · refine .inr ⟨i, r, rfl, hb, ?_, h3⟩
    simp only [H.del]
    rw [if_neg (fun e => by have := hio i e.symm; omega)]
    exact hr
theorem Live.io_lt {α : Type} {t : TypeId} {z b n : Nat} {R : H → List AV → α → Prop} {h : H} {io c : Option Nat} {xs : List α} (hw : h.wf) (hv : Live t z b R h (.sl io 0 n c) xs) : ∀ i, io = some i → i < h.next := by
  obtain ⟨io', c', cs, e, ⟨_, id, c2, e2, h3⟩, _⟩ := hv
  injection e2 with e2
  subst e2
  rintro i rfl
  rcases h3 with ⟨h3, _⟩ | ⟨i', q, h3, _, hq, _⟩
  · cases h3
  · injection h3 with h3
    subst h3
    exact H.row_lt hw hq
theorem Live.monoE {α : Type} {t : TypeId} {z b u : Nat} {R : H → List AV → α → Prop} (hR : ∀ {h h' : H} {c : List AV} {x : α}, R h c x → H.lee u h h' → R h' c x) {h h' : H} {v : AV} {xs : List α} (hub : u < b) (hv : Live t z b R h v xs) (hl : H.lee u h h') : Live t z b R h' v xs := by
  obtain ⟨io, c, cs, e, h1, h2⟩ := hv
  refine ⟨io, c, cs, e, h1.monoE hub hl, h2.mono fun l x hx => hR hx ⟨hl.1, fun i r hi he => ?_⟩⟩
  simp only [H.del] at he ⊢
  split at he
  · cases he
  · rename_i hj; rw [if_neg hj]; exact hl.2 i r hi he
/-- A number of the call's own, asx a thing in a list. -/
def NfL (b : Nat) (h : H) (l : List AV) (x : Nat) : Prop := ∃ v, l = [v] ∧ Nf b h v x
theorem NfL.grows {b : Nat} : Grows (NfL b) := by
  rintro h h' c x ⟨v, e, h1⟩ hl
  exact ⟨v, e, h1.mono hl⟩
theorem IsA.monoE {α : Type} {z u m nw dp : Nat} {tb : Tb} {R : H → List AV → α → Prop} {h h' : H} (hR : ∀ {c : List AV} {x : α}, R h c x → R h' c x) (ht : Tune h u m nw dp tb) (hz : z ≠ 14) {v : AV} {xs : List α} (hv : IsA z R h v xs) (hl : H.lee u h h') : IsA z R h' v xs := by
  obtain ⟨cs, h1, h2⟩ := hv
  exact ⟨cs, h1.monoE ht hz hl, h2.mono fun l x hx => hR hx⟩
theorem IsD.monoE {u m nw dp : Nat} {tb : Tb} {h h' : H} (ht : Tune h u m nw dp tb) (hl : H.lee u h h') {c : List AV} {x : List Nat} (hx : IsD h c x) : IsD h' c x := by
  obtain ⟨v, e, h1, h2⟩ := hx
  exact ⟨v, e, h1.monoE ht hl, h2⟩
theorem lee_upto {u : Nat} {h h' h2 : H} (hw : h.wf) (hl : H.lee u h h') (hu : (h'.upto h.next).le h2) : H.lee u h h2 :=
  ⟨hu.1, fun i r hi hr => hu.2 i r (upto_row hw hl hi hr)⟩
theorem Tune.upto {u m nw dp : Nat} {tb : Tb} {h h' h2 : H} (hu : u < h.next) (ht : Tune h' u m nw dp tb) (hl : (h'.upto h.next).le h2) : Tune h2 u m nw dp tb := by
  refine hl.2 _ _ ?_
  show (if u < h.next then h'.rows u else none) = _
  rw [if_pos hu]
  exact ht
theorem LongMod_calls {e u m0 nw dp : Nat} {t : Tb} {va vl : AV} {x : Nat} {xss : List (List Nat)} {h : H} {K : AV → H → Prop} (he : Eng 5 h e u) (ht : Tune h u m0 nw dp t) (nv : Nn h va x) (hx : Big x) (hl : IsA 1 IsD h vl xss) (hlen : xss.length ≤ 1000000) (hsm : ∀ ys ∈ xss, ys.length ≤ 100000)
    (hk0 : (∃ ys ∈ xss, val 18446744073709551616 ys = 0) → h.wf → K (.tup [.sl none 0 0 none, .int .i64 2]) h)
    (hk : (∀ ys ∈ xss, 0 < val 18446744073709551616 ys) → ∀ r h', h'.wf → H.lee u h h' → IsA 1 (NfL h.next) h' r (xss.map fun ys => x % val 18446744073709551616 ys) → K (.tup [r, .int .i64 0]) h') :
    ACalls Try.prog 41 [.ptr (some (e, 0)), va, vl] h K := by
  obtain ⟨id, off, c, rfl⟩ := hl.form
  refine in_divs_Engine_LongMod (by simp) fun hw => ?_
  unfold c_divs_Engine_LongMod
  have nn : ∀ {h' : H} {v : AV} {ys : List Nat}, ys ∈ xss → IsD h' [v] ys → Nn h' v (val 18446744073709551616 ys) ∧ Big (val 18446744073709551616 ys) := by
    rintro h' v ys hm ⟨v', e, h1, h2, _⟩
    injection e with e
    subst e
    have := hsm ys hm
    exact ⟨h1.nn h2 (by omega), h2.big (by omega)⟩
  simp only [go_sem, ↓reduceIte, Nat.reduceEqDiff, Nat.reduceAdd, Bool.false_eq_true, Int.reduceToNat]
  refine loop_cut (fun ρ h' => h' = h ∧ ρ 0 = .ptr (some (e, 0)) ∧ ρ 1 = va ∧ ρ 2 = .sl id off xss.length c ∧ ∀ ys ∈ xss, 0 < val 18446744073709551616 ys) ?_ ?_
  · refine for_rule (fun i ρ h' => i ≤ xss.length ∧ h' = h ∧ ρ 0 = .ptr (some (e, 0)) ∧ ρ 1 = va ∧ ρ 2 = .sl id off xss.length c ∧ ρ 16 = .sl id off xss.length c ∧ ρ 17 = .int .i64 (xss.length : Int) ∧ ρ 18 = .int .i64 (i : Int) ∧ ∀ ys ∈ xss.take i, 0 < val 18446744073709551616 ys) xss.length ⟨by omega, rfl, rfl, rfl, rfl, rfl, rfl, rfl, by simp⟩ (fun i ρ h hI => hI.1) ?_
    rintro i ρ h' ⟨hi, rfl, q0, q1, q2, q16, q17, q18, hpos⟩
    rcases Nat.lt_or_ge i xss.length with h1 | h1
    · obtain ⟨ii, a, rfl, _, hg, ha⟩ := hl.at1 h1
      have hn := nn (List.getElem_mem h1) ha
      simp only [go_sem, ↓reduceIte, Nat.reduceEqDiff, Nat.reduceAdd, Bool.false_eq_true, Int.reduceToNat, q0, q1, q2, q16, q17, q18, ltT h1]
      refine ⟨by omega, by omega, ?_⟩
      simp only [go_sem, ↓reduceIte, Nat.reduceEqDiff, Nat.reduceAdd, Bool.false_eq_true, Int.reduceToNat, hg]
      refine Zero_calls hn.1 ?_
      by_cases hz : val 18446744073709551616 xss[i] = 0
      · simp only [go_sem, ↓reduceIte, Nat.reduceEqDiff, Nat.reduceAdd, Bool.false_eq_true, Int.reduceToNat, decide_eq_true hz]
        exact hk0 ⟨_, List.getElem_mem h1, hz⟩
      · simp only [go_sem, ↓reduceIte, Nat.reduceEqDiff, Nat.reduceAdd, Bool.false_eq_true, Int.reduceToNat, decide_eq_false hz, q0, q1, q2, q16, q17, q18, incI (i := i) (by omega)]
        refine ⟨by omega, by first | rfl | trivial | assumption, by first | rfl | trivial | assumption, by first | rfl | trivial | assumption, by first | rfl | trivial | assumption, by first | rfl | trivial | assumption, by first | rfl | trivial | assumption, by first | rfl | trivial | assumption, fun ys hy => ?_⟩
        rw [List.take_succ_eq_append_getElem h1] at hy
        rcases List.mem_append.1 hy with hy | hy
        · exact hpos ys hy
        · simp at hy; subst hy; omega
    · simp only [go_sem, ↓reduceIte, Nat.reduceEqDiff, Nat.reduceAdd, Bool.false_eq_true, Int.reduceToNat, q0, q1, q2, q16, q17, q18, ltF h1]
      rw [List.take_of_length_le h1] at hpos
      exact ⟨trivial, trivial, trivial, trivial, hpos⟩
  · rintro ρ h' ⟨rfl, q0, q1, q2, hpos⟩
    have hul := H.row_lt hw ht
    simp only [go_sem, ↓reduceIte, Nat.reduceEqDiff, Nat.reduceAdd, Bool.false_eq_true, Int.reduceToNat, q0, q1, q2]
    refine for_rule (fun i ρ h2 => i ≤ xss.length ∧ h2.wf ∧ H.lee u h' h2 ∧ (∃ m, Tune h2 u m nw dp t) ∧ ρ 0 = .ptr (some (e, 0)) ∧ ρ 1 = va ∧ ρ 2 = .sl id off xss.length c ∧ ρ 25 = .sl id off xss.length c ∧ ρ 26 = .int .i64 (xss.length : Int) ∧ ρ 27 = .int .i64 (i : Int) ∧ Live 43 1 h'.next (NfL h'.next) h2 (ρ 10) ((xss.take i).map fun ys => x % val 18446744073709551616 ys)) xss.length
      ⟨by omega, hw, H.lee_refl _ _, ⟨_, ht⟩, q0, q1, q2, by first | rfl | trivial | assumption, by first | rfl | trivial | assumption, by first | rfl | trivial | assumption, Live.nil _ _ _ _ _ _⟩ (fun i ρ h hI => hI.1) ?_
    rintro i ρ h2 ⟨hi, hw2, hle, ⟨m, ht2⟩, q0, q1, q2, q25, q26, q27, hs⟩
    rcases Nat.lt_or_ge i xss.length with h1 | h1
    · have hl2 := hl.monoE (fun hx => IsD.monoE ht hle hx) ht (by omega) hle
      obtain ⟨ii, a, rfl, _, hg, ha⟩ := hl2.at1 h1
      have hn := nn (List.getElem_mem h1) ha
      simp only [go_sem, ↓reduceIte, Nat.reduceEqDiff, Nat.reduceAdd, Bool.false_eq_true, Int.reduceToNat, q0, q1, q2, q25, q26, q27, ltT h1]
      refine ⟨by omega, by omega, ?_⟩
      simp only [go_sem, ↓reduceIte, Nat.reduceEqDiff, Nat.reduceAdd, Bool.false_eq_true, Int.reduceToNat, hg, q0, q1]
      refine Long_calls (he.monoE ht hle) ht2 (nv.monoE ht hle) hn.1 hx hn.2 (fun hz _ => absurd hz (by have := hpos _ (List.getElem_mem h1); omega)) fun _ q r h3 hw3 hl3 ht3 _ hr => ?_
      have hs3 := hs.monoE (fun ⟨v, e, hx⟩ hl => ⟨v, e, hx.monoE hul hl⟩) hul hl3
      obtain ⟨io, co, q10⟩ := hs3.form
      have hlen : ((xss.take i).map fun ys => x % val 18446744073709551616 ys).length = i := by simp; omega
      rw [hlen] at q10
      rw [q10] at hs3
      have hio := hs.form
      obtain ⟨io', co', q10'⟩ := hio
      rw [q10'] at q10
      injection q10 with q10a q10b q10c q10d
      subst q10a; subst q10d
      rw [hlen] at q10'
      rw [q10'] at hs
      have hiol := hs.io_lt hw2
      have hr1 : r.one = true := by
        obtain ⟨rs, hr, _⟩ := hr
        obtain ⟨x1, x2, rfl⟩ := hr.form
        rfl
      have hle3 := hle.trans hl3
      simp only [go_sem, ↓reduceIte, Nat.reduceEqDiff, Nat.reduceAdd, Bool.false_eq_true, Int.reduceToNat, q0, q1, q2, q25, q26, q27, q10', lit_one hr1]
      refine Live.app (a := h3.upto h'.next) NfL.grows (by omega) (H.upto_wf _ _) hw3 (H.upto_le hle3.1) (by rw [H.upto_next]; exact hs3) hlen.symm (y := x % val 18446744073709551616 xss[i]) ⟨r, rfl, (hr.del hiol).base hle.1⟩ rfl (by simp [hr1]) (by omega) (by omega) rfl fun v2 h4 hw4 hle4 hs4 => ?_
      rw [H.upto_next] at hs4
      simp only [go_sem, ↓reduceIte, Nat.reduceEqDiff, Nat.reduceAdd, Bool.false_eq_true, Int.reduceToNat, q0, q1, q2, q25, q26, q27, incI (i := i) (by omega)]
      refine ⟨by omega, hw4, lee_upto hw hle3 hle4, ⟨_, ht3.upto hul hle4⟩, by first | rfl | trivial | assumption, by first | rfl | trivial | assumption, by first | rfl | trivial | assumption, by first | rfl | trivial | assumption, by first | rfl | trivial | assumption, by first | rfl | trivial | assumption, ?_⟩
      rw [List.take_succ_eq_append_getElem h1, List.map_append]
      exact hs4
    · rw [List.take_of_length_le h1] at hs
      simp only [go_sem, ↓reduceIte, Nat.reduceEqDiff, Nat.reduceAdd, Bool.false_eq_true, Int.reduceToNat, q0, q1, q2, q25, q26, q27, ltF h1]
      exact fun _ => hk hpos _ _ hw2 hle (hs.isA NfL.grows)
end Ab
end Go.Proofs.Ytnmnkocibjdhjaa
namespace Go.Proofs.Ytnmnkocibjdhjaa
namespace Ab
open Go Go.RowKit
set_option maxRecDepth 100000
set_option linter.unusedSimpArgs false
set_option linter.unusedVariables false
attribute [local go_sem ↓] x_mv x_pick x_bin x_beq x_peq x_seq x_cat x_aeq x_idxS x_un x_cvI x_idx x_idxA x_fld x_ld x_st x_nn x_prt x_slc x_mk x_bsl x_bld x_box x_alloc x_len x_capo x_mnx x_app x_cpy x_mkf x_ext x_call x_callV x_bad s_none s_some s_nil s_cons s_chks w_skip w_reg tP_fin tP_no tP_alt w_seq w_cond w_block w_exit w_ret t_normal t_exit t_ret b_normal b_ret b_exit n_normal n_exit n_ret p_normal p_ret f_nil f_t f_c k_ops k_chk k_fin
attribute [local go_sem] e_t e_c e_f u_some u_none u_at env_at k_v k_pick k_add k_sub k_mul k_quo k_rem k_and k_or k_xor k_shl k_shr k_eql k_neq k_lss k_leq k_gtr k_geq k_beq k_peqn k_peqs k_neg k_not k_com k_cvI k_idxS k_idx k_idxA k_idxG k_ldG k_gld k_seq k_cat k_aeq k_eqs k_fld k_ld1 k_ldn k_get k_gets k_sti k_stb k_stp k_sts k_stf k_sta k_put k_nn k_prt1 k_prtn k_slc_a k_slc_b k_slc_c k_mk k_agg k_bsl k_box k_len k_lenS k_cap k_max k_min k_ext k_callV k_true k_false k_gtt k_gtf k_gft k_gsk k_gff k_lit1i k_lit2i k_lit3i k_c0 k_c1 k_ck List.getElem?_cons_zero List.getElem?_cons_succ List.getElem?_nil Option.getD_some Option.getD_none tupOf List.map_cons List.map_nil Option.map_some Option.map_none List.nil_append List.cons_append List.append_nil Nat.mul_one Int.toNat_natCast Nat.zero_add
theorem rMod_calls {v u : AV} {x y : Nat} {h : H} {K : AV → H → Prop} (nv : Num 4294967296 h v x) (nu : Num 4294967296 h u y) (hx : Big x) (hy : Big y) (hy0 : 0 < y)
    (hk : ∀ r h', h'.wf → h.le h' → Num 4294967296 h' r (x % y) → K r h') : ACalls Try.prog 43 [v, u] h K := by
  refine in_ref02_Mod (by simp) fun hw => ?_
  unfold c_ref02_Mod
  simp only [go_sem, ↓reduceIte, Nat.reduceEqDiff, Nat.reduceAdd, Bool.false_eq_true, Int.reduceToNat]
  refine DivMod_calls nv nu hx hy hy0 fun q r h' hw' hl' _ hr => ?_
  simp only [go_sem, ↓reduceIte, Nat.reduceEqDiff, Nat.reduceAdd, Bool.false_eq_true, Int.reduceToNat]
  exact fun _ => hk r h' hw' hl' hr
theorem Nf.len {b : Nat} {h : H} {v : AV} {x : Nat} (hv : Nf b h v x) : ∃ id c n, v = .sl id 0 n c := by
  obtain ⟨xs, h1, _⟩ := hv
  obtain ⟨id, c, e⟩ := h1.form
  exact ⟨id, c, _, e⟩
theorem DivsMods_law {t : Tb} {va vl : AV} {xs0 : List Nat} {yss0 : List (List Nat)} {h : H} {K : AV → H → Prop} (hv0 : IsN h va xs0) (hx0 : Dig xs0) (hu0 : IsA 1 IsD h vl yss0) (hk : ∀ h', h'.wf → K (.bool true) h') : ACalls Try.prog 7 [t.av, va, vl] h K := by
  refine in_law13_DivsMods (by simp) fun hw => ?_
  unfold c_law13_DivsMods
  have hl0 := H.le_new hw (H.le_refl h) ⟨some 50, 11, t.cells⟩
  have hr0 := H.rows_new h ⟨some 50, 11, t.cells⟩
  simp only [go_sem, ↓reduceIte, Nat.reduceEqDiff, Nat.reduceAdd, Bool.false_eq_true, Int.reduceToNat, av_held, av_cells, cells_len, true_and]
  generalize hg : h.new ⟨some 50, 11, t.cells⟩ = g0 at *
  refine Cut_calls (n := 24) (hv0.mono hl0) fun a ha => ?_
  simp only [go_sem, ↓reduceIte, Nat.reduceEqDiff, Nat.reduceAdd, Bool.false_eq_true, Int.reduceToNat]
  refine Cuts_calls (k := 8) (n := 8) (hu0.mono IsD.grows hl0) (by omega) fun l g1 hw1 hl1 hl => ?_
  have hxd : Dig (xs0.take 24) := Dig.take hx0 24
  have hxl : (xs0.take 24).length ≤ 24 := by simp; omega
  have hyl : ((yss0.take 8).map (·.take 8)).length ≤ 8 := by simp; omega
  have hys : ∀ ys ∈ (yss0.take 8).map (·.take 8), ys.length ≤ 8 := by
    intro ys hm
    obtain ⟨zs, _, rfl⟩ := List.mem_map.1 hm
    simp; omega
  generalize xs0.take 24 = xs at *
  generalize (yss0.take 8).map (·.take 8) = yss at *
  have ha1 := ha.mono hl1
  simp only [go_sem, ↓reduceIte, Nat.reduceEqDiff, Nat.reduceAdd, Bool.false_eq_true, Int.reduceToNat, gsT (hl1.2 _ _ hr0)]
  refine dNew_calls fun e u g2 hw2 hl2 hn2 hue he ht => ?_
  have ha2 := ha1.mono hl2
  have hL2 := hl.mono IsD.grows hl2
  have bx : Big (val 18446744073709551616 xs) := Dig.big hxd (by omega)
  obtain ⟨il, ol, cl, rfl⟩ := hl.form
  simp only [go_sem, ↓reduceIte, Nat.reduceEqDiff, Nat.reduceAdd, Bool.false_eq_true, Int.reduceToNat, Option.isNone, Bool.false_bne]
  refine Nats_calls hL2 (by omega) fun nl g3 hw3 hl3 hnl => ?_
  have ha3 := ha2.mono hl3
  have hL3 := hL2.mono IsD.grows hl3
  simp only [go_sem, ↓reduceIte, Nat.reduceEqDiff, Nat.reduceAdd, Bool.false_eq_true, Int.reduceToNat]
  have hwords : ∀ {g : H} {v : AV} {ys : List Nat} {K : AV → H → Prop}, IsD g [v] ys → ys.length ≤ 8 → K (.int .i64 (wlen (val 18446744073709551616 ys) : Nat)) g → ACalls Try.prog 32 [v] g K := by
    rintro g v ys K ⟨v', e, h1, h2, _⟩ h4 hk
    injection e with e
    subst e
    exact words_calls h1 h2 (by omega) hk
  refine LongMod_calls (he.mono hl3) (ht.mono hl3) (ha3.nn hxd (by omega)) bx hnl (by omega) (fun ys hm => by have := hys ys hm; omega) (fun hz _ => ?_) (fun hpos r g4 hw4 hl4 hr => ?_)
  · simp only [go_sem, ↓reduceIte, Nat.reduceEqDiff, Nat.reduceAdd, Bool.false_eq_true, Int.reduceToNat]
    refine for_rule (fun i ρ h' => i ≤ yss.length ∧ h' = g3 ∧ ρ 2 = .sl il ol yss.length cl ∧ ρ 8 = .sl none 0 0 none ∧ ρ 9 = .int .i64 2 ∧ ρ 10 = .int .i64 (i : Int) ∧ ∀ ys ∈ yss.take i, 0 < val 18446744073709551616 ys) yss.length ⟨by omega, rfl, rfl, rfl, rfl, rfl, by simp⟩ (fun i ρ h hI => hI.1) ?_
    rintro i ρ h' ⟨hi, rfl, q2, q8, q9, q10, hp⟩
    rcases Nat.lt_or_ge i yss.length with h1 | h1
    · obtain ⟨ii, av, rfl, _, hgv, hav⟩ := hL3.at1 h1
      have hm := List.getElem_mem h1
      simp only [go_sem, ↓reduceIte, Nat.reduceEqDiff, Nat.reduceAdd, Bool.false_eq_true, Int.reduceToNat, q2, q8, q9, q10, ltT h1]
      refine ⟨by omega, by omega, ?_⟩
      simp only [go_sem, ↓reduceIte, Nat.reduceEqDiff, Nat.reduceAdd, Bool.false_eq_true, Int.reduceToNat, hgv]
      refine hwords hav (hys _ hm) ?_
      by_cases hz0 : val 18446744073709551616 yss[i] = 0
      · rw [hz0, wlen_zero]
        simp only [go_sem, ↓reduceIte, Nat.reduceEqDiff, Nat.reduceAdd, Bool.false_eq_true, Int.reduceToNat, eqT (show ((0 : Nat) : Int) = 0 from rfl), q8, q9, beq_self_eq_true]
        refine wakes13_calls fun g5 hw5 hl5 => ?_
        simp only [go_sem, ↓reduceIte, Nat.reduceEqDiff, Nat.reduceAdd, Bool.false_eq_true, Int.reduceToNat]
        exact fun _ => hk g5 hw5
      · simp only [go_sem, ↓reduceIte, Nat.reduceEqDiff, Nat.reduceAdd, Bool.false_eq_true, Int.reduceToNat, eqF (show ((wlen (val 18446744073709551616 yss[i]) : Nat) : Int) ≠ 0 by have := mt wlen_eq_zero.1 hz0; omega), q2, q8, q9, q10, incI (i := i) (by omega)]
        refine ⟨by omega, by first | rfl | trivial | assumption, by first | rfl | trivial | assumption, by first | rfl | trivial | assumption, by first | rfl | trivial | assumption, by first | rfl | trivial | assumption, fun ys hy => ?_⟩
        rw [List.take_succ_eq_append_getElem h1] at hy
        rcases List.mem_append.1 hy with hy | hy
        · exact hp ys hy
        · simp at hy; subst hy; omega
    · exfalso
      obtain ⟨ys, hm, h0⟩ := hz
      rw [List.take_of_length_le h1] at hp
      have := hp ys hm
      omega
  · have ha4 := ha3.monoE (ht.mono hl3) hl4
    have hL4 := hL3.monoE (fun hx => IsD.monoE (ht.mono hl3) hl4 hx) (ht.mono hl3) (by omega) hl4
    obtain ⟨ir, or, cr, rfl⟩ := hr.form
    simp only [go_sem, ↓reduceIte, Nat.reduceEqDiff, Nat.reduceAdd, Bool.false_eq_true, Int.reduceToNat]
    refine loop_cut (fun ρ h' => h' = g4 ∧ ρ 1 = a ∧ ρ 2 = .sl il ol yss.length cl ∧ ρ 8 = .sl ir or (yss.map fun ys => val 18446744073709551616 xs % val 18446744073709551616 ys).length cr ∧ ρ 9 = .int .i64 0) ?_ ?_
    · refine for_rule (fun i ρ h' => i ≤ yss.length ∧ h' = g4 ∧ ρ 1 = a ∧ ρ 2 = .sl il ol yss.length cl ∧ ρ 8 = .sl ir or (yss.map fun ys => val 18446744073709551616 xs % val 18446744073709551616 ys).length cr ∧ ρ 9 = .int .i64 0 ∧ ρ 10 = .int .i64 (i : Int)) yss.length ⟨by omega, rfl, rfl, rfl, rfl, rfl, rfl⟩ (fun i ρ h hI => hI.1) ?_
      rintro i ρ h' ⟨hi, rfl, q1, q2, q8, q9, q10⟩
      rcases Nat.lt_or_ge i yss.length with h1 | h1
      · obtain ⟨ii, av, rfl, _, hgv, hav⟩ := hL4.at1 h1
        have hm := List.getElem_mem h1
        have hz0 := hpos _ hm
        simp only [go_sem, ↓reduceIte, Nat.reduceEqDiff, Nat.reduceAdd, Bool.false_eq_true, Int.reduceToNat, q1, q2, q8, q9, q10, ltT h1]
        refine ⟨by omega, by omega, ?_⟩
        simp only [go_sem, ↓reduceIte, Nat.reduceEqDiff, Nat.reduceAdd, Bool.false_eq_true, Int.reduceToNat, hgv]
        refine hwords hav (hys _ hm) ?_
        simp only [go_sem, ↓reduceIte, Nat.reduceEqDiff, Nat.reduceAdd, Bool.false_eq_true, Int.reduceToNat, eqF (show ((wlen (val 18446744073709551616 yss[i]) : Nat) : Int) ≠ 0 by have := mt wlen_eq_zero.1 (show val 18446744073709551616 yss[i] ≠ 0 by omega); omega), q1, q2, q8, q9, q10, incI (i := i) (by omega)]
        exact ⟨by omega, by first | rfl | trivial | assumption, by first | rfl | trivial | assumption, by first | rfl | trivial | assumption, by first | rfl | trivial | assumption, by first | rfl | trivial | assumption, by first | rfl | trivial | assumption⟩
      · simp only [go_sem, ↓reduceIte, Nat.reduceEqDiff, Nat.reduceAdd, Bool.false_eq_true, Int.reduceToNat, q1, q2, q8, q9, q10, ltF h1]
        exact ⟨trivial, trivial, trivial, trivial, trivial⟩
    · rintro ρ h' ⟨rfl, q1, q2, q8, q9⟩
      have hlr : (yss.map fun ys => val 18446744073709551616 xs % val 18446744073709551616 ys).length = yss.length := by simp
      simp only [go_sem, ↓reduceIte, Nat.reduceEqDiff, Nat.reduceAdd, Bool.false_eq_true, Int.reduceToNat, q1, q2, q8, q9, neF (show (0 : Int) = 0 from rfl), neF (show ((yss.map fun ys => val 18446744073709551616 xs % val 18446744073709551616 ys).length : Int) = yss.length by rw [hlr])]
      refine for_rule (fun i ρ h5 => i ≤ yss.length ∧ h5.wf ∧ h'.le h5 ∧ ρ 1 = a ∧ ρ 2 = .sl il ol yss.length cl ∧ ρ 8 = .sl ir or (yss.map fun ys => val 18446744073709551616 xs % val 18446744073709551616 ys).length cr ∧ ρ 11 = .int .i64 (i : Int)) yss.length ⟨by omega, hw4, H.le_refl _, q1, q2, q8, by first | rfl | trivial | assumption⟩ (fun i ρ h hI => hI.1) ?_
      rintro i ρ h5 ⟨hi, hw5, hle5, q1, q2, q8, q11⟩
      rcases Nat.lt_or_ge i yss.length with h1 | h1
      · obtain ⟨ii, av, rfl, _, hgv, hav⟩ := (hL4.mono IsD.grows hle5).at1 h1
        have hm := List.getElem_mem h1
        have hz0 := hpos _ hm
        obtain ⟨jj, rv, rfl, _, hgr, rv', e, hrv⟩ := (hr.mono NfL.grows hle5).at1 (j := i) (by rw [hlr]; exact h1)
        injection e with e
        subst e
        obtain ⟨_, e, hN, hD, _⟩ := hav
        injection e with e
        subst e
        have hys8 := hys _ hm
        have by8 : Big (val 18446744073709551616 yss[i]) := Dig.big hD (by omega)
        rw [List.getElem_map] at hrv
        simp only [go_sem, ↓reduceIte, Nat.reduceEqDiff, Nat.reduceAdd, Bool.false_eq_true, Int.reduceToNat, q1, q2, q8, q11, ltT h1]
        refine ⟨by omega, by omega, ?_⟩
        simp only [go_sem, ↓reduceIte, Nat.reduceEqDiff, Nat.reduceAdd, Bool.false_eq_true, Int.reduceToNat, hgv, q1, q2, q8, q11]
        refine ⟨by omega, by rw [hlr]; omega, ?_⟩
        simp only [go_sem, ↓reduceIte, Nat.reduceEqDiff, Nat.reduceAdd, Bool.false_eq_true, Int.reduceToNat, hgr, q1, q2, q8, q11]
        refine from13_calls (ha4.mono hle5) hxd (by omega) fun fa g6 hw6 hl6 nfa => ?_
        simp only [go_sem, ↓reduceIte, Nat.reduceEqDiff, Nat.reduceAdd, Bool.false_eq_true, Int.reduceToNat, hgv, H.get_le hl6 hgv, H.get_le hl6 hgr, true_and]
        refine from13_calls (hN.mono hl6) hD (by omega) fun fb g7 hw7 hl7 nfb => ?_
        simp only [go_sem, ↓reduceIte, Nat.reduceEqDiff, Nat.reduceAdd, Bool.false_eq_true, Int.reduceToNat, H.get_le hl7 (H.get_le hl6 hgr), true_and]
        refine rMod_calls (nfa.mono hl7) nfb bx by8 hz0 fun m g8 hw8 hl8 nm => ?_
        simp only [go_sem, ↓reduceIte, Nat.reduceEqDiff, Nat.reduceAdd, Bool.false_eq_true, Int.reduceToNat, H.get_le hl8 (H.get_le hl7 (H.get_le hl6 hgr)), true_and]
        refine rSame_calls nm (bx.le (Nat.mod_le _ _)) ((hrv.mono (H.le_trans hl6 (H.le_trans hl7 hl8))).nt) fun g9 hw9 hl9 => ?_
        simp only [go_sem, ↓reduceIte, Nat.reduceEqDiff, Nat.reduceAdd, Bool.false_eq_true, Int.reduceToNat, Bool.not_true, q1, q2, q8, q11, incI (i := i) (by omega)]
        exact ⟨by omega, hw9, (H.le_trans hle5 (H.le_trans hl6 (H.le_trans hl7 (H.le_trans hl8 hl9)))), by first | rfl | trivial | assumption, by first | rfl | trivial | assumption, by first | rfl | trivial | assumption, by first | rfl | trivial | assumption⟩
      · simp only [go_sem, ↓reduceIte, Nat.reduceEqDiff, Nat.reduceAdd, Bool.false_eq_true, Int.reduceToNat, q1, q2, q8, q11, ltF h1]
        refine wakes13_calls fun g6 hw6 hl6 => ?_
        simp only [go_sem, ↓reduceIte, Nat.reduceEqDiff, Nat.reduceAdd, Bool.false_eq_true, Int.reduceToNat]
        exact fun _ => hk g6 hw6
theorem DivsMods_row (h : H) (avs : List AV) (_ : h.wf) (r : ReadsAll Try.prog h [50, 28, 86] avs) : ACalls Try.prog 7 avs h (fun r _ => r = .bool true) := by
  match avs, r with
  | [_, _, _], ⟨r0, r1, r2, _⟩ =>
    obtain ⟨t0, rfl⟩ := reads_table r0
    obtain ⟨xs, h1, hx, _⟩ := reads_words r1
    obtain ⟨yss, h2, _⟩ := reads_rows r2
    exact DivsMods_law h1 hx h2 fun _ _ => rfl
theorem lit5 {z a b c d e : AV} {k : IntKind} {v0 v1 v2 v3 v4 : Int} : abuild (zs [z] 5) [(0, 1, .int k v0), (1, 1, .int k v1), (2, 1, .int k v2), (3, 1, .int k v3), (4, 1, .int k v4)] = some [.int k v0, .int k v1, .int k v2, .int k v3, .int k v4] := rfl
theorem DivsHard_law {t : Tb} {n0 m0 i0 j0 : Int} {top : Bool} {h : H} {K : AV → H → Prop} (hk : ∀ h', h'.wf → K (.bool true) h') : ACalls Try.prog 6 [t.av, .int .i64 n0, .int .i64 m0, .int .i64 i0, .int .i64 j0, .bool top] h K := by
  refine in_law13_DivsHard (by simp) fun hw => ?_
  unfold c_law13_DivsHard
  have hl0 := H.le_new hw (H.le_refl h) ⟨some 50, 11, t.cells⟩
  have hr0 := H.rows_new h ⟨some 50, 11, t.cells⟩
  have hw0 := H.wf_new hw ⟨some 50, 11, t.cells⟩
  simp only [go_sem, ↓reduceIte, Nat.reduceEqDiff, Nat.reduceAdd, Bool.false_eq_true, Int.reduceToNat, av_held, av_cells, cells_len, true_and]
  generalize hg : h.new ⟨some 50, 11, t.cells⟩ = g0 at *
  refine Within_calls (n := 20) (by omega) (by omega) fun n hn _ => ?_
  have e1 : IntKind.i64.wrap (1 + (n : Int)) = ((n + 1 : Nat) : Int) := by rw [wI] <;> omega
  simp only [go_sem, ↓reduceIte, Nat.reduceEqDiff, Nat.reduceAdd, Bool.false_eq_true, Int.reduceToNat, e1]
  refine Within_calls (n := 10) (by omega) (by omega) fun m hm _ => ?_
  have e2 : IntKind.i64.wrap (1 + (m : Int)) = ((m + 1 : Nat) : Int) := by rw [wI] <;> omega
  simp only [go_sem, ↓reduceIte, Nat.reduceEqDiff, Nat.reduceAdd, Bool.false_eq_true, Int.reduceToNat, e2]
  refine awp_cut (fun ρ h' => h'.wf ∧ g0.le h' ∧ ρ 1 = .int .i64 ((n + 1 : Nat) : Int) ∧ ρ 2 = .int .i64 ((m + 1 : Nat) : Int) ∧ ρ 3 = .int .i64 i0 ∧ ρ 4 = .int .i64 j0 ∧ ρ 5 = .bool top ∧ ρ 6 = .ptr (some (h.next, 0)) ∧ ∃ ia ib, ia ≠ ib ∧ ρ 13 = .sl (some ia) 0 (n + 1) (some (n + 1)) ∧ ρ 14 = .sl (some ib) 0 (m + 1) (some (m + 1)) ∧
    IsG g0.next h' (.sl (some ia) 0 (n + 1) (some (n + 1))) (List.replicate (n + 1) 0) ∧ IsG g0.next h' (.sl (some ib) 0 (m + 1) (some (m + 1))) (List.replicate (m + 1) 0)) ?_ ?_
  · simp only [go_sem, ↓reduceIte, Nat.reduceEqDiff, Nat.reduceAdd, Bool.false_eq_true, Int.reduceToNat, w_regt, e1, e2]
    refine ⟨⟨by omega, by omega, by omega, ⟨by omega, by omega, by omega, ?_⟩, trivial⟩, ⟨by omega, by omega, by omega, ⟨by omega, by omega, by omega, ?_⟩, trivial⟩, trivial⟩
    · have w1 := H.wf_new hw0 ⟨some 23, 1, zs [AV.int .u64 0] (n + 1)⟩
      have k2 := H.le_new w1 (H.le_refl _) ⟨some 23, 1, zs [AV.int .u64 0] (m + 1)⟩
      exact ⟨H.wf_new w1 _, H.le_trans (H.le_new hw0 (H.le_refl _) _) k2, trivial, trivial, trivial, trivial, trivial, trivial, _, _, by simp [H.new], rfl, rfl, (IsG.made (Nat.le_refl _) _).mono k2, IsG.made (by simp [H.new]) _⟩
    · have w1 := H.wf_new hw0 ⟨some 23, 1, zs [AV.int .u64 0] (m + 1)⟩
      have k2 := H.le_new w1 (H.le_refl _) ⟨some 23, 1, zs [AV.int .u64 0] (n + 1)⟩
      exact ⟨H.wf_new w1 _, H.le_trans (H.le_new hw0 (H.le_refl _) _) k2, trivial, trivial, trivial, trivial, trivial, trivial, _, _, by simp [H.new], rfl, rfl, IsG.made (by simp [H.new]) _, (IsG.made (Nat.le_refl _) _).mono k2⟩
  rintro ρ h1 ⟨hw1, hl1, q1, q2, q3, q4, q5, q6, ia, ib, hab, q13, q14, ga, gb⟩
  simp only [go_sem, ↓reduceIte, Nat.reduceEqDiff, Nat.reduceAdd, Bool.false_eq_true, Int.reduceToNat, q1, q2, q3, q4, q5, q6, q13, q14]
  refine loop_cut (fun ρ h' => h'.wf ∧ g0.le h' ∧ ρ 1 = .int .i64 ((n + 1 : Nat) : Int) ∧ ρ 2 = .int .i64 ((m + 1 : Nat) : Int) ∧ ρ 3 = .int .i64 i0 ∧ ρ 4 = .int .i64 j0 ∧ ρ 5 = .bool top ∧ ρ 6 = .ptr (some (h.next, 0)) ∧ ρ 13 = .sl (some ia) 0 (n + 1) (some (n + 1)) ∧ ρ 14 = .sl (some ib) 0 (m + 1) (some (m + 1)) ∧
    IsG g0.next h' (.sl (some ib) 0 (m + 1) (some (m + 1))) (List.replicate (m + 1) 0) ∧ ∃ xs, IsG g0.next h' (.sl (some ia) 0 (n + 1) (some (n + 1))) xs ∧ Dig xs ∧ xs.length = n + 1) ?_ ?_
  · refine for_rule (fun k ρ h' => k ≤ n + 1 ∧ h'.wf ∧ g0.le h' ∧ ρ 1 = .int .i64 ((n + 1 : Nat) : Int) ∧ ρ 2 = .int .i64 ((m + 1 : Nat) : Int) ∧ ρ 3 = .int .i64 i0 ∧ ρ 4 = .int .i64 j0 ∧ ρ 5 = .bool top ∧ ρ 6 = .ptr (some (h.next, 0)) ∧ ρ 13 = .sl (some ia) 0 (n + 1) (some (n + 1)) ∧ ρ 14 = .sl (some ib) 0 (m + 1) (some (m + 1)) ∧ ρ 15 = .int .i64 (k : Int) ∧
      IsG g0.next h' (.sl (some ib) 0 (m + 1) (some (m + 1))) (List.replicate (m + 1) 0) ∧ ∃ xs, IsG g0.next h' (.sl (some ia) 0 (n + 1) (some (n + 1))) xs ∧ Dig xs ∧ xs.length = n + 1) (n + 1)
      ⟨by omega, hw1, hl1, q1, q2, q3, q4, q5, q6, q13, q14, rfl, gb, _, ga, Dig.zeros _, by simp⟩ (fun i ρ h hI => hI.1) ?_
    rintro k ρ h' ⟨hkn, hw', hle, q1, q2, q3, q4, q5, q6, q13, q14, q15, gb, xs, ga, hd, hxl⟩
    rcases Nat.lt_or_ge k (n + 1) with h1 | h1
    · simp only [go_sem, ↓reduceIte, Nat.reduceEqDiff, Nat.reduceAdd, Bool.false_eq_true, Int.reduceToNat, q1, q2, q3, q4, q5, q6, q13, q14, q15, ltT h1, lit5]
      refine Within_calls (n := 5) (by omega) (by omega) fun w hw5 _ => ?_
      have hlit : IsN (h'.new ⟨some 23, 1, [.int .u64 0, .int .u64 18446744073709551615, .int .u64 9223372036854775808, .int .u64 9223372036854775807, .int .u64 1]⟩) (.sl (some h'.next) 0 5 (some 5)) [0, 18446744073709551615, 9223372036854775808, 9223372036854775807, 1] := IsN.lit _ _ rfl rfl
      obtain ⟨_, e, _, hgl⟩ := hlit.at (j := w) (by simpa using hw5)
      injection e with e
      subst e
      have hdl : Dig [0, 18446744073709551615, 9223372036854775808, 9223372036854775807, 1] := fun z hz => by simp at hz; omega
      have hxd := hdl _ (List.getElem_mem (l := [0, 18446744073709551615, 9223372036854775808, 9223372036854775807, 1]) (n := w) (by simpa using hw5))
      generalize ([0, 18446744073709551615, 9223372036854775808, 9223372036854775807, 1] : List Nat)[w]'(by simpa using hw5) = d at *
      have hl2 := H.le_new hw' (H.le_refl h') ⟨some 23, 1, [.int .u64 0, .int .u64 18446744073709551615, .int .u64 9223372036854775808, .int .u64 9223372036854775807, .int .u64 1]⟩
      have hw2 := H.wf_new hw' ⟨some 23, 1, [.int .u64 0, .int .u64 18446744073709551615, .int .u64 9223372036854775808, .int .u64 9223372036854775807, .int .u64 1]⟩
      rw [Nat.zero_add] at hgl
      simp only [go_sem, ↓reduceIte, Nat.reduceEqDiff, Nat.reduceAdd, Bool.false_eq_true, Int.reduceToNat]
      refine ⟨by omega, by omega, ?_⟩
      simp only [go_sem, ↓reduceIte, Nat.reduceEqDiff, Nat.reduceAdd, Bool.false_eq_true, Int.reduceToNat, hgl]
      refine ⟨by omega, by omega, ?_⟩
      obtain ⟨i2, r2, e3, hb2, hlt2, hr2, ho2, hf2, hp2⟩ := (ga.mono hl2).put hw2 (j := k) (by omega)
      injection e3 with e3
      subst e3
      simp only [go_sem, ↓reduceIte, Nat.reduceEqDiff, Nat.reduceAdd, Bool.false_eq_true, Int.reduceToNat, hr2]
      refine ⟨ho2, by omega, ?_⟩
      simp only [go_sem, ↓reduceIte, Nat.reduceEqDiff, Nat.reduceAdd, Bool.false_eq_true, Int.reduceToNat, q1, q2, q3, q4, q5, q6, q13, q14, q15, incI (i := k) (by omega)]
      exact ⟨by omega, H.wf_set hw2 hlt2 _, H.le_set hw0 (H.le_trans hle hl2) hb2 _, by first | rfl | trivial | assumption, by first | rfl | trivial | assumption, by first | rfl | trivial | assumption, by first | rfl | trivial | assumption, by first | rfl | trivial | assumption, by first | rfl | trivial | assumption, by first | rfl | trivial | assumption, by first | rfl | trivial | assumption, by first | rfl | trivial | assumption, (gb.mono hl2).other (Ne.symm hab), _, hp2 d, hd.set k hxd, by simp [hxl]⟩
    · simp only [go_sem, ↓reduceIte, Nat.reduceEqDiff, Nat.reduceAdd, Bool.false_eq_true, Int.reduceToNat, q1, q2, q3, q4, q5, q6, q13, q14, q15, ltF h1]
      exact ⟨hw', hle, by first | rfl | trivial | assumption, by first | rfl | trivial | assumption, by first | rfl | trivial | assumption, by first | rfl | trivial | assumption, by first | rfl | trivial | assumption, by first | rfl | trivial | assumption, by first | rfl | trivial | assumption, by first | rfl | trivial | assumption, gb, xs, ga, hd, hxl⟩
  rintro ρ h1 ⟨hw1, hl1, q1, q2, q3, q4, q5, q6, q13, q14, gb, xs, ga, hxd, hxl⟩
  simp only [go_sem, ↓reduceIte, Nat.reduceEqDiff, Nat.reduceAdd, Bool.false_eq_true, Int.reduceToNat, q1, q2, q3, q4, q5, q6, q13, q14]
  refine loop_cut (fun ρ h' => h'.wf ∧ g0.le h' ∧ ρ 1 = .int .i64 ((n + 1 : Nat) : Int) ∧ ρ 2 = .int .i64 ((m + 1 : Nat) : Int) ∧ ρ 3 = .int .i64 i0 ∧ ρ 4 = .int .i64 j0 ∧ ρ 5 = .bool top ∧ ρ 6 = .ptr (some (h.next, 0)) ∧ ρ 13 = .sl (some ia) 0 (n + 1) (some (n + 1)) ∧ ρ 14 = .sl (some ib) 0 (m + 1) (some (m + 1)) ∧
    IsG g0.next h' (.sl (some ia) 0 (n + 1) (some (n + 1))) xs ∧ ∃ ys, IsG g0.next h' (.sl (some ib) 0 (m + 1) (some (m + 1))) ys ∧ Dig ys ∧ ys.length = m + 1) ?_ ?_
  · refine for_rule (fun k ρ h' => k ≤ m + 1 ∧ h'.wf ∧ g0.le h' ∧ ρ 1 = .int .i64 ((n + 1 : Nat) : Int) ∧ ρ 2 = .int .i64 ((m + 1 : Nat) : Int) ∧ ρ 3 = .int .i64 i0 ∧ ρ 4 = .int .i64 j0 ∧ ρ 5 = .bool top ∧ ρ 6 = .ptr (some (h.next, 0)) ∧ ρ 13 = .sl (some ia) 0 (n + 1) (some (n + 1)) ∧ ρ 14 = .sl (some ib) 0 (m + 1) (some (m + 1)) ∧ ρ 16 = .int .i64 (k : Int) ∧
      IsG g0.next h' (.sl (some ia) 0 (n + 1) (some (n + 1))) xs ∧ ∃ ys, IsG g0.next h' (.sl (some ib) 0 (m + 1) (some (m + 1))) ys ∧ Dig ys ∧ ys.length = m + 1) (m + 1)
      ⟨by omega, hw1, hl1, q1, q2, q3, q4, q5, q6, q13, q14, rfl, ga, _, gb, Dig.zeros _, by simp⟩ (fun i ρ h hI => hI.1) ?_
    rintro k ρ h' ⟨hkn, hw', hle, q1, q2, q3, q4, q5, q6, q13, q14, q15, ga, ys, gb, hd, hyl⟩
    rcases Nat.lt_or_ge k (m + 1) with h1 | h1
    · simp only [go_sem, ↓reduceIte, Nat.reduceEqDiff, Nat.reduceAdd, Bool.false_eq_true, Int.reduceToNat, q1, q2, q3, q4, q5, q6, q13, q14, q15, ltT h1, lit5]
      refine Within_calls (n := 5) (by omega) (by omega) fun w hw5 _ => ?_
      have hlit : IsN (h'.new ⟨some 23, 1, [.int .u64 0, .int .u64 18446744073709551615, .int .u64 1, .int .u64 9223372036854775808, .int .u64 9223372036854775807]⟩) (.sl (some h'.next) 0 5 (some 5)) [0, 18446744073709551615, 1, 9223372036854775808, 9223372036854775807] := IsN.lit _ _ rfl rfl
      obtain ⟨_, e, _, hgl⟩ := hlit.at (j := w) (by simpa using hw5)
      injection e with e
      subst e
      have hdl : Dig [0, 18446744073709551615, 1, 9223372036854775808, 9223372036854775807] := fun z hz => by simp at hz; omega
      have hxd := hdl _ (List.getElem_mem (l := [0, 18446744073709551615, 1, 9223372036854775808, 9223372036854775807]) (n := w) (by simpa using hw5))
      generalize ([0, 18446744073709551615, 1, 9223372036854775808, 9223372036854775807] : List Nat)[w]'(by simpa using hw5) = d at *
      have hl2 := H.le_new hw' (H.le_refl h') ⟨some 23, 1, [.int .u64 0, .int .u64 18446744073709551615, .int .u64 1, .int .u64 9223372036854775808, .int .u64 9223372036854775807]⟩
      have hw2 := H.wf_new hw' ⟨some 23, 1, [.int .u64 0, .int .u64 18446744073709551615, .int .u64 1, .int .u64 9223372036854775808, .int .u64 9223372036854775807]⟩
      rw [Nat.zero_add] at hgl
      simp only [go_sem, ↓reduceIte, Nat.reduceEqDiff, Nat.reduceAdd, Bool.false_eq_true, Int.reduceToNat]
      refine ⟨by omega, by omega, ?_⟩
      simp only [go_sem, ↓reduceIte, Nat.reduceEqDiff, Nat.reduceAdd, Bool.false_eq_true, Int.reduceToNat, hgl]
      refine ⟨by omega, by omega, ?_⟩
      obtain ⟨i2, r2, e3, hb2, hlt2, hr2, ho2, hf2, hp2⟩ := (gb.mono hl2).put hw2 (j := k) (by omega)
      injection e3 with e3
      subst e3
      simp only [go_sem, ↓reduceIte, Nat.reduceEqDiff, Nat.reduceAdd, Bool.false_eq_true, Int.reduceToNat, hr2]
      refine ⟨ho2, by omega, ?_⟩
      simp only [go_sem, ↓reduceIte, Nat.reduceEqDiff, Nat.reduceAdd, Bool.false_eq_true, Int.reduceToNat, q1, q2, q3, q4, q5, q6, q13, q14, q15, incI (i := k) (by omega)]
      exact ⟨by omega, H.wf_set hw2 hlt2 _, H.le_set hw0 (H.le_trans hle hl2) hb2 _, by first | rfl | trivial | assumption, by first | rfl | trivial | assumption, by first | rfl | trivial | assumption, by first | rfl | trivial | assumption, by first | rfl | trivial | assumption, by first | rfl | trivial | assumption, by first | rfl | trivial | assumption, by first | rfl | trivial | assumption, by first | rfl | trivial | assumption, (ga.mono hl2).other hab, _, hp2 d, hd.set k hxd, by simp [hyl]⟩
    · simp only [go_sem, ↓reduceIte, Nat.reduceEqDiff, Nat.reduceAdd, Bool.false_eq_true, Int.reduceToNat, q1, q2, q3, q4, q5, q6, q13, q14, q15, ltF h1]
      exact ⟨hw', hle, by first | rfl | trivial | assumption, by first | rfl | trivial | assumption, by first | rfl | trivial | assumption, by first | rfl | trivial | assumption, by first | rfl | trivial | assumption, by first | rfl | trivial | assumption, by first | rfl | trivial | assumption, by first | rfl | trivial | assumption, ga, ys, gb, hd, hyl⟩
  rintro ρ h1 ⟨hw1, hl1, q1, q2, q3, q4, q5, q6, q13, q14, ga, ys, gb, hyd, hyl⟩
  obtain ⟨i2, r2, e3, hb2, hlt2, hr2, ho2, hf2, hp2⟩ := gb.put hw1 (j := m) (by omega)
  injection e3 with e3
  subst e3
  have e4 : IntKind.i64.wrap (((m + 1 : Nat) : Int) - 1) = ((m : Nat) : Int) := by rw [wI] <;> omega
  simp only [go_sem, ↓reduceIte, Nat.reduceEqDiff, Nat.reduceAdd, Bool.false_eq_true, Int.reduceToNat, q2, q14, e4]
  refine ⟨by omega, by omega, ?_⟩
  simp only [go_sem, ↓reduceIte, Nat.reduceEqDiff, Nat.reduceAdd, Bool.false_eq_true, Int.reduceToNat, hr2]
  refine ⟨ho2, by omega, ?_⟩
  have gb2 : IsG g0.next (h1.set ib { r2 with cells := putAt r2.cells m [AV.int .u64 9223372036854775808] }) (.sl (some ib) 0 (m + 1) (some (m + 1))) (ys.set m 9223372036854775808) := hp2 9223372036854775808
  have ga2 := ga.other (k := ib) (r := { r2 with cells := putAt r2.cells m [AV.int .u64 9223372036854775808] }) hab
  have hw2 := H.wf_set hw1 hlt2 { r2 with cells := putAt r2.cells m [AV.int .u64 9223372036854775808] }
  have hl2 := H.le_set hw0 hl1 hb2 { r2 with cells := putAt r2.cells m [AV.int .u64 9223372036854775808] }
  simp only [go_sem, ↓reduceIte, Nat.reduceEqDiff, Nat.reduceAdd, Bool.false_eq_true, Int.reduceToNat, q1, q2, q3, q4, q5, q6, q13, q14]
  refine cond_cut (fun ρ h' => h'.wf ∧ g0.le h' ∧ ρ 6 = .ptr (some (h.next, 0)) ∧ ρ 13 = .sl (some ia) 0 (n + 1) (some (n + 1)) ∧ ρ 14 = .sl (some ib) 0 (m + 1) (some (m + 1)) ∧
    IsG g0.next h' (.sl (some ia) 0 (n + 1) (some (n + 1))) xs ∧ ∃ ys, IsG g0.next h' (.sl (some ib) 0 (m + 1) (some (m + 1))) ys ∧ Dig ys) ?_ ?_
  · cases top with
    | false =>
      simp only [go_sem, ↓reduceIte, Nat.reduceEqDiff, Nat.reduceAdd, Bool.false_eq_true, Int.reduceToNat, q6, q13, q14]
      exact ⟨hw2, hl2, trivial, trivial, trivial, ga2, _, gb2, hyd.set m (by omega)⟩
    | true =>
      obtain ⟨i3, r3, e3, hb3, hlt3, hr3, ho3, hf3, hp3⟩ := gb2.put hw2 (j := m) (by rw [List.length_set]; omega)
      injection e3 with e3
      subst e3
      simp only [go_sem, ↓reduceIte, Nat.reduceEqDiff, Nat.reduceAdd, Bool.false_eq_true, Int.reduceToNat, q2, q14, e4]
      refine ⟨by omega, by omega, ?_⟩
      simp only [go_sem, ↓reduceIte, Nat.reduceEqDiff, Nat.reduceAdd, Bool.false_eq_true, Int.reduceToNat, hr3]
      refine ⟨ho3, by omega, ?_⟩
      simp only [go_sem, ↓reduceIte, Nat.reduceEqDiff, Nat.reduceAdd, Bool.false_eq_true, Int.reduceToNat, q6, q13, q14]
      exact ⟨H.wf_set hw2 hlt3 _, H.le_set hw0 hl2 hb3 _, trivial, trivial, trivial, ga2.other hab, _, hp3 18446744073709551615, (hyd.set m (by omega)).set m (by omega)⟩
  · rintro ρ h2 ⟨hw3, hl3, q6, q13, q14, ga3, ys, gb3, hyd⟩
    simp only [go_sem, ↓reduceIte, Nat.reduceEqDiff, Nat.reduceAdd, Bool.false_eq_true, Int.reduceToNat, q6, q13, q14, gsT (hl3.2 _ _ hr0)]
    refine DivsLongs_law ga3.isN hxd gb3.isN hyd fun g5 hw5 => ?_
    simp only [go_sem, ↓reduceIte, Nat.reduceEqDiff, Nat.reduceAdd, Bool.false_eq_true, Int.reduceToNat]
    refine wakes13_calls fun g6 hw6 hl6 => ?_
    simp only [go_sem, ↓reduceIte, Nat.reduceEqDiff, Nat.reduceAdd, Bool.false_eq_true, Int.reduceToNat]
    exact fun _ => hk g6 hw6
theorem DivsHard_row (h : H) (avs : List AV) (_ : h.wf) (r : ReadsAll Try.prog h [50, 3, 3, 3, 3, 4] avs) : ACalls Try.prog 6 avs h (fun r _ => r = .bool true) := by
  match avs, r with
  | [_, _, _, _, _, _], ⟨r0, r1, r2, r3, r4, r5, _⟩ =>
    obtain ⟨t0, rfl⟩ := reads_table r0
    obtain ⟨n, rfl, _⟩ := reads_i64 r1
    obtain ⟨m, rfl, _⟩ := reads_i64 r2
    obtain ⟨i, rfl, _⟩ := reads_i64 r3
    obtain ⟨j, rfl, _⟩ := reads_i64 r4
    obtain ⟨b, rfl⟩ := reads_bool r5
    exact DivsHard_law fun _ _ => rfl
end Ab
end Go.Proofs.Ytnmnkocibjdhjaa
