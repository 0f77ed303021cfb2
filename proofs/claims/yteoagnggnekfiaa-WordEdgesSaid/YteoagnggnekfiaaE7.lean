/- The naturals of the document: a remainder doubled and made smaller. No condition. -/
import Derived.Test.YteoagnggnekfiaaE6
namespace Go.Proofs.Yteoagnggnekfiaa
namespace Ab
open Go Go.RowKit
set_option linter.unusedSimpArgs false
set_option linter.unusedVariables false
attribute [local go_sem ↓] x_mv x_pick x_bin x_beq x_peq x_idxS x_un x_cvI x_idx x_idxA x_fld x_ld x_st x_nn x_prt x_slc x_mk x_bsl x_bld x_box x_alloc x_len x_capo x_mnx x_app x_cpy x_mkf x_ext x_call x_callV x_bad s_none s_some s_nil s_cons s_chks w_skip w_reg w_seq w_cond w_block w_exit w_ret t_normal t_exit t_ret b_normal b_ret b_exit n_normal n_exit n_ret p_normal p_ret f_nil f_t f_c k_ops k_chk k_fin
attribute [local go_sem] e_t e_c e_f u_some u_none u_at env_at k_v k_pick k_add k_sub k_mul k_quo k_rem k_and k_or k_xor k_shl k_shr k_eql k_neq k_lss k_leq k_gtr k_geq k_beq k_peqn k_peqs k_neg k_not k_com k_cvI k_idxS k_idx k_idxA k_fld k_ld1 k_ldn k_get k_gets k_sti k_stb k_stp k_sts k_stf k_sta k_put k_nn k_prt1 k_prtn k_slc_a k_slc_b k_slc_c k_mk k_agg k_bsl k_box k_len k_lenS k_cap k_max k_min k_ext k_callV k_true k_false k_gtt k_gtf k_gft k_gsk k_gff k_lit1i k_lit2i k_lit3i k_c0 k_c1 k_ck List.getElem?_cons_zero List.getElem?_cons_succ List.getElem?_nil Option.getD_some Option.getD_none tupOf List.map_cons List.map_nil Option.map_some Option.map_none List.nil_append List.cons_append List.append_nil Nat.mul_one Int.toNat_natCast Nat.zero_add
/-- All rows but one are kept. -/
structure But (id : Nat) (h h' : H) : Prop where
  next : h'.next = h.next
  rows : ∀ i, i ≠ id → h'.rows i = h.rows i
theorem But.refl (id : Nat) (h : H) : But id h h := ⟨rfl, fun _ _ => rfl⟩
theorem But.trans {id : Nat} {a b c : H} (h : But id a b) (k : But id b c) : But id a c := ⟨k.next.trans h.next, fun i hi => (k.rows i hi).trans (h.rows i hi)⟩
theorem But.set (id : Nat) (h : H) (r : Row) : But id h (h.set id r) := ⟨rfl, fun _ hi => H.rows_set_ne hi⟩
theorem But.le {id : Nat} {a h h' : H} (hb : But id h h') (ha : a.wf) (hah : a.le h) (hid : a.next ≤ id) : a.le h' :=
  ⟨by rw [hb.next]; exact hah.1, fun i r e => by rw [hb.rows i (by have := H.row_lt ha e; omega)]; exact hah.2 i r e⟩
theorem IsG.but {b id j n : Nat} {c : Option Nat} {h h' : H} {xs : List Nat} (hb : But id h h') (hv : IsG b h (.sl (some j) 0 n c) xs) (hj : j ≠ id) : IsG b h' (.sl (some j) 0 n c) xs := by
  obtain ⟨i, c2, e, h1⟩ := hv
  injection e with e1 e2 e3 e4
  subst e1; subst e4
  refine ⟨some j, c, by rw [e3], ?_⟩
  rcases h1 with ⟨h0, _⟩ | ⟨i, r, h0, hbi, hr, h2⟩
  · cases h0
  · injection h0 with h0
    subst h0
    exact .inr ⟨j, r, rfl, hbi, by rw [hb.rows j hj]; exact hr, h2⟩
theorem drop_set_lt {xs : List Nat} {i v : Nat} : (xs.set i v).drop (i + 1) = xs.drop (i + 1) := List.drop_set_of_lt (by omega)
theorem at_drop {xs ys : List Nat} {i : Nat} (h1 : i < xs.length) (h2 : i < ys.length) (h : xs.drop i = ys.drop i) : xs[i] = ys[i] ∧ xs.drop (i + 1) = ys.drop (i + 1) := by
  rw [List.drop_eq_getElem_cons h1, List.drop_eq_getElem_cons h2] at h
  injection h with a b
  exact ⟨a, b⟩
theorem twice_calls {a h : H} {K : AV → H → Prop} {id L : Nat} {c : Option Nat} {rs ds : List Nat} {b : Nat} {d : AV} (ha : a.wf) (hah : a.le h) (hr : IsG a.next h (.sl (some id) 0 L c) rs) (hrd : ∀ x ∈ rs, x < 4294967296)
    (hd : IsN a d ds) (hdd : ∀ x ∈ ds, x < 4294967296) (hl : rs.length = L) (hL : L ≤ 2000000) (hdl : ds.length ≤ L) (hb : b ≤ 1) (hfit : 2 * val 4294967296 rs + b < 4294967296 ^ L)
    (hk : ∀ h' rs', h'.wf → But id h h' → IsG a.next h' (.sl (some id) 0 L c) rs' → (∀ x ∈ rs', x < 4294967296) → rs'.length = L → ∀ t, t = decide (val 4294967296 ds ≤ 2 * val 4294967296 rs + b) → val 4294967296 rs' = (if t = true then 2 * val 4294967296 rs + b - val 4294967296 ds else 2 * val 4294967296 rs + b) → K (.bool t) h') :
    ACalls Try.prog 74 [.sl (some id) 0 L c, .int .u64 (b : Int), d] h K := by
  obtain ⟨idd, offd, cd, rfl⟩ := hd.form
  refine in_ref02_twice (by simp) fun hw => ?_
  unfold c_ref02_twice
  simp only [go_sem, ↓reduceIte, Nat.reduceEqDiff, Nat.reduceAdd, Bool.false_eq_true, Int.reduceToNat]
  -- doubled
  refine loop_cut (fun ρ' h' => h'.wf ∧ But id h h' ∧ ρ' 0 = .sl (some id) 0 L c ∧ ρ' 2 = .sl idd offd ds.length cd ∧ ∃ xs, IsG a.next h' (.sl (some id) 0 L c) xs ∧ (∀ x ∈ xs, x < 4294967296) ∧ xs.length = L ∧ val 4294967296 xs = 2 * val 4294967296 rs + b) ?_ ?_
  · refine ⟨fun n ρ h' => h'.wf ∧ But id h h' ∧ ρ 0 = .sl (some id) 0 L c ∧ ρ 2 = .sl idd offd ds.length cd ∧ ∃ i xs e, n = L - i ∧ i ≤ L ∧ ρ 7 = .int .i64 (i : Nat) ∧ ρ 1 = .int .u64 (e : Nat) ∧ e ≤ 1 ∧ IsG a.next h' (.sl (some id) 0 L c) xs ∧ (∀ x ∈ xs, x < 4294967296) ∧ xs.length = L ∧ xs.drop i = rs.drop i ∧ val 4294967296 xs + 4294967296 ^ i * e = val 4294967296 rs + val 4294967296 (rs.take i) + b, L,
      ⟨hw, But.refl _ _, rfl, rfl, 0, rs, b, by omega, by omega, rfl, rfl, hb, hr, hrd, hl, rfl, by simp [val]⟩, ?_⟩
    rintro n ρ h' ⟨hw', hbt, g0, g2, i, xs, e, rfl, hi, g7, g1, he, hx, hxd, hxl, hdr, hv⟩
    rcases Nat.lt_or_ge i L with hlt | hge
    · have hix : i < xs.length := by omega
      obtain ⟨j, e1, _, hg⟩ := hx.isN.at hix
      obtain ⟨j', r, e1', hbj, hnj, hrj, ho, hc1, hput⟩ := hx.put hw' hix
      injection e1 with e1
      subst e1
      injection e1' with e1'
      subst e1'
      rw [Nat.zero_add] at hg
      obtain ⟨q1, q2⟩ := at_drop hix (by omega) hdr
      have hxb := hxd _ (List.getElem_mem hix)
      have hset := val_set 4294967296 xs i ((2 * xs[i] + e) % 4294967296) hix
      have htk := val_take_succ 4294967296 rs i (by omega)
      rw [← q1] at htk
      generalize xs[i] = p at *
      have m2 : IntKind.u64.wrap (2 * (p : Int)) = ((2 * p : Nat) : Int) := by rw [wU] <;> omega
      have inc := incI (i := i) (by omega)
      simp only [go_sem, ↓reduceIte, Nat.reduceEqDiff, Nat.reduceAdd, Bool.false_eq_true, Int.reduceToNat, g0, g1, g2, g7, ltT hlt, hg, m2, addU (a := 2 * p) (b := e) (by omega), rem32, hrj]
      refine ⟨by omega, by omega, by omega, by omega, by omega, ho, hc1, ?_⟩
      simp only [go_sem, ↓reduceIte, Nat.reduceEqDiff, Nat.reduceAdd, Bool.false_eq_true, Int.reduceToNat, g0, g1, g2, g7, quo32 (x := 2 * p + e) (by omega), inc]
      refine ⟨by omega, L - (i + 1), by omega, H.wf_set hw' hnj _, hbt.trans (But.set _ _ _), by first | rfl | trivial | assumption, by first | rfl | trivial | assumption, i + 1, _, _, rfl, by omega, rfl, rfl, by omega, hput _, mem_set_lt hxd (by omega), by simp; omega, ?_, ?_⟩
      · rw [drop_set_lt]; exact q2
      · have e2 := digit_snoc (B := 4294967296) (q := 4294967296 ^ i) (s := 2 * p + e) (by omega)
        rw [Nat.pow_succ, htk]
        rw [Nat.mul_add, ← Nat.mul_assoc, Nat.mul_comm (4294967296 ^ i) 2, Nat.mul_assoc 2] at e2
        generalize 4294967296 ^ i * p = z at *
        omega
    · have hiL : i = L := by omega
      subst hiL
      simp only [go_sem, ↓reduceIte, Nat.reduceEqDiff, Nat.reduceAdd, Bool.false_eq_true, Int.reduceToNat, g0, g1, g2, g7, ltF hge]
      refine ⟨hw', hbt, by first | rfl | trivial | assumption, by first | rfl | trivial | assumption, xs, hx, hxd, hxl, ?_⟩
      rw [List.take_of_length_le (by omega)] at hv
      have : e = 0 := by
        rcases Nat.eq_zero_or_pos e with h0 | h0
        · exact h0
        · have : e = 1 := by omega
          subst this
          omega
      subst this
      omega
  rintro ρ h1 ⟨hw1, hbt1, g0, g2, xs, hx, hxd, hxl, hxv⟩
  rw [← hxv] at hk
  clear hr hrd hfit hxv
  have hah1 : a.le h1 := by
    obtain ⟨i, r, e1, hbi, _⟩ : ∃ i r, some id = some i ∧ a.next ≤ i ∧ h1.rows i = some r := by
      obtain ⟨i', c', e, hh⟩ := hx
      injection e with e1 e2 e3 e4
      rcases hh with ⟨h0, _⟩ | ⟨i, r, h0, hbi, hri, _⟩
      · rw [h0] at e1; cases e1
      · exact ⟨i, r, by rw [e1, h0], hbi, hri⟩
    injection e1 with e1
    exact hbt1.le ha hah (by omega)
  have hid : a.next ≤ id := by
    obtain ⟨i', c', e, hh⟩ := hx
    injection e with e1 e2 e3 e4
    rcases hh with ⟨h0, _⟩ | ⟨i, r, h0, hbi, hri, _⟩
    · rw [h0] at e1; cases e1
    · rw [h0] at e1; injection e1 with e1; omega
  -- the divisor, filled up
  obtain ⟨ps, hps⟩ : ∃ ps, ps = ds ++ List.replicate (L - ds.length) 0 := ⟨_, rfl⟩
  have hpl : ps.length = L := by rw [hps]; simp; omega
  have hpv : val 4294967296 ps = val 4294967296 ds := by
    rw [hps, val_append, val_zero 4294967296 (List.replicate _ _) (fun x hx => (List.mem_replicate.1 hx).2)]
    simp
  have hpd : ∀ x ∈ ps, x < 4294967296 := by
    intro x hx
    rw [hps] at hx
    rcases List.mem_append.1 hx with hx | hx
    · exact hdd x hx
    · rw [(List.mem_replicate.1 hx).2]; decide
  have hpa : ∀ i (hi : i < ds.length), ps[i]'(by omega) = ds[i] := by
    intro i hi
    subst hps
    rw [List.getElem_append_left hi]
  have hpz : ∀ i (hi : i < L), ds.length ≤ i → ps[i]'(by omega) = 0 := by
    intro i hi h0
    subst hps
    rw [List.getElem_append_right h0, List.getElem_replicate]
  -- compared
  simp only [go_sem, ↓reduceIte, Nat.reduceEqDiff, Nat.reduceAdd, Bool.false_eq_true, Int.reduceToNat, g0, g2]
  refine loop_cut (fun ρ' h' => h' = h1 ∧ ρ' 0 = .sl (some id) 0 L c ∧ ρ' 2 = .sl idd offd ds.length cd ∧ ρ' 9 = .bool (decide (val 4294967296 ps ≤ val 4294967296 xs))) ?_ ?_
  · refine ⟨fun n ρ h' => h' = h1 ∧ ρ 0 = .sl (some id) 0 L c ∧ ρ 2 = .sl idd offd ds.length cd ∧ ρ 9 = .bool true ∧ ρ 10 = .int .i64 ((n : Int) - 1) ∧ n ≤ L ∧ xs.drop n = ps.drop n, L, ⟨rfl, by first | rfl | trivial | assumption, by first | rfl | trivial | assumption, by first | rfl | trivial | assumption, ?_, by omega, by rw [List.drop_eq_nil_of_le (by omega), List.drop_eq_nil_of_le (by omega)]⟩, ?_⟩
    · simp only [go_sem, ↓reduceIte, Nat.reduceEqDiff, Nat.reduceAdd, Bool.false_eq_true, Int.reduceToNat]
      rw [wI] <;> omega
    rintro n ρ h' ⟨rfl, g0, g2, g9, g10, hn, hdr⟩
    rcases Nat.eq_zero_or_pos n with rfl | hp
    · have d1 : decide ((0 : Int) ≤ ((0 : Nat) : Int) - 1) = false := by decide
      simp only [go_sem, ↓reduceIte, Nat.reduceEqDiff, Nat.reduceAdd, Bool.false_eq_true, Int.reduceToNat, g0, g2, g9, g10, d1]
      refine ⟨by first | rfl | trivial | assumption, by first | rfl | trivial | assumption, by first | rfl | trivial | assumption, ?_⟩
      have : xs = ps := by simpa using hdr
      rw [this]
      simp
    · have d1 : decide ((0 : Int) ≤ (n : Int) - 1) = true := by simp; omega
      have e5 : (n : Int) - 1 = ((n - 1 : Nat) : Int) := by omega
      rw [e5] at g10 d1
      have hix : n - 1 < xs.length := by omega
      obtain ⟨j, e1, _, hg⟩ := hx.isN.at hix
      injection e1 with e1
      subst e1
      rw [Nat.zero_add] at hg
      have hdr' : xs.drop (n - 1 + 1) = ps.drop (n - 1 + 1) := by rw [show n - 1 + 1 = n from by omega]; exact hdr
      have e6 : IntKind.i64.wrap (((n - 1 : Nat) : Int) - 1) = ((n - 1 : Nat) : Int) - 1 := by rw [wI] <;> omega
      have hgt : ps[n - 1] < xs[n - 1] → decide (val 4294967296 ps ≤ val 4294967296 xs) = true := fun h => by
        have := val_lt_at 4294967296 (by omega) hpd (n - 1) (by omega) (by omega) hdr'.symm h
        simp; omega
      have hlt : xs[n - 1] < ps[n - 1] → decide (val 4294967296 ps ≤ val 4294967296 xs) = false := fun h => by
        have := val_lt_at 4294967296 (by omega) hxd (n - 1) (by omega) (by omega) hdr' h
        simp; omega
      have heq : xs[n - 1] = ps[n - 1] → xs.drop (n - 1) = ps.drop (n - 1) := fun h => by
        rw [List.drop_eq_getElem_cons (by omega), List.drop_eq_getElem_cons (l := ps) (by omega), h, hdr']
      have hpw : ∀ w : Nat, w = ps[n - 1] → (ps[n - 1] = w) := fun w h => h.symm
      rcases Nat.lt_or_ge (n - 1) ds.length with hi | hi
      · obtain ⟨j', rfl, _, hg'⟩ := (hd.mono hah1).at hi
        rw [← hpa (n - 1) hi] at hg'
        generalize ps[n - 1] = w at *
        generalize xs[n - 1] = p at *
        simp only [go_sem, ↓reduceIte, Nat.reduceEqDiff, Nat.reduceAdd, Bool.false_eq_true, Int.reduceToNat, g0, g2, g9, g10, d1, ltT hi, hg', hg]
        refine ⟨by omega, by omega, by omega, by omega, ?_⟩
        refine cond_split (fun hc => ?_) (fun hc => ?_)
        · have hne : p ≠ w := by rintro rfl; simp at hc
          simp only [go_sem, ↓reduceIte, Nat.reduceEqDiff, Nat.reduceAdd, Bool.false_eq_true, Int.reduceToNat, g0, g2, g9, g10, hg]
          refine ⟨by omega, by omega, by first | rfl | trivial | assumption, by first | rfl | trivial | assumption, by first | rfl | trivial | assumption, ?_⟩
          rcases Nat.lt_or_gt_of_ne hne with hlt' | hgt'
          · rw [hlt hlt', ltF (by omega)]
          · rw [hgt hgt', ltT hgt']
        · have he : p = w := by simp at hc; omega
          simp only [go_sem, ↓reduceIte, Nat.reduceEqDiff, Nat.reduceAdd, Bool.false_eq_true, Int.reduceToNat, g0, g2, g9, g10, e6]
          exact ⟨n - 1, by omega, by first | rfl | trivial | assumption, by first | rfl | trivial | assumption, by first | rfl | trivial | assumption, by first | rfl | trivial | assumption, by first | rfl | trivial | assumption, by omega, heq he⟩
      · have hz := hpz (n - 1) (by omega) hi
        rw [hz] at hgt hlt heq
        generalize xs[n - 1] = p at *
        have hg0 : ((0 : Nat) : Int) = 0 := rfl
        simp only [go_sem, ↓reduceIte, Nat.reduceEqDiff, Nat.reduceAdd, Bool.false_eq_true, Int.reduceToNat, g0, g2, g9, g10, d1, ltF hi, hg]
        refine ⟨by omega, by omega, ?_⟩
        refine cond_split (fun hc => ?_) (fun hc => ?_)
        · have hne : p ≠ 0 := by rintro rfl; simp at hc
          simp only [go_sem, ↓reduceIte, Nat.reduceEqDiff, Nat.reduceAdd, Bool.false_eq_true, Int.reduceToNat, g0, g2, g9, g10, hg]
          refine ⟨by omega, by omega, by first | rfl | trivial | assumption, by first | rfl | trivial | assumption, by first | rfl | trivial | assumption, ?_⟩
          rw [hgt (by omega)]
          have : decide ((0 : Int) < (p : Int)) = true := by simp; omega
          rw [this]
        · have he : p = 0 := by simp at hc; omega
          simp only [go_sem, ↓reduceIte, Nat.reduceEqDiff, Nat.reduceAdd, Bool.false_eq_true, Int.reduceToNat, g0, g2, g9, g10, e6]
          exact ⟨n - 1, by omega, by first | rfl | trivial | assumption, by first | rfl | trivial | assumption, by first | rfl | trivial | assumption, by first | rfl | trivial | assumption, by first | rfl | trivial | assumption, by omega, heq he⟩
  rintro ρ h2 ⟨rfl, g0, g2, g9⟩
  rw [← hpv] at hk
  rcases Nat.lt_or_ge (val 4294967296 xs) (val 4294967296 ps) with hc | hc
  · have d1 : decide (val 4294967296 ps ≤ val 4294967296 xs) = false := by simp; omega
    rw [d1] at g9
    simp only [go_sem, ↓reduceIte, Nat.reduceEqDiff, Nat.reduceAdd, Bool.false_eq_true, Int.reduceToNat, g9, Bool.not_false]
    intro _
    exact hk _ xs hw1 hbt1 hx hxd hxl false d1.symm (by simp)
  have d1 : decide (val 4294967296 ps ≤ val 4294967296 xs) = true := by simp; omega
  rw [d1] at g9
  simp only [go_sem, ↓reduceIte, Nat.reduceEqDiff, Nat.reduceAdd, Bool.false_eq_true, Int.reduceToNat, g0, g2, g9, Bool.not_true]
  -- made smaller
  refine ⟨fun n ρ h' => h'.wf ∧ But id h2 h' ∧ ρ 0 = .sl (some id) 0 L c ∧ ρ 2 = .sl idd offd ds.length cd ∧ ∃ i ys e, n = L - i ∧ i ≤ L ∧ ρ 13 = .int .i64 (i : Nat) ∧ ρ 12 = .int .u64 (e : Nat) ∧ e ≤ 1 ∧ IsG a.next h' (.sl (some id) 0 L c) ys ∧ (∀ x ∈ ys, x < 4294967296) ∧ ys.length = L ∧ ys.drop i = xs.drop i ∧ val 4294967296 ys + val 4294967296 (ps.take i) = val 4294967296 xs + 4294967296 ^ i * e, L,
    ⟨hw1, But.refl _ _, by first | rfl | trivial | assumption, by first | rfl | trivial | assumption, 0, xs, 0, by omega, by omega, rfl, rfl, by omega, hx, hxd, hxl, rfl, by simp [val]⟩, ?_⟩
  rintro n ρ h' ⟨hw', hbt, g0, g2, i, ys, e, rfl, hi, g13, g12, he, hy, hyd, hyl, hdr, hv⟩
  rcases Nat.lt_or_ge i L with hlt | hge
  · have hiy : i < ys.length := by omega
    obtain ⟨j, e1, _, hg⟩ := hy.isN.at hiy
    obtain ⟨j', r, e1', hbj, hnj, hrj, ho, hc1, hput⟩ := hy.put hw' hiy
    injection e1 with e1
    subst e1
    injection e1' with e1'
    subst e1'
    rw [Nat.zero_add] at hg
    obtain ⟨q1, q2⟩ := at_drop hiy (by omega) hdr
    have hyb := hyd _ (List.getElem_mem hiy)
    have hpb := hpd _ (List.getElem_mem (show i < ps.length by omega))
    have htk := val_take_succ 4294967296 ps i (by omega)
    have hset := fun v => val_set 4294967296 ys i v hiy
    have inc := incI (i := i) (by omega)
    have hah' : a.le h' := hbt.le ha hah1 (by omega)
    have fin : ∀ v e' : Nat, e' ≤ 1 → v < 4294967296 → v + (ps[i] + e) = ys[i] + 4294967296 * e' → val 4294967296 (ys.set i v) + val 4294967296 (ps.take (i + 1)) = val 4294967296 xs + 4294967296 ^ (i + 1) * e' := by
      intro v e' _ _ hve
      have h3 := hset v
      rw [htk, Nat.pow_succ]
      have h4 : 4294967296 ^ i * (v + (ps[i] + e)) = 4294967296 ^ i * (ys[i] + 4294967296 * e') := by rw [hve]
      rw [Nat.mul_add, Nat.mul_add, Nat.mul_add, ← Nat.mul_assoc] at h4
      generalize 4294967296 ^ i * v = t1 at *
      generalize 4294967296 ^ i * ps[i] = t2 at *
      generalize 4294967296 ^ i * ys[i] = t3 at *
      generalize 4294967296 ^ i * e = t4 at *
      generalize 4294967296 ^ i * 4294967296 * e' = t5 at *
      omega
    have step : ∀ v e' : Nat, e' ≤ 1 → v < 4294967296 → v + (ps[i] + e) = ys[i] + 4294967296 * e' → ∃ m, m < L - i ∧ (h'.set id { r with cells := putAt r.cells i [AV.int .u64 v] }).wf ∧ But id h2 (h'.set id { r with cells := putAt r.cells i [AV.int .u64 v] }) ∧ True ∧ True ∧ ∃ i' ys' e'', m = L - i' ∧ i' ≤ L ∧ AV.int .i64 ((i + 1 : Nat) : Int) = .int .i64 (i' : Nat) ∧ AV.int .u64 (e' : Int) = .int .u64 (e'' : Nat) ∧ e'' ≤ 1 ∧
        IsG a.next (h'.set id { r with cells := putAt r.cells i [AV.int .u64 v] }) (.sl (some id) 0 L c) ys' ∧ (∀ x ∈ ys', x < 4294967296) ∧ ys'.length = L ∧ ys'.drop i' = xs.drop i' ∧ val 4294967296 ys' + val 4294967296 (ps.take i') = val 4294967296 xs + 4294967296 ^ i' * e'' := by
      intro v e' he' hvb hve
      exact ⟨L - (i + 1), by omega, H.wf_set hw' hnj _, hbt.trans (But.set _ _ _), True.intro, True.intro, i + 1, _, e', rfl, by omega, rfl, rfl, he', hput _, mem_set_lt hyd hvb, by simp; omega, by rw [drop_set_lt]; exact q2, fin v e' he' hvb hve⟩
    clear fin hset htk
    generalize hyp : ys[i] = p at *
    rcases Nat.lt_or_ge i ds.length with hi2 | hi2
    · obtain ⟨j', rfl, _, hg'⟩ := (hd.mono hah').at hi2
      rw [← hpa i hi2] at hg'
      generalize ps[i] = q at *
      simp only [go_sem, ↓reduceIte, Nat.reduceEqDiff, Nat.reduceAdd, Bool.false_eq_true, Int.reduceToNat, g0, g2, g12, g13, ltT hlt, ltT hi2, hg, hg', addU (a := e) (b := q) (by omega), hrj, inc]
      refine ⟨by omega, by omega, by omega, by omega, ?_⟩
      refine cond_split (fun hc => ?_) (fun hc => ?_)
      · have hle : e + q ≤ p := by simp at hc; omega
        simp only [go_sem, ↓reduceIte, Nat.reduceEqDiff, Nat.reduceAdd, Bool.false_eq_true, Int.reduceToNat, g0, g2, g12, g13, hg, subN (a := p) (b := e + q) hle (by omega), hrj, inc]
        refine ⟨by omega, by omega, by omega, by omega, ho, hc1, ?_⟩
        exact step (p - (e + q)) 0 (by omega) (by omega) (by omega)
      · have hgt : p < e + q := by simp at hc; omega
        have w3 : IntKind.u64.wrap (4294967296 - ((e + q : Nat) : Int)) = ((4294967296 - (e + q) : Nat) : Int) := by rw [wU] <;> omega
        simp only [go_sem, ↓reduceIte, Nat.reduceEqDiff, Nat.reduceAdd, Bool.false_eq_true, Int.reduceToNat, g0, g2, g12, g13, hg, w3, addU (a := p) (b := 4294967296 - (e + q)) (by omega), hrj, inc]
        refine ⟨by omega, by omega, by omega, by omega, ho, hc1, ?_⟩
        exact step (p + (4294967296 - (e + q))) 1 (by omega) (by omega) (by omega)
    · have hz := hpz i hlt hi2
      rw [hz] at step
      simp only [go_sem, ↓reduceIte, Nat.reduceEqDiff, Nat.reduceAdd, Bool.false_eq_true, Int.reduceToNat, g0, g2, g12, g13, ltT hlt, ltF hi2, hg, hrj, inc]
      refine ⟨by omega, by omega, ?_⟩
      refine cond_split (fun hc => ?_) (fun hc => ?_)
      · have hle : e ≤ p := by simp at hc; omega
        simp only [go_sem, ↓reduceIte, Nat.reduceEqDiff, Nat.reduceAdd, Bool.false_eq_true, Int.reduceToNat, g0, g2, g12, g13, hg, subN (a := p) (b := e) hle (by omega), hrj, inc]
        refine ⟨by omega, by omega, by omega, by omega, ho, hc1, ?_⟩
        exact step (p - (e)) 0 (by omega) (by omega) (by omega)
      · have hgt : p < e := by simp at hc; omega
        have w3 : IntKind.u64.wrap (4294967296 - ((e : Nat) : Int)) = ((4294967296 - (e) : Nat) : Int) := by rw [wU] <;> omega
        simp only [go_sem, ↓reduceIte, Nat.reduceEqDiff, Nat.reduceAdd, Bool.false_eq_true, Int.reduceToNat, g0, g2, g12, g13, hg, w3, addU (a := p) (b := 4294967296 - (e)) (by omega), hrj, inc]
        refine ⟨by omega, by omega, by omega, by omega, ho, hc1, ?_⟩
        exact step (p + (4294967296 - (e))) 1 (by omega) (by omega) (by omega)
  · have hiL : i = L := by omega
    subst hiL
    simp only [go_sem, ↓reduceIte, Nat.reduceEqDiff, Nat.reduceAdd, Bool.false_eq_true, Int.reduceToNat, g0, g2, g12, g13, ltF hge]
    intro _
    rw [List.take_of_length_le (by omega)] at hv
    have hyb := val_lt 4294967296 (by decide) ys hyd
    rw [hyl] at hyb
    have he0 : e = 0 := by
      rcases Nat.eq_zero_or_pos e with h0 | h0
      · exact h0
      · have : e = 1 := by omega
        subst this
        omega
    subst he0
    refine hk _ ys hw' (hbt1.trans hbt) hy hyd hyl true d1.symm ?_
    rw [if_pos rfl]
    omega
end Ab
end Go.Proofs.Yteoagnggnekfiaa
