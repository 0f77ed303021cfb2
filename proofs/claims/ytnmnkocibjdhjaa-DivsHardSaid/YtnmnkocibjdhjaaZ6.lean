/- Joined texts: E6 E7 E8 K1 E9 M1. No condition. -/
import Derived.Test.YtnmnkocibjdhjaaZ5
namespace Go.Proofs.Ytnmnkocibjdhjaa
namespace Ab
open Go Go.RowKit
set_option linter.unusedSimpArgs false
set_option linter.unusedVariables false
attribute [local go_sem ↓] x_mv x_pick x_bin x_beq x_peq x_seq x_cat x_aeq x_idxS x_un x_cvI x_idx x_idxA x_fld x_ld x_st x_nn x_prt x_slc x_mk x_bsl x_bld x_box x_alloc x_len x_capo x_mnx x_app x_cpy x_mkf x_ext x_call x_callV x_bad s_none s_some s_nil s_cons s_chks w_skip w_reg tP_fin tP_no tP_alt w_seq w_cond w_block w_exit w_ret t_normal t_exit t_ret b_normal b_ret b_exit n_normal n_exit n_ret p_normal p_ret f_nil f_t f_c k_ops k_chk k_fin
attribute [local go_sem] e_t e_c e_f u_some u_none u_at env_at k_v k_pick k_add k_sub k_mul k_quo k_rem k_and k_or k_xor k_shl k_shr k_eql k_neq k_lss k_leq k_gtr k_geq k_beq k_peqn k_peqs k_neg k_not k_com k_cvI k_idxS k_idx k_idxA k_idxG k_ldG k_gld k_seq k_cat k_aeq k_eqs k_fld k_ld1 k_ldn k_get k_gets k_sti k_stb k_stp k_sts k_stf k_sta k_put k_nn k_prt1 k_prtn k_slc_a k_slc_b k_slc_c k_mk k_agg k_bsl k_box k_len k_lenS k_cap k_max k_min k_ext k_callV k_true k_false k_gtt k_gtf k_gft k_gsk k_gff k_lit1i k_lit2i k_lit3i k_c0 k_c1 k_ck List.getElem?_cons_zero List.getElem?_cons_succ List.getElem?_nil Option.getD_some Option.getD_none tupOf List.map_cons List.map_nil Option.map_some Option.map_none List.nil_append List.cons_append List.append_nil Nat.mul_one Int.toNat_natCast Nat.zero_add
theorem pow32 (k : Nat) : 4294967296 ^ k = 2 ^ (32 * k) := by rw [Nat.pow_mul]
/-- The digits from k on. -/
theorem val_div (xs : List Nat) (hx : ∀ a ∈ xs, a < 4294967296) (k : Nat) (h : k < xs.length) : val 4294967296 xs / 2 ^ (32 * k) = xs[k] + 4294967296 * val 4294967296 (xs.drop (k + 1)) := by
  rw [val_split 4294967296 xs k h, ← pow32, Nat.add_mul_div_left _ _ (Nat.pow_pos (by decide)), Nat.div_eq_of_lt (val_lt_take 4294967296 (by decide) xs hx k), Nat.zero_add]
theorem digit_eq (xs : List Nat) (hx : ∀ a ∈ xs, a < 4294967296) (k : Nat) (h : k < xs.length) : xs[k] = val 4294967296 xs / 2 ^ (32 * k) % 4294967296 := by
  rw [val_div xs hx k h, Nat.add_mul_mod_self_left, Nat.mod_eq_of_lt (hx _ (List.getElem_mem h))]
theorem bit_eq (xs : List Nat) (hx : ∀ a ∈ xs, a < 4294967296) (i : Nat) (h : i / 32 < xs.length) : xs[i / 32] / 2 ^ (i % 32) % 2 = val 4294967296 xs / 2 ^ i % 2 := by
  rw [digit_eq xs hx _ h]
  generalize val 4294967296 xs = n
  have e : 2 ^ i = 2 ^ (32 * (i / 32)) * 2 ^ (i % 32) := by rw [← Nat.pow_add, Nat.div_add_mod]
  rw [e, ← Nat.div_div_eq_div_mul]
  generalize n / 2 ^ (32 * (i / 32)) = m
  have hr : i % 32 < 32 := Nat.mod_lt _ (by decide)
  generalize i % 32 = r at *
  have e2 : 4294967296 = 2 ^ r * 2 ^ (32 - r) := by rw [← Nat.pow_add, show r + (32 - r) = 32 from by omega]
  have e3 : m % 4294967296 / 2 ^ r = m / 2 ^ r % 2 ^ (32 - r) := by rw [e2, Nat.mod_mul_right_div_self]
  rw [e3, Nat.mod_mod_of_dvd _ (by exact ⟨2 ^ (31 - r), by rw [← Nat.pow_succ']; congr 1; omega⟩)]
theorem bandL {a b : Nat} (ha : a < 18446744073709551616) (hb : b < 18446744073709551616) : bAnd .u64 (a : Int) (b : Int) = ((a &&& b : Nat) : Int) := bandN ha hb
theorem Bits_calls {v : AV} {x : Nat} {h : H} {K : AV → H → Prop} (nv : Num 4294967296 h v x) (hx : Big x)
    (hk : ∀ L : Nat, L ≤ 32000000 → BL x L → K (.int .i64 (L : Int)) h) : ACalls Try.prog 68 [v] h K := by
  obtain ⟨xs, hv, hxd, hxt, rfl, hxl⟩ := nv.open hx
  obtain ⟨id, off, c, rfl⟩ := hv.form
  refine in_ref02_Bits (by simp) fun hw => ?_
  unfold c_ref02_Bits
  rcases Nat.eq_zero_or_pos xs.length with h0 | h0
  · have d : ((xs.length : Int) == 0) = true := by simp; exact List.eq_nil_of_length_eq_zero h0
    simp only [go_sem, ↓reduceIte, Nat.reduceEqDiff, Nat.reduceAdd, Bool.false_eq_true, Int.reduceToNat, d]
    intro _
    have : xs = [] := List.eq_nil_of_length_eq_zero h0
    subst this
    exact hk 0 (by omega) ⟨by simp [val], .inl rfl⟩
  · have d : ((xs.length : Int) == 0) = false := by simp; intro e; subst e; simp at h0
    obtain ⟨i, rfl, _, hg⟩ := hv.at (j := xs.length - 1) (by omega)
    have e1 := decI h0 (by omega)
    have e2 : IntKind.i64.wrap (32 * ((xs.length - 1 : Nat) : Int)) = ((32 * (xs.length - 1) : Nat) : Int) := by rw [wI] <;> omega
    have ht : xs[xs.length - 1] ≠ 0 := hxt _ (by rw [List.getLast?_eq_getElem?, List.getElem?_eq_getElem])
    have htb := hxd _ (List.getElem_mem (show xs.length - 1 < xs.length by omega))
    have hdv := val_div xs hxd (xs.length - 1) (by omega)
    rw [List.drop_eq_nil_of_le (by omega)] at hdv
    simp only [val, Nat.mul_zero, Nat.add_zero] at hdv
    rw [← hdv] at hg ht htb
    clear hdv
    simp only [go_sem, ↓reduceIte, Nat.reduceEqDiff, Nat.reduceAdd, Bool.false_eq_true, Int.reduceToNat, d, e1, e2, hg]
    refine ⟨by omega, by omega, ?_⟩
    generalize hm : 32 * (xs.length - 1) = m at *
    generalize hw0 : val 4294967296 xs / 2 ^ m = w at *
    refine ⟨fun n ρ h' => h' = h ∧ ∃ j : Nat, j ≤ 32 ∧ ρ 3 = .int .i64 ((m + j : Nat) : Int) ∧ ρ 4 = .int .u64 (n : Int) ∧ n = w / 2 ^ j ∧ (j = 0 ∨ 2 ^ (j - 1) ≤ w), w, ⟨rfl, 0, by omega, rfl, rfl, by simp, .inl rfl⟩, ?_⟩
    rintro n ρ h' ⟨rfl, j, hj, g3, g4, hn, hp⟩
    rcases Nat.eq_zero_or_pos n with hz | hz
    · have d2 : decide ((0 : Int) < (n : Int)) = false := by simp; omega
      simp only [go_sem, ↓reduceIte, Nat.reduceEqDiff, Nat.reduceAdd, Bool.false_eq_true, Int.reduceToNat, g3, g4, d2]
      intro _
      refine hk (m + j) (by omega) ?_
      have hlt : w < 2 ^ j := by
        rw [hz] at hn
        exact Nat.lt_of_div_eq_zero (Nat.pow_pos (by decide)) hn.symm
      have hB : BL (val 4294967296 xs / 2 ^ m) j := by rw [hw0]; exact ⟨hlt, hp⟩
      exact hB.up (hB.pos (by rw [hw0]; omega))
    · have d2 : decide ((0 : Int) < (n : Int)) = true := by simp; omega
      have hj2 : j < 32 := by
        rcases Nat.lt_or_ge j 32 with hh | hh
        · exact hh
        · have : j = 32 := by omega
          subst this
          rw [Nat.div_eq_of_lt htb] at hn
          omega
      have e3 : IntKind.i64.wrap (((m + j : Nat) : Int) + 1) = ((m + (j + 1) : Nat) : Int) := by rw [wI] <;> omega
      have hnb : n < 4294967296 := by rw [hn]; exact Nat.lt_of_le_of_lt (Nat.div_le_self _ _) htb
      have e4 : IntKind.u64.wrap (((n : Int)).tdiv 2) = ((n / 2 : Nat) : Int) := by
        rw [show ((n : Int)).tdiv 2 = ((n / 2 : Nat) : Int) from tdivN (b := 2)]
        exact wUn (by omega)
      simp only [go_sem, ↓reduceIte, Nat.reduceEqDiff, Nat.reduceAdd, Bool.false_eq_true, Int.reduceToNat, g3, g4, d2, e3, e4]
      refine ⟨by omega, n / 2, by omega, by first | rfl | trivial | assumption, j + 1, by omega, rfl, rfl, ?_, .inr ?_⟩
      · rw [hn, Nat.div_div_eq_div_mul, Nat.pow_succ]
      · show 2 ^ j ≤ w
        rcases Nat.lt_or_ge w (2 ^ j) with hh | hh
        · rw [Nat.div_eq_of_lt hh] at hn; omega
        · exact hh
theorem bit_calls {v : AV} {xs : List Nat} {i : Nat} {h : H} {K : AV → H → Prop} (hv : IsN h v xs) (hxd : ∀ a ∈ xs, a < 4294967296) (hi : i < 9223372036854775808) (hi2 : i / 32 < xs.length)
    (hk : K (.int .u64 ((val 4294967296 xs / 2 ^ i % 2 : Nat) : Int)) h) : ACalls Try.prog 83 [v, .int .i64 (i : Int)] h K := by
  obtain ⟨id, off, c, rfl⟩ := hv.form
  obtain ⟨i', rfl, _, hg⟩ := hv.at hi2
  refine in_ref02_bit (by simp) fun hw => ?_
  unfold c_ref02_bit
  have hb := hxd _ (List.getElem_mem hi2)
  have e1 : IntKind.i64.wrap (((i : Int)).tdiv 32) = ((i / 32 : Nat) : Int) := by
    rw [show ((i : Int)).tdiv 32 = ((i / 32 : Nat) : Int) from tdivN (b := 32)]
    rw [wI] <;> omega
  have e2 : ((i : Int)).tmod 32 = ((i % 32 : Nat) : Int) := tmodN (b := 32)
  have e3 : bAnd .u64 ((xs[i / 32] / 2 ^ (i % 32) : Nat) : Int) 1 = ((xs[i / 32] / 2 ^ (i % 32) % 2 : Nat) : Int) := by
    have := bandL (a := xs[i / 32] / 2 ^ (i % 32)) (b := 1) (Nat.lt_of_le_of_lt (Nat.div_le_self _ _) (by omega)) (by omega)
    rw [Nat.and_one_is_mod] at this
    exact this
  simp only [go_sem, ↓reduceIte, Nat.reduceEqDiff, Nat.reduceAdd, Bool.false_eq_true, Int.reduceToNat, e1, e2, hg, wUn (x := i % 32) (by omega), shrU (x := xs[i / 32]) (n := i % 32) (by omega), e3]
  refine ⟨by omega, by omega, by omega, by omega, by omega, fun _ => ?_⟩
  rw [bit_eq xs hxd i hi2]
  exact hk
end Ab
end Go.Proofs.Ytnmnkocibjdhjaa
namespace Go.Proofs.Ytnmnkocibjdhjaa
namespace Ab
open Go Go.RowKit
set_option linter.unusedSimpArgs false
set_option linter.unusedVariables false
attribute [local go_sem ↓] x_mv x_pick x_bin x_beq x_peq x_seq x_cat x_aeq x_idxS x_un x_cvI x_idx x_idxA x_fld x_ld x_st x_nn x_prt x_slc x_mk x_bsl x_bld x_box x_alloc x_len x_capo x_mnx x_app x_cpy x_mkf x_ext x_call x_callV x_bad s_none s_some s_nil s_cons s_chks w_skip w_reg tP_fin tP_no tP_alt w_seq w_cond w_block w_exit w_ret t_normal t_exit t_ret b_normal b_ret b_exit n_normal n_exit n_ret p_normal p_ret f_nil f_t f_c k_ops k_chk k_fin
attribute [local go_sem] e_t e_c e_f u_some u_none u_at env_at k_v k_pick k_add k_sub k_mul k_quo k_rem k_and k_or k_xor k_shl k_shr k_eql k_neq k_lss k_leq k_gtr k_geq k_beq k_peqn k_peqs k_neg k_not k_com k_cvI k_idxS k_idx k_idxA k_idxG k_ldG k_gld k_seq k_cat k_aeq k_eqs k_fld k_ld1 k_ldn k_get k_gets k_sti k_stb k_stp k_sts k_stf k_sta k_put k_nn k_prt1 k_prtn k_slc_a k_slc_b k_slc_c k_mk k_agg k_bsl k_box k_len k_lenS k_cap k_max k_min k_ext k_callV k_true k_false k_gtt k_gtf k_gft k_gsk k_gff k_lit1i k_lit2i k_lit3i k_c0 k_c1 k_ck List.getElem?_cons_zero List.getElem?_cons_succ List.getElem?_nil Option.getD_some Option.getD_none tupOf List.map_cons List.map_nil Option.map_some Option.map_none List.nil_append List.cons_append List.append_nil Nat.mul_one Int.toNat_natCast Nat.zero_add
/-- All rows but one are kept. -/
structure But (id : Nat) (h h' : H) : Prop where
  next : h'.next = h.next
  rows : ∀ i, i ≠ id → h'.rows i = h.rows i
theorem But.refl (id : Nat) (h : H) : But id h h := ⟨rfl, fun _ _ => rfl⟩
theorem But.trans {id : Nat} {a b c : H} (h : But id a b) (k : But id b c) : But id a c := ⟨k.next.trans h.next, fun i hi => (k.rows i hi).trans (h.rows i hi)⟩
theorem But.set (id : Nat) (h : H) (r : Row) : But id h (h.set id r) := ⟨rfl, fun _ hi => H.rows_set_ne hi⟩
theorem But.le {id : Nat} {a h h' : H} (hb : But id h h') (ha : a.wf) (hah : a.le h) (hid : a.next ≤ id) : a.le h' :=
  ⟨by rw [hb.next]; exact hah.1, fun i r e => by rw [hb.rows i (by have := H.row_lt ha e; omega)]; exact hah.2 i r e⟩
theorem IsG.but {b id j n : Nat} {c : Option Nat} {h h' : H} {xs : List Nat} (hb : But id h h') (hv : IsG b h (.sl (some j) 0 n c) xs) (hj : j ≠ id) : IsG b h' (.sl (some j) 0 n c) xs := by
  obtain ⟨i, c2, e, h1⟩ := hv
  injection e with e1 e2 e3 e4
  subst e1; subst e4
  refine ⟨some j, c, by rw [e3], ?_⟩
  rcases h1 with ⟨h0, _⟩ | ⟨i, r, h0, hbi, hr, h2⟩
  · cases h0
  · injection h0 with h0
    subst h0
    exact .inr ⟨j, r, rfl, hbi, by rw [hb.rows j hj]; exact hr, h2⟩
theorem drop_set_lt {xs : List Nat} {i v : Nat} : (xs.set i v).drop (i + 1) = xs.drop (i + 1) := List.drop_set_of_lt (by omega)
theorem at_drop {xs ys : List Nat} {i : Nat} (h1 : i < xs.length) (h2 : i < ys.length) (h : xs.drop i = ys.drop i) : xs[i] = ys[i] ∧ xs.drop (i + 1) = ys.drop (i + 1) := by
  rw [List.drop_eq_getElem_cons h1, List.drop_eq_getElem_cons h2] at h
  injection h with a b
  exact ⟨a, b⟩
theorem twice_calls {a h : H} {K : AV → H → Prop} {id L : Nat} {c : Option Nat} {rs ds : List Nat} {b : Nat} {d : AV} (ha : a.wf) (hah : a.le h) (hr : IsG a.next h (.sl (some id) 0 L c) rs) (hrd : ∀ x ∈ rs, x < 4294967296)
    (hd : IsN a d ds) (hdd : ∀ x ∈ ds, x < 4294967296) (hl : rs.length = L) (hL : L ≤ 2000000) (hdl : ds.length ≤ L) (hb : b ≤ 1) (hfit : 2 * val 4294967296 rs + b < 4294967296 ^ L)
    (hk : ∀ h' rs', h'.wf → But id h h' → IsG a.next h' (.sl (some id) 0 L c) rs' → (∀ x ∈ rs', x < 4294967296) → rs'.length = L → ∀ t, t = decide (val 4294967296 ds ≤ 2 * val 4294967296 rs + b) → val 4294967296 rs' = (if t = true then 2 * val 4294967296 rs + b - val 4294967296 ds else 2 * val 4294967296 rs + b) → K (.bool t) h') :
    ACalls Try.prog 82 [.sl (some id) 0 L c, .int .u64 (b : Int), d] h K := by
  obtain ⟨idd, offd, cd, rfl⟩ := hd.form
  refine in_ref02_twice (by simp) fun hw => ?_
  unfold c_ref02_twice
  simp only [go_sem, ↓reduceIte, Nat.reduceEqDiff, Nat.reduceAdd, Bool.false_eq_true, Int.reduceToNat]
  -- doubled
  refine loop_cut (fun ρ' h' => h'.wf ∧ But id h h' ∧ ρ' 0 = .sl (some id) 0 L c ∧ ρ' 2 = .sl idd offd ds.length cd ∧ ∃ xs, IsG a.next h' (.sl (some id) 0 L c) xs ∧ (∀ x ∈ xs, x < 4294967296) ∧ xs.length = L ∧ val 4294967296 xs = 2 * val 4294967296 rs + b) ?_ ?_
  · refine ⟨fun n ρ h' => h'.wf ∧ But id h h' ∧ ρ 0 = .sl (some id) 0 L c ∧ ρ 2 = .sl idd offd ds.length cd ∧ ∃ i xs e, n = L - i ∧ i ≤ L ∧ ρ 7 = .int .i64 (i : Nat) ∧ ρ 1 = .int .u64 (e : Nat) ∧ e ≤ 1 ∧ IsG a.next h' (.sl (some id) 0 L c) xs ∧ (∀ x ∈ xs, x < 4294967296) ∧ xs.length = L ∧ xs.drop i = rs.drop i ∧ val 4294967296 xs + 4294967296 ^ i * e = val 4294967296 rs + val 4294967296 (rs.take i) + b, L,
      ⟨hw, But.refl _ _, rfl, rfl, 0, rs, b, by omega, by omega, rfl, rfl, hb, hr, hrd, hl, rfl, by simp [val]⟩, ?_⟩
    rintro n ρ h' ⟨hw', hbt, g0, g2, i, xs, e, rfl, hi, g7, g1, he, hx, hxd, hxl, hdr, hv⟩
    rcases Nat.lt_or_ge i L with hlt | hge
    · have hix : i < xs.length := by omega
      obtain ⟨j, e1, _, hg⟩ := hx.isN.at hix
      obtain ⟨j', r, e1', hbj, hnj, hrj, ho, hc1, hput⟩ := hx.put hw' hix
      injection e1 with e1
      subst e1
      injection e1' with e1'
      subst e1'
      rw [Nat.zero_add] at hg
      obtain ⟨q1, q2⟩ := at_drop hix (by omega) hdr
      have hxb := hxd _ (List.getElem_mem hix)
      have hset := val_set 4294967296 xs i ((2 * xs[i] + e) % 4294967296) hix
      have htk := val_take_succ 4294967296 rs i (by omega)
      rw [← q1] at htk
      generalize xs[i] = p at *
      have m2 : IntKind.u64.wrap (2 * (p : Int)) = ((2 * p : Nat) : Int) := by rw [wU] <;> omega
      have inc := incI (i := i) (by omega)
      simp only [go_sem, ↓reduceIte, Nat.reduceEqDiff, Nat.reduceAdd, Bool.false_eq_true, Int.reduceToNat, g0, g1, g2, g7, ltT hlt, hg, m2, addU (a := 2 * p) (b := e) (by omega), rem32, hrj]
      refine ⟨by omega, by omega, by omega, by omega, by omega, ho, hc1, ?_⟩
      simp only [go_sem, ↓reduceIte, Nat.reduceEqDiff, Nat.reduceAdd, Bool.false_eq_true, Int.reduceToNat, g0, g1, g2, g7, quo32 (x := 2 * p + e) (by omega), inc]
      refine ⟨by omega, L - (i + 1), by omega, H.wf_set hw' hnj _, hbt.trans (But.set _ _ _), by first | rfl | trivial | assumption, by first | rfl | trivial | assumption, i + 1, _, _, rfl, by omega, rfl, rfl, by omega, hput _, mem_set_lt hxd (by omega), by simp; omega, ?_, ?_⟩
      · rw [drop_set_lt]; exact q2
      · have e2 := digit_snoc (B := 4294967296) (q := 4294967296 ^ i) (s := 2 * p + e) (by omega)
        rw [Nat.pow_succ, htk]
        rw [Nat.mul_add, ← Nat.mul_assoc, Nat.mul_comm (4294967296 ^ i) 2, Nat.mul_assoc 2] at e2
        generalize 4294967296 ^ i * p = z at *
        omega
    · have hiL : i = L := by omega
      subst hiL
      simp only [go_sem, ↓reduceIte, Nat.reduceEqDiff, Nat.reduceAdd, Bool.false_eq_true, Int.reduceToNat, g0, g1, g2, g7, ltF hge]
      refine ⟨hw', hbt, by first | rfl | trivial | assumption, by first | rfl | trivial | assumption, xs, hx, hxd, hxl, ?_⟩
      rw [List.take_of_length_le (by omega)] at hv
      have : e = 0 := by
        rcases Nat.eq_zero_or_pos e with h0 | h0
        · exact h0
        · have : e = 1 := by omega
          subst this
          omega
      subst this
      omega
  rintro ρ h1 ⟨hw1, hbt1, g0, g2, xs, hx, hxd, hxl, hxv⟩
  rw [← hxv] at hk
  clear hr hrd hfit hxv
  have hah1 : a.le h1 := by
    obtain ⟨i, r, e1, hbi, _⟩ : ∃ i r, some id = some i ∧ a.next ≤ i ∧ h1.rows i = some r := by
      obtain ⟨i', c', e, hh⟩ := hx
      injection e with e1 e2 e3 e4
      rcases hh with ⟨h0, _⟩ | ⟨i, r, h0, hbi, hri, _⟩
      · rw [h0] at e1; cases e1
      · exact ⟨i, r, by rw [e1, h0], hbi, hri⟩
    injection e1 with e1
    exact hbt1.le ha hah (by omega)
  have hid : a.next ≤ id := by
    obtain ⟨i', c', e, hh⟩ := hx
    injection e with e1 e2 e3 e4
    rcases hh with ⟨h0, _⟩ | ⟨i, r, h0, hbi, hri, _⟩
    · rw [h0] at e1; cases e1
    · rw [h0] at e1; injection e1 with e1; omega
  -- the divisor, filled up
  obtain ⟨ps, hps⟩ : ∃ ps, ps = ds ++ List.replicate (L - ds.length) 0 := ⟨_, rfl⟩
  have hpl : ps.length = L := by rw [hps]; simp; omega
  have hpv : val 4294967296 ps = val 4294967296 ds := by
    rw [hps, val_append, val_zero 4294967296 (List.replicate _ _) (fun x hx => (List.mem_replicate.1 hx).2)]
    simp
  have hpd : ∀ x ∈ ps, x < 4294967296 := by
    intro x hx
    rw [hps] at hx
    rcases List.mem_append.1 hx with hx | hx
    · exact hdd x hx
    · rw [(List.mem_replicate.1 hx).2]; decide
  have hpa : ∀ i (hi : i < ds.length), ps[i]'(by omega) = ds[i] := by
    intro i hi
    subst hps
    rw [List.getElem_append_left hi]
  have hpz : ∀ i (hi : i < L), ds.length ≤ i → ps[i]'(by omega) = 0 := by
    intro i hi h0
    subst hps
    rw [List.getElem_append_right h0, List.getElem_replicate]
  -- compared
  simp only [go_sem, ↓reduceIte, Nat.reduceEqDiff, Nat.reduceAdd, Bool.false_eq_true, Int.reduceToNat, g0, g2]
  refine loop_cut (fun ρ' h' => h' = h1 ∧ ρ' 0 = .sl (some id) 0 L c ∧ ρ' 2 = .sl idd offd ds.length cd ∧ ρ' 9 = .bool (decide (val 4294967296 ps ≤ val 4294967296 xs))) ?_ ?_
  · refine ⟨fun n ρ h' => h' = h1 ∧ ρ 0 = .sl (some id) 0 L c ∧ ρ 2 = .sl idd offd ds.length cd ∧ ρ 9 = .bool true ∧ ρ 10 = .int .i64 ((n : Int) - 1) ∧ n ≤ L ∧ xs.drop n = ps.drop n, L, ⟨rfl, by first | rfl | trivial | assumption, by first | rfl | trivial | assumption, by first | rfl | trivial | assumption, ?_, by omega, by rw [List.drop_eq_nil_of_le (by omega), List.drop_eq_nil_of_le (by omega)]⟩, ?_⟩
    · simp only [go_sem, ↓reduceIte, Nat.reduceEqDiff, Nat.reduceAdd, Bool.false_eq_true, Int.reduceToNat]
      rw [wI] <;> omega
    rintro n ρ h' ⟨rfl, g0, g2, g9, g10, hn, hdr⟩
    rcases Nat.eq_zero_or_pos n with rfl | hp
    · have d1 : decide ((0 : Int) ≤ ((0 : Nat) : Int) - 1) = false := by decide
      simp only [go_sem, ↓reduceIte, Nat.reduceEqDiff, Nat.reduceAdd, Bool.false_eq_true, Int.reduceToNat, g0, g2, g9, g10, d1]
      refine ⟨by first | rfl | trivial | assumption, by first | rfl | trivial | assumption, by first | rfl | trivial | assumption, ?_⟩
      have : xs = ps := by simpa using hdr
      rw [this]
      simp
    · have d1 : decide ((0 : Int) ≤ (n : Int) - 1) = true := by simp; omega
      have e5 : (n : Int) - 1 = ((n - 1 : Nat) : Int) := by omega
      rw [e5] at g10 d1
      have hix : n - 1 < xs.length := by omega
      obtain ⟨j, e1, _, hg⟩ := hx.isN.at hix
      injection e1 with e1
      subst e1
      rw [Nat.zero_add] at hg
      have hdr' : xs.drop (n - 1 + 1) = ps.drop (n - 1 + 1) := by rw [show n - 1 + 1 = n from by omega]; exact hdr
      have e6 : IntKind.i64.wrap (((n - 1 : Nat) : Int) - 1) = ((n - 1 : Nat) : Int) - 1 := by rw [wI] <;> omega
      have hgt : ps[n - 1] < xs[n - 1] → decide (val 4294967296 ps ≤ val 4294967296 xs) = true := fun h => by
        have := val_lt_at 4294967296 (by omega) hpd (n - 1) (by omega) (by omega) hdr'.symm h
        simp; omega
      have hlt : xs[n - 1] < ps[n - 1] → decide (val 4294967296 ps ≤ val 4294967296 xs) = false := fun h => by
        have := val_lt_at 4294967296 (by omega) hxd (n - 1) (by omega) (by omega) hdr' h
        simp; omega
      have heq : xs[n - 1] = ps[n - 1] → xs.drop (n - 1) = ps.drop (n - 1) := fun h => by
        rw [List.drop_eq_getElem_cons (by omega), List.drop_eq_getElem_cons (l := ps) (by omega), h, hdr']
      have hpw : ∀ w : Nat, w = ps[n - 1] → (ps[n - 1] = w) := fun w h => h.symm
      rcases Nat.lt_or_ge (n - 1) ds.length with hi | hi
      · obtain ⟨j', rfl, _, hg'⟩ := (hd.mono hah1).at hi
        rw [← hpa (n - 1) hi] at hg'
        generalize ps[n - 1] = w at *
        generalize xs[n - 1] = p at *
        simp only [go_sem, ↓reduceIte, Nat.reduceEqDiff, Nat.reduceAdd, Bool.false_eq_true, Int.reduceToNat, g0, g2, g9, g10, d1, ltT hi, hg', hg]
        refine ⟨by omega, by omega, by omega, by omega, ?_⟩
        refine cond_split (fun hc => ?_) (fun hc => ?_)
        · have hne : p ≠ w := by rintro rfl; simp at hc
          simp only [go_sem, ↓reduceIte, Nat.reduceEqDiff, Nat.reduceAdd, Bool.false_eq_true, Int.reduceToNat, g0, g2, g9, g10, hg]
          refine ⟨by omega, by omega, by first | rfl | trivial | assumption, by first | rfl | trivial | assumption, by first | rfl | trivial | assumption, ?_⟩
          rcases Nat.lt_or_gt_of_ne hne with hlt' | hgt'
          · rw [hlt hlt', ltF (by omega)]
          · rw [hgt hgt', ltT hgt']
        · have he : p = w := by simp at hc; omega
          simp only [go_sem, ↓reduceIte, Nat.reduceEqDiff, Nat.reduceAdd, Bool.false_eq_true, Int.reduceToNat, g0, g2, g9, g10, e6]
          exact ⟨n - 1, by omega, by first | rfl | trivial | assumption, by first | rfl | trivial | assumption, by first | rfl | trivial | assumption, by first | rfl | trivial | assumption, by first | rfl | trivial | assumption, by omega, heq he⟩
      · have hz := hpz (n - 1) (by omega) hi
        rw [hz] at hgt hlt heq
        generalize xs[n - 1] = p at *
        have hg0 : ((0 : Nat) : Int) = 0 := rfl
        simp only [go_sem, ↓reduceIte, Nat.reduceEqDiff, Nat.reduceAdd, Bool.false_eq_true, Int.reduceToNat, g0, g2, g9, g10, d1, ltF hi, hg]
        refine ⟨by omega, by omega, ?_⟩
        refine cond_split (fun hc => ?_) (fun hc => ?_)
        · have hne : p ≠ 0 := by rintro rfl; simp at hc
          simp only [go_sem, ↓reduceIte, Nat.reduceEqDiff, Nat.reduceAdd, Bool.false_eq_true, Int.reduceToNat, g0, g2, g9, g10, hg]
          refine ⟨by omega, by omega, by first | rfl | trivial | assumption, by first | rfl | trivial | assumption, by first | rfl | trivial | assumption, ?_⟩
          rw [hgt (by omega)]
          have : decide ((0 : Int) < (p : Int)) = true := by simp; omega
          rw [this]
        · have he : p = 0 := by simp at hc; omega
          simp only [go_sem, ↓reduceIte, Nat.reduceEqDiff, Nat.reduceAdd, Bool.false_eq_true, Int.reduceToNat, g0, g2, g9, g10, e6]
          exact ⟨n - 1, by omega, by first | rfl | trivial | assumption, by first | rfl | trivial | assumption, by first | rfl | trivial | assumption, by first | rfl | trivial | assumption, by first | rfl | trivial | assumption, by omega, heq he⟩
  rintro ρ h2 ⟨rfl, g0, g2, g9⟩
  rw [← hpv] at hk
  rcases Nat.lt_or_ge (val 4294967296 xs) (val 4294967296 ps) with hc | hc
  · have d1 : decide (val 4294967296 ps ≤ val 4294967296 xs) = false := by simp; omega
    rw [d1] at g9
    simp only [go_sem, ↓reduceIte, Nat.reduceEqDiff, Nat.reduceAdd, Bool.false_eq_true, Int.reduceToNat, g9, Bool.not_false]
    intro _
    exact hk _ xs hw1 hbt1 hx hxd hxl false d1.symm (by simp)
  have d1 : decide (val 4294967296 ps ≤ val 4294967296 xs) = true := by simp; omega
  rw [d1] at g9
  simp only [go_sem, ↓reduceIte, Nat.reduceEqDiff, Nat.reduceAdd, Bool.false_eq_true, Int.reduceToNat, g0, g2, g9, Bool.not_true]
  -- made smaller
  refine ⟨fun n ρ h' => h'.wf ∧ But id h2 h' ∧ ρ 0 = .sl (some id) 0 L c ∧ ρ 2 = .sl idd offd ds.length cd ∧ ∃ i ys e, n = L - i ∧ i ≤ L ∧ ρ 13 = .int .i64 (i : Nat) ∧ ρ 12 = .int .u64 (e : Nat) ∧ e ≤ 1 ∧ IsG a.next h' (.sl (some id) 0 L c) ys ∧ (∀ x ∈ ys, x < 4294967296) ∧ ys.length = L ∧ ys.drop i = xs.drop i ∧ val 4294967296 ys + val 4294967296 (ps.take i) = val 4294967296 xs + 4294967296 ^ i * e, L,
    ⟨hw1, But.refl _ _, by first | rfl | trivial | assumption, by first | rfl | trivial | assumption, 0, xs, 0, by omega, by omega, rfl, rfl, by omega, hx, hxd, hxl, rfl, by simp [val]⟩, ?_⟩
  rintro n ρ h' ⟨hw', hbt, g0, g2, i, ys, e, rfl, hi, g13, g12, he, hy, hyd, hyl, hdr, hv⟩
  rcases Nat.lt_or_ge i L with hlt | hge
  · have hiy : i < ys.length := by omega
    obtain ⟨j, e1, _, hg⟩ := hy.isN.at hiy
    obtain ⟨j', r, e1', hbj, hnj, hrj, ho, hc1, hput⟩ := hy.put hw' hiy
    injection e1 with e1
    subst e1
    injection e1' with e1'
    subst e1'
    rw [Nat.zero_add] at hg
    obtain ⟨q1, q2⟩ := at_drop hiy (by omega) hdr
    have hyb := hyd _ (List.getElem_mem hiy)
    have hpb := hpd _ (List.getElem_mem (show i < ps.length by omega))
    have htk := val_take_succ 4294967296 ps i (by omega)
    have hset := fun v => val_set 4294967296 ys i v hiy
    have inc := incI (i := i) (by omega)
    have hah' : a.le h' := hbt.le ha hah1 (by omega)
    have fin : ∀ v e' : Nat, e' ≤ 1 → v < 4294967296 → v + (ps[i] + e) = ys[i] + 4294967296 * e' → val 4294967296 (ys.set i v) + val 4294967296 (ps.take (i + 1)) = val 4294967296 xs + 4294967296 ^ (i + 1) * e' := by
      intro v e' _ _ hve
      have h3 := hset v
      rw [htk, Nat.pow_succ]
      have h4 : 4294967296 ^ i * (v + (ps[i] + e)) = 4294967296 ^ i * (ys[i] + 4294967296 * e') := by rw [hve]
      rw [Nat.mul_add, Nat.mul_add, Nat.mul_add, ← Nat.mul_assoc] at h4
      generalize 4294967296 ^ i * v = t1 at *
      generalize 4294967296 ^ i * ps[i] = t2 at *
      generalize 4294967296 ^ i * ys[i] = t3 at *
      generalize 4294967296 ^ i * e = t4 at *
      generalize 4294967296 ^ i * 4294967296 * e' = t5 at *
      omega
    have step : ∀ v e' : Nat, e' ≤ 1 → v < 4294967296 → v + (ps[i] + e) = ys[i] + 4294967296 * e' → ∃ m, m < L - i ∧ (h'.set id { r with cells := putAt r.cells i [AV.int .u64 v] }).wf ∧ But id h2 (h'.set id { r with cells := putAt r.cells i [AV.int .u64 v] }) ∧ True ∧ True ∧ ∃ i' ys' e'', m = L - i' ∧ i' ≤ L ∧ AV.int .i64 ((i + 1 : Nat) : Int) = .int .i64 (i' : Nat) ∧ AV.int .u64 (e' : Int) = .int .u64 (e'' : Nat) ∧ e'' ≤ 1 ∧
        IsG a.next (h'.set id { r with cells := putAt r.cells i [AV.int .u64 v] }) (.sl (some id) 0 L c) ys' ∧ (∀ x ∈ ys', x < 4294967296) ∧ ys'.length = L ∧ ys'.drop i' = xs.drop i' ∧ val 4294967296 ys' + val 4294967296 (ps.take i') = val 4294967296 xs + 4294967296 ^ i' * e'' := by
      intro v e' he' hvb hve
      exact ⟨L - (i + 1), by omega, H.wf_set hw' hnj _, hbt.trans (But.set _ _ _), True.intro, True.intro, i + 1, _, e', rfl, by omega, rfl, rfl, he', hput _, mem_set_lt hyd hvb, by simp; omega, by rw [drop_set_lt]; exact q2, fin v e' he' hvb hve⟩
    clear fin hset htk
    generalize hyp : ys[i] = p at *
    rcases Nat.lt_or_ge i ds.length with hi2 | hi2
    · obtain ⟨j', rfl, _, hg'⟩ := (hd.mono hah').at hi2
      rw [← hpa i hi2] at hg'
      generalize ps[i] = q at *
      simp only [go_sem, ↓reduceIte, Nat.reduceEqDiff, Nat.reduceAdd, Bool.false_eq_true, Int.reduceToNat, g0, g2, g12, g13, ltT hlt, ltT hi2, hg, hg', addU (a := e) (b := q) (by omega), hrj, inc]
      refine ⟨by omega, by omega, by omega, by omega, ?_⟩
      refine cond_split (fun hc => ?_) (fun hc => ?_)
      · have hle : e + q ≤ p := by simp at hc; omega
        simp only [go_sem, ↓reduceIte, Nat.reduceEqDiff, Nat.reduceAdd, Bool.false_eq_true, Int.reduceToNat, g0, g2, g12, g13, hg, subN (a := p) (b := e + q) hle (by omega), hrj, inc]
        refine ⟨by omega, by omega, by omega, by omega, ho, hc1, ?_⟩
        exact step (p - (e + q)) 0 (by omega) (by omega) (by omega)
      · have hgt : p < e + q := by simp at hc; omega
        have w3 : IntKind.u64.wrap (4294967296 - ((e + q : Nat) : Int)) = ((4294967296 - (e + q) : Nat) : Int) := by rw [wU] <;> omega
        simp only [go_sem, ↓reduceIte, Nat.reduceEqDiff, Nat.reduceAdd, Bool.false_eq_true, Int.reduceToNat, g0, g2, g12, g13, hg, w3, addU (a := p) (b := 4294967296 - (e + q)) (by omega), hrj, inc]
        refine ⟨by omega, by omega, by omega, by omega, ho, hc1, ?_⟩
        exact step (p + (4294967296 - (e + q))) 1 (by omega) (by omega) (by omega)
    · have hz := hpz i hlt hi2
      rw [hz] at step
      simp only [go_sem, ↓reduceIte, Nat.reduceEqDiff, Nat.reduceAdd, Bool.false_eq_true, Int.reduceToNat, g0, g2, g12, g13, ltT hlt, ltF hi2, hg, hrj, inc]
      refine ⟨by omega, by omega, ?_⟩
      refine cond_split (fun hc => ?_) (fun hc => ?_)
      · have hle : e ≤ p := by simp at hc; omega
        simp only [go_sem, ↓reduceIte, Nat.reduceEqDiff, Nat.reduceAdd, Bool.false_eq_true, Int.reduceToNat, g0, g2, g12, g13, hg, subN (a := p) (b := e) hle (by omega), hrj, inc]
        refine ⟨by omega, by omega, by omega, by omega, ho, hc1, ?_⟩
        exact step (p - (e)) 0 (by omega) (by omega) (by omega)
      · have hgt : p < e := by simp at hc; omega
        have w3 : IntKind.u64.wrap (4294967296 - ((e : Nat) : Int)) = ((4294967296 - (e) : Nat) : Int) := by rw [wU] <;> omega
        simp only [go_sem, ↓reduceIte, Nat.reduceEqDiff, Nat.reduceAdd, Bool.false_eq_true, Int.reduceToNat, g0, g2, g12, g13, hg, w3, addU (a := p) (b := 4294967296 - (e)) (by omega), hrj, inc]
        refine ⟨by omega, by omega, by omega, by omega, ho, hc1, ?_⟩
        exact step (p + (4294967296 - (e))) 1 (by omega) (by omega) (by omega)
  · have hiL : i = L := by omega
    subst hiL
    simp only [go_sem, ↓reduceIte, Nat.reduceEqDiff, Nat.reduceAdd, Bool.false_eq_true, Int.reduceToNat, g0, g2, g12, g13, ltF hge]
    intro _
    rw [List.take_of_length_le (by omega)] at hv
    have hyb := val_lt 4294967296 (by decide) ys hyd
    rw [hyl] at hyb
    have he0 : e = 0 := by
      rcases Nat.eq_zero_or_pos e with h0 | h0
      · exact h0
      · have : e = 1 := by omega
        subst this
        omega
    subst he0
    refine hk _ ys hw' (hbt1.trans hbt) hy hyd hyl true d1.symm ?_
    rw [if_pos rfl]
    omega
end Ab
end Go.Proofs.Ytnmnkocibjdhjaa
namespace Go.Proofs.Ytnmnkocibjdhjaa
namespace Ab
open Go Go.RowKit
set_option linter.unusedSimpArgs false
set_option linter.unusedVariables false
attribute [local go_sem ↓] x_mv x_pick x_bin x_beq x_peq x_seq x_cat x_aeq x_idxS x_un x_cvI x_idx x_idxA x_fld x_ld x_st x_nn x_prt x_slc x_mk x_bsl x_bld x_box x_alloc x_len x_capo x_mnx x_app x_cpy x_mkf x_ext x_call x_callV x_bad s_none s_some s_nil s_cons s_chks w_skip w_reg tP_fin tP_no tP_alt w_seq w_cond w_block w_exit w_ret t_normal t_exit t_ret b_normal b_ret b_exit n_normal n_exit n_ret p_normal p_ret f_nil f_t f_c k_ops k_chk k_fin
attribute [local go_sem] e_t e_c e_f u_some u_none u_at env_at k_v k_pick k_add k_sub k_mul k_quo k_rem k_and k_or k_xor k_shl k_shr k_eql k_neq k_lss k_leq k_gtr k_geq k_beq k_peqn k_peqs k_neg k_not k_com k_cvI k_idxS k_idx k_idxA k_idxG k_ldG k_gld k_seq k_cat k_aeq k_eqs k_fld k_ld1 k_ldn k_get k_gets k_sti k_stb k_stp k_sts k_stf k_sta k_put k_nn k_prt1 k_prtn k_slc_a k_slc_b k_slc_c k_mk k_agg k_bsl k_box k_len k_lenS k_cap k_max k_min k_ext k_callV k_true k_false k_gtt k_gtf k_gft k_gsk k_gff k_lit1i k_lit2i k_lit3i k_c0 k_c1 k_ck List.getElem?_cons_zero List.getElem?_cons_succ List.getElem?_nil Option.getD_some Option.getD_none tupOf List.map_cons List.map_nil Option.map_some Option.map_none List.nil_append List.cons_append List.append_nil Nat.mul_one Int.toNat_natCast Nat.zero_add
theorem div_double {X y b : Nat} (hb : b ≤ 1) (hy : 0 < y) : (2 * X + b) / y = 2 * (X / y) + (if y ≤ 2 * (X % y) + b then 1 else 0) ∧ (2 * X + b) % y = (if y ≤ 2 * (X % y) + b then 2 * (X % y) + b - y else 2 * (X % y) + b) := by
  have h1 := Nat.div_add_mod X y
  have h2 : X % y < y := Nat.mod_lt _ hy
  generalize X / y = u at *
  generalize X % y = v at *
  have e : 2 * X + b = y * (2 * u) + (2 * v + b) := by
    rw [← h1, Nat.mul_left_comm y 2 u]
    omega
  rw [e]
  split
  · rename_i hc
    have e2 : y * (2 * u) + (2 * v + b) = y * (2 * u + 1) + (2 * v + b - y) := by rw [Nat.mul_add]; omega
    rw [e2, Nat.mul_add_div hy, Nat.mul_add_mod, Nat.div_eq_of_lt (by omega), Nat.mod_eq_of_lt (by omega)]
    exact ⟨rfl, rfl⟩
  · rename_i hc
    rw [Nat.mul_add_div hy, Nat.mul_add_mod, Nat.div_eq_of_lt (by omega), Nat.mod_eq_of_lt (by omega)]
    exact ⟨rfl, rfl⟩
theorem shl1 {n : Nat} (hn : n < 64) : bShl .u64 1 n = ((2 ^ n : Nat) : Int) := by
  have h := shlU (x := 1) (n := n) (by omega)
  have h2 : 2 ^ n < 18446744073709551616 := Nat.lt_of_lt_of_le (Nat.pow_lt_pow_right (by decide) hn) (by decide : 2 ^ 64 ≤ 18446744073709551616)
  rw [Nat.one_mul, Nat.mod_eq_of_lt h2] at h
  exact h
theorem or_bit {w r : Nat} (hw : w < 4294967296) (hr : r < 32) (hd : w % 2 ^ (r + 1) = 0) : bOr .u64 (w : Int) ((2 ^ r : Nat) : Int) = ((w + 2 ^ r : Nat) : Int) ∧ w + 2 ^ r < 4294967296 := by
  have h2 : 2 ^ r < 2 ^ 32 := Nat.pow_lt_pow_right (by decide) hr
  have e1 : w = 2 ^ (r + 1) * (w / 2 ^ (r + 1)) := by have := Nat.div_add_mod w (2 ^ (r + 1)); omega
  have e2 : w ||| 2 ^ r = w + 2 ^ r := by
    rw [e1, ← Nat.two_pow_add_eq_or_of_lt (Nat.pow_lt_pow_right (by decide) (by omega))]
  have h3 := borN (a := w) (b := 2 ^ r) (by omega) (by omega)
  rw [e2] at h3
  refine ⟨h3, ?_⟩
  have := Nat.or_lt_two_pow (n := 32) (x := w) (y := 2 ^ r) hw h2
  omega
theorem digit_mult {xs : List Nat} (hx : ∀ a ∈ xs, a < 4294967296) {i z : Nat} (h : i / 32 < xs.length) (hv : val 4294967296 xs = 2 ^ (i + 1) * z) : xs[i / 32] % 2 ^ (i % 32 + 1) = 0 := by
  rw [digit_eq xs hx _ h, hv]
  have e : 2 ^ (i + 1) = 2 ^ (32 * (i / 32)) * 2 ^ (i % 32 + 1) := by rw [← Nat.pow_add]; congr 1; omega
  rw [e, Nat.mul_assoc, Nat.mul_div_cancel_left _ (Nat.pow_pos (by decide))]
  have hr : i % 32 < 32 := Nat.mod_lt _ (by decide)
  generalize i % 32 = r at *
  have e2 : 4294967296 = 2 ^ (r + 1) * 2 ^ (31 - r) := by rw [← Nat.pow_add, show r + 1 + (31 - r) = 32 from by omega]
  rw [e2, Nat.mul_mod_mul_left, Nat.mul_mod_right]
theorem DivMod_calls {v u : AV} {x y : Nat} {h : H} {K : AV → H → Prop} (nv : Num 4294967296 h v x) (nu : Num 4294967296 h u y) (hx : Big x) (hy : Big y) (hy0 : 0 < y)
    (hk : ∀ q r h', h'.wf → h.le h' → Num 4294967296 h' q (x / y) → Num 4294967296 h' r (x % y) → K (.tup [q, r]) h') : ACalls Try.prog 34 [v, u] h K := by
  refine in_ref02_DivMod (by simp) fun hw => ?_
  unfold c_ref02_DivMod
  simp only [go_sem, ↓reduceIte, Nat.reduceEqDiff, Nat.reduceAdd, Bool.false_eq_true, Int.reduceToNat]
  refine Cmp_calls nv nu hx hy ?_
  rcases Nat.lt_or_ge x y with hlt | hge
  · have d1 : decide (cmpI x y < 0) = true := by simp [cmpI, hlt]
    simp only [go_sem, ↓reduceIte, Nat.reduceEqDiff, Nat.reduceAdd, Bool.false_eq_true, Int.reduceToNat, d1]
    intro _
    refine hk _ v h hw (H.le_refl h) ?_ ?_
    · rw [Nat.div_eq_of_lt hlt]
      exact ⟨[], IsN.nil _ _, by simp, by simp, rfl⟩
    · rw [Nat.mod_eq_of_lt hlt]
      exact nv
  have d1 : decide (cmpI x y < 0) = false := by
    unfold cmpI
    rw [if_neg (by omega)]
    split <;> rfl
  have nv0 := nv
  obtain ⟨xs, hv, hxd, hxt, hxv, hxl⟩ := nv.open hx
  obtain ⟨ys, hu, hyd, hyt, hyv, hyl⟩ := nu.open hy
  obtain ⟨id, off, c, rfl⟩ := hv.form
  obtain ⟨id', off', c', rfl⟩ := hu.form
  have e1 := incI (i := ys.length) (by omega)
  simp only [go_sem, ↓reduceIte, Nat.reduceEqDiff, Nat.reduceAdd, Bool.false_eq_true, Int.reduceToNat, d1, e1]
  refine ⟨by omega, by omega, by omega, by omega, by omega, by omega, ?_⟩
  have le1 : h.le ((h.new ⟨some 23, 1, zs [AV.int .u64 0] (ys.length + 1)⟩).new ⟨some 23, 1, zs [AV.int .u64 0] xs.length⟩) := H.le_new (H.wf_new hw _) (H.le_new hw (H.le_refl h) _) _
  have hr0 : IsG h.next ((h.new ⟨some 23, 1, zs [AV.int .u64 0] (ys.length + 1)⟩).new ⟨some 23, 1, zs [AV.int .u64 0] xs.length⟩) (.sl (some h.next) 0 (ys.length + 1) (some (ys.length + 1))) (List.replicate (ys.length + 1) 0) :=
    (IsG.made (Nat.le_refl _) _).mono (H.le_new (H.wf_new hw _) (H.le_refl _) _)
  have hq0 : IsG h.next ((h.new ⟨some 23, 1, zs [AV.int .u64 0] (ys.length + 1)⟩).new ⟨some 23, 1, zs [AV.int .u64 0] xs.length⟩) (.sl (some (h.next + 1)) 0 xs.length (some xs.length)) (List.replicate xs.length 0) :=
    IsG.made (by rw [H.next_new]; omega) _
  have wf1 := H.wf_new (H.wf_new hw ⟨some 23, 1, zs [AV.int .u64 0] (ys.length + 1)⟩) ⟨some 23, 1, zs [AV.int .u64 0] xs.length⟩
  simp only [H.next_new]
  generalize ((h.new ⟨some 23, 1, zs [AV.int .u64 0] (ys.length + 1)⟩).new ⟨some 23, 1, zs [AV.int .u64 0] xs.length⟩) = h1 at *
  refine Bits_calls (nv0.mono le1) hx fun L hL hB => ?_
  have hx0 : 0 < x := by omega
  have hL0 := hB.pos hx0
  have hLl : L ≤ 32 * xs.length := by
    have a1 := val_lt 4294967296 (by decide) xs hxd
    rw [hxv, pow32] at a1
    have a2 := hB.2.resolve_left hL0
    have := (Nat.pow_lt_pow_iff_right (by decide : 1 < 2)).1 (Nat.lt_of_le_of_lt a2 a1)
    omega
  have e2 := decI (i := L) (by omega) (by omega)
  simp only [go_sem, ↓reduceIte, Nat.reduceEqDiff, Nat.reduceAdd, Bool.false_eq_true, Int.reduceToNat, e2]
  have hyb : y < 4294967296 ^ ys.length := by rw [← hyv]; exact val_lt 4294967296 (by decide) ys hyd
  refine ⟨fun n ρ h' => h'.wf ∧ h.le h' ∧ ρ 0 = .sl id off xs.length c ∧ ρ 1 = .sl id' off' ys.length c' ∧ ρ 6 = .sl (some h.next) 0 (ys.length + 1) (some (ys.length + 1)) ∧ ρ 7 = .sl (some (h.next + 1)) 0 xs.length (some xs.length) ∧ ρ 8 = .int .i64 ((n : Int) - 1) ∧ n ≤ L ∧
    ∃ rs qs, IsG h.next h' (.sl (some h.next) 0 (ys.length + 1) (some (ys.length + 1))) rs ∧ (∀ a ∈ rs, a < 4294967296) ∧ rs.length = ys.length + 1 ∧ val 4294967296 rs = x / 2 ^ n % y ∧
      IsG h.next h' (.sl (some (h.next + 1)) 0 xs.length (some xs.length)) qs ∧ (∀ a ∈ qs, a < 4294967296) ∧ qs.length = xs.length ∧ val 4294967296 qs = 2 ^ n * (x / 2 ^ n / y), L,
    ⟨wf1, le1, by first | rfl | trivial | assumption, by first | rfl | trivial | assumption, by first | rfl | trivial | assumption, by first | rfl | trivial | assumption, ?_, by omega, _, _, hr0, ?_, by simp, ?_, hq0, ?_, by simp, ?_⟩, ?_⟩
  · simp only [go_sem, ↓reduceIte, Nat.reduceEqDiff, Nat.reduceAdd, Bool.false_eq_true, Int.reduceToNat]
    congr 1
    omega
  · intro a ha; rw [(List.mem_replicate.1 ha).2]; decide
  · rw [val_zero 4294967296 _ (fun a ha => (List.mem_replicate.1 ha).2), Nat.div_eq_of_lt hB.1, Nat.zero_mod]
  · intro a ha; rw [(List.mem_replicate.1 ha).2]; decide
  · rw [val_zero 4294967296 _ (fun a ha => (List.mem_replicate.1 ha).2), Nat.div_eq_of_lt hB.1, Nat.zero_div, Nat.mul_zero]
  rintro n ρ h' ⟨hw', hle, g0, g1, g6, g7, g8, hn, rs, qs, hr, hrd, hrl, hrv, hq, hqd, hql, hqv⟩
  rcases Nat.eq_zero_or_pos n with rfl | hp
  · have d2 : decide ((0 : Int) ≤ ((0 : Nat) : Int) - 1) = false := by decide
    simp only [go_sem, ↓reduceIte, Nat.reduceEqDiff, Nat.reduceAdd, Bool.false_eq_true, Int.reduceToNat, g0, g1, g6, g7, g8, d2]
    refine norm_num hq.isN hqd (by omega) fun q1 nq => ?_
    simp only [go_sem, ↓reduceIte, Nat.reduceEqDiff, Nat.reduceAdd, Bool.false_eq_true, Int.reduceToNat, g0, g1, g6, g7, g8]
    refine norm_num hr.isN hrd (by omega) fun r1 nr => ?_
    simp only [go_sem, ↓reduceIte, Nat.reduceEqDiff, Nat.reduceAdd, Bool.false_eq_true, Int.reduceToNat]
    intro _
    rw [hqv] at nq
    rw [hrv] at nr
    simp only [Nat.pow_zero, Nat.div_one, Nat.one_mul] at nq nr
    exact hk q1 r1 h' hw' hle nq nr
  obtain ⟨i, rfl⟩ : ∃ i, n = i + 1 := ⟨n - 1, by omega⟩
  have e5 : ((i + 1 : Nat) : Int) - 1 = (i : Int) := by omega
  have d2 : decide ((0 : Int) ≤ (i : Int)) = true := by simp
  rw [e5] at g8
  simp only [go_sem, ↓reduceIte, Nat.reduceEqDiff, Nat.reduceAdd, Bool.false_eq_true, Int.reduceToNat, g0, g1, g6, g7, g8, d2]
  have hi32 : i / 32 < xs.length := by omega
  refine bit_calls (hv.mono hle) hxd (by omega) hi32 ?_
  simp only [go_sem, ↓reduceIte, Nat.reduceEqDiff, Nat.reduceAdd, Bool.false_eq_true, Int.reduceToNat, g0, g1, g6, g7, g8]
  rw [hxv]
  have hb1 : x / 2 ^ i % 2 ≤ 1 := by omega
  have hvy : val 4294967296 rs < y := by rw [hrv]; exact Nat.mod_lt _ hy0
  have hX : x / 2 ^ i = 2 * (x / 2 ^ (i + 1)) + x / 2 ^ i % 2 := by
    rw [Nat.pow_succ, ← Nat.div_div_eq_div_mul]
    omega
  obtain ⟨hD1, hD2⟩ := div_double (X := x / 2 ^ (i + 1)) hb1 hy0
  rw [← hX, ← hrv] at hD1 hD2
  have hfit : 2 * val 4294967296 rs + x / 2 ^ i % 2 < 4294967296 ^ (ys.length + 1) := by rw [Nat.pow_succ]; omega
  refine twice_calls hw hle hr hrd hu hyd hrl (by omega) (by omega) hb1 hfit fun h2 rs' hw2 hbt hr2 hrd2 hrl2 t ht hrv2 => ?_
  rw [hyv] at ht hrv2
  have hle2 := hbt.le hw hle (Nat.le_refl _)
  have hq2 := hq.but hbt (by omega)
  have e6 : IntKind.i64.wrap ((i : Int) - 1) = (i : Int) - 1 := by rw [wI] <;> omega
  cases t with
  | false =>
    have hc : ¬ y ≤ 2 * val 4294967296 rs + x / 2 ^ i % 2 := by simpa using ht.symm
    rw [if_neg (by simp)] at hrv2
    rw [if_neg hc] at hD1 hD2
    simp only [go_sem, ↓reduceIte, Nat.reduceEqDiff, Nat.reduceAdd, Bool.false_eq_true, Int.reduceToNat, g0, g1, g6, g7, g8, e6]
    refine ⟨i, by omega, hw2, hle2, by first | rfl | trivial | assumption, by first | rfl | trivial | assumption, by first | rfl | trivial | assumption, by first | rfl | trivial | assumption, by first | rfl | trivial | assumption, by omega, rs', qs, hr2, hrd2, hrl2, ?_, hq2, hqd, hql, ?_⟩
    · rw [hrv2, hD2]
    · rw [hqv, hD1, Nat.pow_succ, Nat.mul_assoc, Nat.add_zero]
  | true =>
    have hc : y ≤ 2 * val 4294967296 rs + x / 2 ^ i % 2 := by simpa using ht.symm
    rw [if_pos rfl] at hrv2
    rw [if_pos hc] at hD1 hD2
    have hjq : i / 32 < qs.length := by omega
    obtain ⟨j, e1, _, hg⟩ := hq2.isN.at hjq
    obtain ⟨j', r, e1', hbj, hnj, hrj, ho, hc1, hput⟩ := hq2.put hw2 hjq
    injection e1 with e1
    subst e1
    injection e1' with e1'
    subst e1'
    rw [Nat.zero_add] at hg
    have hqb := hqd _ (List.getElem_mem hjq)
    have hr32 : i % 32 < 32 := Nat.mod_lt _ (by decide)
    obtain ⟨o1, o2⟩ := or_bit hqb hr32 (digit_mult hqd hjq hqv)
    have hset := val_set 4294967296 qs (i / 32) (qs[i / 32] + 2 ^ (i % 32)) hjq
    generalize qs[i / 32] = w at *
    have e7 : IntKind.i64.wrap (((i : Int)).tdiv 32) = ((i / 32 : Nat) : Int) := by
      rw [show ((i : Int)).tdiv 32 = ((i / 32 : Nat) : Int) from tdivN (b := 32)]
      rw [wI] <;> omega
    have e8 : ((i : Int)).tmod 32 = ((i % 32 : Nat) : Int) := tmodN (b := 32)
    simp only [go_sem, ↓reduceIte, Nat.reduceEqDiff, Nat.reduceAdd, Bool.false_eq_true, Int.reduceToNat, g0, g1, g6, g7, g8, e6, e7, e8, hg, hrj, wUn (x := i % 32) (by omega), shl1 (n := i % 32) (by omega), o1]
    refine ⟨by omega, by omega, by omega, by omega, by omega, by omega, by omega, ho, hc1, ?_⟩
    refine ⟨i, by omega, H.wf_set hw2 hnj _, H.le_set hw hle2 hbj _, by first | rfl | trivial | assumption, by first | rfl | trivial | assumption, by first | rfl | trivial | assumption, by first | rfl | trivial | assumption, by first | rfl | trivial | assumption, by omega, rs', _, hr2.but (But.set _ _ _) (by omega), hrd2, hrl2, ?_, hput _, mem_set_lt hqd o2, by simp; omega, ?_⟩
    · rw [hrv2, hD2]
    · rw [hD1]
      have e9 : 4294967296 ^ (i / 32) * 2 ^ (i % 32) = 2 ^ i := by rw [pow32, ← Nat.pow_add, Nat.div_add_mod]
      rw [Nat.mul_add, e9, hqv] at hset
      generalize x / 2 ^ (i + 1) / y = Z at *
      rw [Nat.pow_succ] at hset
      rw [Nat.mul_add, Nat.mul_one, ← Nat.mul_assoc]
      omega
end Ab
end Go.Proofs.Ytnmnkocibjdhjaa
namespace Go.Proofs.Ytnmnkocibjdhjaa
namespace Ab
open Go Go.RowKit
set_option linter.unusedSimpArgs false
set_option linter.unusedVariables false
attribute [local go_sem ↓] x_mv x_pick x_bin x_beq x_peq x_seq x_cat x_aeq x_idxS x_un x_cvI x_idx x_idxA x_fld x_ld x_st x_nn x_prt x_slc x_mk x_bsl x_bld x_box x_alloc x_len x_capo x_mnx x_app x_cpy x_mkf x_ext x_call x_callV x_bad s_none s_some s_nil s_cons s_chks w_skip w_reg tP_fin tP_no tP_alt w_seq w_cond w_block w_exit w_ret t_normal t_exit t_ret b_normal b_ret b_exit n_normal n_exit n_ret p_normal p_ret f_nil f_t f_c k_ops k_chk k_fin
attribute [local go_sem] e_t e_c e_f u_some u_none u_at env_at k_v k_pick k_add k_sub k_mul k_quo k_rem k_and k_or k_xor k_shl k_shr k_eql k_neq k_lss k_leq k_gtr k_geq k_beq k_peqn k_peqs k_neg k_not k_com k_cvI k_idxS k_idx k_idxA k_idxG k_ldG k_gld k_seq k_cat k_aeq k_eqs k_fld k_ld1 k_ldn k_get k_gets k_sti k_stb k_stp k_sts k_stf k_sta k_put k_nn k_prt1 k_prtn k_slc_a k_slc_b k_slc_c k_mk k_agg k_bsl k_box k_len k_lenS k_cap k_max k_min k_ext k_callV k_true k_false k_gtt k_gtf k_gft k_gsk k_gff k_lit1i k_lit2i k_lit3i k_c0 k_c1 k_ck List.getElem?_cons_zero List.getElem?_cons_succ List.getElem?_nil Option.getD_some Option.getD_none tupOf List.map_cons List.map_nil Option.map_some Option.map_none List.nil_append List.cons_append List.append_nil Nat.mul_one Int.toNat_natCast Nat.zero_add
/-- A loop that counts up. -/
theorem for_rule {P : Program} {c : AC} {Q : Post} {ρ : Env} {h : H} (I : Nat → Env → H → Prop) (N : Nat) (h0 : I 0 ρ h) (hN : ∀ i ρ h, I i ρ h → i ≤ N) (hs : ∀ i ρ h, I i ρ h → awp P c (athen (fun ρ' h' => I (i + 1) ρ' h') Q) ρ h) : awp P (.loop c) Q ρ h := by
  refine ⟨fun n ρ h => ∃ i, n = N - i ∧ I i ρ h, N, ⟨0, by omega, h0⟩, ?_⟩
  rintro n ρ h ⟨i, rfl, hI⟩
  refine awp_mono (fun e ρ' h' hh => ?_) (hs i ρ h hI)
  cases e with
  | normal =>
    have h1 := hN _ _ _ hh
    exact ⟨N - (i + 1), by omega, i + 1, rfl, hh⟩
  | _ => exact hh
theorem eqF {a b : Int} (h : a ≠ b) : (a == b) = false := beq_eq_false_iff_ne.2 h
theorem eqT {a b : Int} (h : a = b) : (a == b) = true := beq_iff_eq.2 h
theorem neT {a b : Int} (h : a ≠ b) : (a != b) = true := bne_iff_ne.2 h
theorem neF {a b : Int} (h : a = b) : (a != b) = false := by rw [h]; exact bne_self_eq_false b
theorem leT {a b : Nat} (h : a ≤ b) : decide ((a : Int) ≤ (b : Int)) = true := by simp; omega
theorem leF {a b : Nat} (h : b < a) : decide ((a : Int) ≤ (b : Int)) = false := by simp; omega
theorem minN {a b : Nat} : min (a : Int) (b : Int) = ((min a b : Nat) : Int) := by omega
theorem maxN {a b : Nat} : max (a : Int) (b : Int) = ((max a b : Nat) : Int) := by omega
theorem take_min {α : Type} {l : List α} {n : Nat} : l.take (min l.length n) = l.take n := by
  rw [List.take_eq_take_iff]
  omega
theorem Cut_calls {v : AV} {xs : List Nat} {n : Nat} {h : H} {K : AV → H → Prop} (hv : IsN h v xs) (hk : ∀ r, IsN h r (xs.take n) → K r h) : ACalls Try.prog 28 [v, .int .i64 (n : Int)] h K := by
  obtain ⟨id, off, c, rfl⟩ := hv.form
  refine in_keep_Cut (by simp) fun hw => ?_
  unfold c_keep_Cut
  simp only [go_sem, ↓reduceIte, Nat.reduceEqDiff, Nat.reduceAdd, Bool.false_eq_true, Int.reduceToNat, minN]
  refine ⟨by omega, by omega, hv.row, fun _ => ?_⟩
  have := hv.take (b := min xs.length n) (c' := c) (by omega)
  rw [take_min] at this
  exact hk _ this
/-- What lies behind a lent row. -/
def pad : List Nat := [6148914691236517205, 6148914691236517205, 6148914691236517205, 6148914691236517205]
/-- A lent row. -/
def Lent (b : Nat) (h : H) (v : AV) (xs : List Nat) : Prop := ∃ id, v = .sl (some id) 0 xs.length (some (xs.length + 4)) ∧ IsG b h (.sl (some id) 0 (xs.length + 4) (some (xs.length + 4))) (xs ++ pad)
theorem Lent.mono {b : Nat} {h h' : H} {v : AV} {xs : List Nat} (hv : Lent b h v xs) (hl : h.le h') : Lent b h' v xs := by
  obtain ⟨id, e, h1⟩ := hv
  exact ⟨id, e, h1.mono hl⟩
theorem Lent.isN {b : Nat} {h : H} {v : AV} {xs : List Nat} (hv : Lent b h v xs) : IsN h v xs := by
  obtain ⟨id, rfl, h1⟩ := hv
  have := h1.isN.take (b := xs.length) (c' := some (xs.length + 4)) (by simp)
  simpa using this
theorem putAt_zero {l m : List AV} : putAt l 0 m = m ++ l.drop m.length := by simp [putAt]
theorem Lend_calls {v : AV} {xs : List Nat} {h : H} {K : AV → H → Prop} (hv : IsN h v xs) (hl : xs.length ≤ 1000000)
    (hk : ∀ r h', h'.wf → h.le h' → Lent h.next h' r xs → K r h') : ACalls Try.prog 30 [v] h K := by
  obtain ⟨id, off, c, rfl⟩ := hv.form
  refine in_keep_Lend (by simp) fun hw => ?_
  unfold c_keep_Lend
  have e0 : IntKind.i64.wrap ((xs.length : Int) + 4) = ((xs.length + 4 : Nat) : Int) := by rw [wI] <;> omega
  simp only [go_sem, ↓reduceIte, Nat.reduceEqDiff, Nat.reduceAdd, Bool.false_eq_true, Int.reduceToNat, e0]
  refine ⟨by omega, by omega, by omega, ?_⟩
  have hv1 := hv.mono (H.le_new hw (H.le_refl h) ⟨some 23, 1, zs [AV.int .u64 0] (xs.length + 4)⟩)
  have hw1 := H.wf_new hw ⟨some 23, 1, zs [AV.int .u64 0] (xs.length + 4)⟩
  -- the copy
  have hcpy : ∀ K' : AV → H → Prop, (∀ h2, h2.wf → h.le h2 → h2.next = h.next + 1 → IsG h.next h2 (.sl (some h.next) 0 (xs.length + 4) (some (xs.length + 4))) (xs ++ List.replicate 4 0) → K' (.int .i64 xs.length) h2) →
      cpyK 1 (.sl (some h.next) 0 xs.length (some (xs.length + 4))) (.sl id off xs.length c) (h.new ⟨some 23, 1, zs [AV.int .u64 0] (xs.length + 4)⟩) K' := by
    intro K' hk'
    have hle0 : h.le (h.new ⟨some 23, 1, zs [AV.int .u64 0] (xs.length + 4)⟩) := H.le_new hw (H.le_refl h) _
    simp only [cpyK, Nat.min_self, Int.min_self, Nat.mul_one]
    refine ⟨fun hx => ?_, fun hx => ?_⟩
    · have hxs : xs = [] := List.eq_nil_of_length_eq_zero hx
      subst hxs
      refine hk' _ hw1 hle0 rfl ?_
      have := IsG.made (b := h.next) (h := h) (Nat.le_refl _) 4
      simpa using this
    · obtain ⟨id', off', c', e, hr⟩ := hv1
      injection e with e1 e2 e3 e4
      subst e1; subst e2; subst e4
      rcases hr with ⟨_, h0, _⟩ | ⟨i, r, rfl, hr, _, hfit, ht⟩
      · simp at h0
        subst h0
        simp at hx
      · simp only [List.length_map] at hfit ht
        refine ⟨h.next, _, i, r, rfl, H.rows_new _ _, by simp, rfl, hr, hfit, by simp [zs_length] <;> omega, by rw [ht]; exact W_one _ _, ?_⟩
        rw [ht]
        refine hk' _ (H.wf_set hw1 (by simp [H.new]) _) (H.le_set hw hle0 (Nat.le_refl _) _) rfl ?_
        refine ⟨some h.next, some (xs.length + 4), by simp, .inr ⟨h.next, _, rfl, Nat.le_refl _, H.rows_set _ _ _, rfl, rfl, ?_, ?_⟩⟩
        · rw [putAt_length (by simp [W_length, zs_length] <;> omega)]
          simp [zs_length]
        · simp only [putAt_zero, W_length, List.length_map, List.length_append, List.length_replicate]
          rw [List.take_of_length_le (by simp [W_length, zs_length] <;> omega)]
          rw [List.map_append, W_append]
          congr 1
          simp [zs, W]
  refine hcpy _ fun h2 hw2 hl2 hn2 hg => ?_
  simp only [go_sem, ↓reduceIte, Nat.reduceEqDiff, Nat.reduceAdd, Bool.false_eq_true, Int.reduceToNat, e0]
  refine ⟨by omega, .inr ⟨_, rfl, Nat.le_refl _⟩, ?_, ?_⟩
  · intro i hi
    injection hi with hi
    subst hi
    exact hg.isN.row _ rfl
  refine for_rule (fun j ρ h' => j ≤ 4 ∧ h'.wf ∧ h.le h' ∧ ρ 3 = .sl (some h.next) 0 xs.length (some (xs.length + 4)) ∧ ρ 4 = .sl (some h.next) 0 (xs.length + 4) (some (xs.length + 4)) ∧ ρ 5 = .int .i64 ((xs.length + j : Nat) : Int) ∧
    IsG h.next h' (.sl (some h.next) 0 (xs.length + 4) (some (xs.length + 4))) (xs ++ (pad.take j ++ List.replicate (4 - j) 0))) 4 ⟨by omega, hw2, hl2, rfl, rfl, rfl, by simpa using hg⟩ (fun i ρ h hI => hI.1) ?_
  rintro j ρ h' ⟨hj, hw', hle, h3, h4, h5, hs⟩
  rcases Nat.lt_or_ge j 4 with hj4 | hj4
  · simp only [go_sem, ↓reduceIte, Nat.reduceEqDiff, Nat.reduceAdd, Bool.false_eq_true, Int.reduceToNat, h3, h4, h5, ltT (show xs.length + j < xs.length + 4 by omega)]
    refine ⟨by omega, by omega, ?_⟩
    obtain ⟨i3, r, e3, hb3, hn3, hr3, ho3, hc3, hput⟩ := hs.put hw' (j := xs.length + j) (by simp [pad]; omega)
    injection e3 with e3
    subst e3
    simp only [go_sem, ↓reduceIte, Nat.reduceEqDiff, Nat.reduceAdd, Bool.false_eq_true, Int.reduceToNat, hr3]
    refine ⟨ho3, by omega, ?_⟩
    simp only [go_sem, ↓reduceIte, Nat.reduceEqDiff, Nat.reduceAdd, Bool.false_eq_true, Int.reduceToNat, h5, incI (i := xs.length + j) (by omega)]
    refine ⟨by omega, H.wf_set hw' hn3 _, H.le_set hw hle hb3 _, h3, h4, rfl, ?_⟩
    have := hput 6148914691236517205
    have e : (xs ++ (pad.take j ++ List.replicate (4 - j) 0)).set (xs.length + j) 6148914691236517205 = xs ++ (pad.take (j + 1) ++ List.replicate (4 - (j + 1)) 0) := by
      rw [List.set_append_right _ _ (by omega), Nat.add_sub_cancel_left]
      congr 1
      have : j = 0 ∨ j = 1 ∨ j = 2 ∨ j = 3 := by omega
      rcases this with rfl | rfl | rfl | rfl <;> rfl
    rw [e] at this
    exact this
  · have : j = 4 := by omega
    subst this
    simp only [go_sem, ↓reduceIte, Nat.reduceEqDiff, Nat.reduceAdd, Bool.false_eq_true, Int.reduceToNat, h3, h4, h5, ltF (Nat.le_refl (xs.length + 4))]
    exact fun _ => hk _ _ hw' hle ⟨_, rfl, by simpa [pad] using hs⟩
theorem Intact_calls {v u : AV} {xs : List Nat} {b : Nat} {h : H} {K : AV → H → Prop} (hv : Lent b h v xs) (hu : IsN h u xs) (hl : xs.length ≤ 1000000) (hk : K (.bool true) h) : ACalls Try.prog 38 [v, u] h K := by
  obtain ⟨i, rfl, hg⟩ := hv
  obtain ⟨id, off, c, rfl⟩ := hu.form
  refine in_keep_Intact (by simp) fun hw => ?_
  unfold c_keep_Intact
  have e0 : IntKind.i64.wrap ((xs.length : Int) + 4) = ((xs.length + 4 : Nat) : Int) := by rw [wI] <;> omega
  have e1 : ((xs.length : Int) != (xs.length : Int)) = false := by simp
  have e2 : (((xs.length + 4 : Nat) : Int) != ((xs.length + 4 : Nat) : Int)) = false := by simp
  simp only [go_sem, ↓reduceIte, Nat.reduceEqDiff, Nat.reduceAdd, Bool.false_eq_true, Int.reduceToNat, e0, e1, e2]
  refine ⟨by omega, .inr ⟨_, rfl, Nat.le_refl _⟩, ?_, ?_⟩
  · intro j hj
    injection hj with hj
    subst hj
    exact hg.isN.row _ rfl
  refine for_rule (fun j ρ h' => j ≤ xs.length + 4 ∧ h' = h ∧ ρ 1 = .sl id off xs.length c ∧ ρ 5 = .sl (some i) 0 (xs.length + 4) (some (xs.length + 4)) ∧ ρ 6 = .int .i64 (j : Int)) (xs.length + 4) ⟨by omega, rfl, rfl, rfl, rfl⟩ (fun i ρ h hI => hI.1) ?_
  rintro j ρ h' ⟨hj, rfl, h1, h5, h6⟩
  rcases Nat.lt_or_ge j (xs.length + 4) with hj4 | hj4
  · obtain ⟨i', hi', _, hgg⟩ := hg.isN.at (j := j) (by simp [pad]; omega)
    injection hi' with hi'
    subst hi'
    rcases Nat.lt_or_ge j xs.length with hj2 | hj2
    · rw [Nat.zero_add] at hgg
      obtain ⟨i2, rfl, _, hg2⟩ := hu.at hj2
      have e3 : (xs ++ pad)[j]'(by simp; omega) = xs[j] := List.getElem_append_left hj2
      rw [e3] at hgg
      have e4 : (((xs[j] : Nat) : Int) != ((xs[j] : Nat) : Int)) = false := by simp
      have e5 : decide ((xs.length : Int) ≤ (j : Int)) = false := by simp; omega
      simp only [go_sem, ↓reduceIte, Nat.reduceEqDiff, Nat.reduceAdd, Bool.false_eq_true, Int.reduceToNat, h1, h5, h6, ltT hj4, ltT hj2]
      refine ⟨by omega, by omega, ?_⟩
      simp only [go_sem, ↓reduceIte, Nat.reduceEqDiff, Nat.reduceAdd, Bool.false_eq_true, Int.reduceToNat, h1, h5, h6, hgg]
      refine ⟨by omega, by omega, ?_⟩
      simp only [go_sem, ↓reduceIte, Nat.reduceEqDiff, Nat.reduceAdd, Bool.false_eq_true, Int.reduceToNat, h1, h5, h6, hg2, e4, e5, incI (i := j) (by omega)]
      exact ⟨by omega, by first | rfl | trivial | assumption, by first | rfl | trivial | assumption, by first | rfl | trivial | assumption, by first | rfl | trivial | assumption⟩
    · have e3 : (xs ++ pad)[j]'(by simp [pad]; omega) = 6148914691236517205 := by
        rw [List.getElem_append_right hj2]
        have : j - xs.length = 0 ∨ j - xs.length = 1 ∨ j - xs.length = 2 ∨ j - xs.length = 3 := by omega
        rcases this with e | e | e | e <;> simp [e, pad]
      rw [e3, Nat.zero_add] at hgg
      have e4 : (((6148914691236517205 : Nat) : Int) != 6148914691236517205) = false := by decide
      have e5 : decide ((xs.length : Int) ≤ (j : Int)) = true := by simp; omega
      simp only [go_sem, ↓reduceIte, Nat.reduceEqDiff, Nat.reduceAdd, Bool.false_eq_true, Int.reduceToNat, h1, h5, h6, ltT hj4, ltF hj2, e5]
      refine ⟨by omega, by omega, ?_⟩
      simp only [go_sem, ↓reduceIte, Nat.reduceEqDiff, Nat.reduceAdd, Bool.false_eq_true, Int.reduceToNat, h1, h5, h6, hgg, e4, incI (i := j) (by omega)]
      exact ⟨by omega, by first | rfl | trivial | assumption, by first | rfl | trivial | assumption, by first | rfl | trivial | assumption, by first | rfl | trivial | assumption⟩
  · have : j = xs.length + 4 := by omega
    subst this
    simp only [go_sem, ↓reduceIte, Nat.reduceEqDiff, Nat.reduceAdd, Bool.false_eq_true, Int.reduceToNat, h1, h5, h6, ltF (Nat.le_refl (xs.length + 4))]
    exact fun _ => hk
theorem within_mod {v : Int} {n : Nat} (hn : 1 ≤ n) : ¬ v.tmod n < 0 → v.tmod n = v % n := by
  intro h
  rcases Int.lt_or_le v 0 with hv | hv
  · rw [Int.tmod_eq_emod] at h ⊢
    split
    · omega
    · rename_i hc
      rw [if_neg hc] at h
      have h1 := Int.emod_lt_of_pos v (show (0 : Int) < n by omega)
      have h2 : ((n : Int).natAbs : Int) = n := by omega
      omega
  · exact Int.tmod_eq_emod_of_nonneg hv
theorem within_mod_neg {v : Int} {n : Nat} (hn : 1 ≤ n) : v.tmod n < 0 → v.tmod n + n = v % n := by
  intro h
  rw [Int.tmod_eq_emod] at h ⊢
  have h2 : ((n : Int).natAbs : Int) = n := by omega
  split
  · rename_i hc
    rw [if_pos hc] at h
    have := Int.emod_nonneg v (show (n : Int) ≠ 0 by omega)
    omega
  · omega
theorem Within_calls {v : Int} {n : Nat} {h : H} {K : AV → H → Prop} (hn : 1 ≤ n) (hn2 : n < 4611686018427387904) (hk : ∀ k : Nat, k < n → (k : Int) = v % n → K (.int .i64 (k : Int)) h) : ACalls Try.prog 39 [.int .i64 v, .int .i64 (n : Int)] h K := by
  refine in_keep_Within (by simp) fun hw => ?_
  unfold c_keep_Within
  have d1 : decide ((n : Int) < 1) = false := by simp; omega
  have h1 := Int.emod_lt_of_pos v (show (0 : Int) < n by omega)
  have h0 := Int.emod_nonneg v (show (n : Int) ≠ 0 by omega)
  obtain ⟨k, hkk⟩ : ∃ k : Nat, (k : Int) = v % n := ⟨(v % n).toNat, by omega⟩
  simp only [go_sem, ↓reduceIte, Nat.reduceEqDiff, Nat.reduceAdd, Bool.false_eq_true, Int.reduceToNat, d1]
  refine ⟨by omega, ?_⟩
  by_cases hc : v.tmod n < 0
  · have e := within_mod_neg hn hc
    have d2 : decide (v.tmod n < 0) = true := decide_eq_true hc
    have e1 : IntKind.i64.wrap (v.tmod n + n) = (k : Int) := by rw [e, ← hkk, wI] <;> omega
    simp only [go_sem, ↓reduceIte, Nat.reduceEqDiff, Nat.reduceAdd, Bool.false_eq_true, Int.reduceToNat, d2, e1]
    exact fun _ => hk k (by omega) hkk
  · have e := within_mod hn hc
    have d2 : decide (v.tmod n < 0) = false := decide_eq_false hc
    rw [← hkk] at e
    rw [e] at d2
    simp only [go_sem, ↓reduceIte, Nat.reduceEqDiff, Nat.reduceAdd, Bool.false_eq_true, Int.reduceToNat, e, d2]
    exact fun _ => hk k (by omega) hkk
end Ab
end Go.Proofs.Ytnmnkocibjdhjaa
namespace Go.Proofs.Ytnmnkocibjdhjaa
namespace Ab
open Go Go.RowKit
set_option linter.unusedSimpArgs false
set_option linter.unusedVariables false
attribute [local go_sem ↓] x_mv x_pick x_bin x_beq x_peq x_seq x_cat x_aeq x_idxS x_un x_cvI x_idx x_idxA x_fld x_ld x_st x_nn x_prt x_slc x_mk x_bsl x_bld x_box x_alloc x_len x_capo x_mnx x_app x_cpy x_mkf x_ext x_call x_callV x_bad s_none s_some s_nil s_cons s_chks w_skip w_reg tP_fin tP_no tP_alt w_seq w_cond w_block w_exit w_ret t_normal t_exit t_ret b_normal b_ret b_exit n_normal n_exit n_ret p_normal p_ret f_nil f_t f_c k_ops k_chk k_fin
attribute [local go_sem] e_t e_c e_f u_some u_none u_at env_at k_v k_pick k_add k_sub k_mul k_quo k_rem k_and k_or k_xor k_shl k_shr k_eql k_neq k_lss k_leq k_gtr k_geq k_beq k_peqn k_peqs k_neg k_not k_com k_cvI k_idxS k_idx k_idxA k_idxG k_ldG k_gld k_seq k_cat k_aeq k_eqs k_fld k_ld1 k_ldn k_get k_gets k_sti k_stb k_stp k_sts k_stf k_sta k_put k_nn k_prt1 k_prtn k_slc_a k_slc_b k_slc_c k_mk k_agg k_bsl k_box k_len k_lenS k_cap k_max k_min k_ext k_callV k_true k_false k_gtt k_gtf k_gft k_gsk k_gff k_lit1i k_lit2i k_lit3i k_c0 k_c1 k_ck List.getElem?_cons_zero List.getElem?_cons_succ List.getElem?_nil Option.getD_some Option.getD_none tupOf List.map_cons List.map_nil Option.map_some Option.map_none List.nil_append List.cons_append List.append_nil Nat.mul_one Int.toNat_natCast Nat.zero_add
theorem getD_lt {B : Nat} (hB : 0 < B) {xs : List Nat} (hx : ∀ x ∈ xs, x < B) (i : Nat) : xs.getD i 0 < B := by
  rcases Nat.lt_or_ge i xs.length with hh | hh
  · rw [List.getD_eq_getElem?_getD, List.getElem?_eq_getElem hh]; exact hx _ (List.getElem_mem hh)
  · rw [List.getD_eq_getElem?_getD, List.getElem?_eq_none hh]; exact hB
theorem getD_ge {xs : List Nat} {i : Nat} (h : xs.length ≤ i) : xs.getD i 0 = 0 := by
  rw [List.getD_eq_getElem?_getD, List.getElem?_eq_none h]; rfl
theorem subU {a b : Nat} (hb : b ≤ a) (ha : a < 18446744073709551616) : IntKind.u64.wrap ((a : Int) - (b : Int)) = ((a - b : Nat) : Int) := by rw [wU] <;> omega
theorem mem_snoc_lt {B y : Nat} {xs : List Nat} (h : ∀ x ∈ xs, x < B) (hy : y < B) : ∀ x ∈ xs ++ [y], x < B := by
  intro z hz
  rcases List.mem_append.1 hz with hz | hz
  · exact h z hz
  · simp only [List.mem_cons, List.not_mem_nil, or_false] at hz
    omega
theorem sub_end {B : Nat} (hB : 0 < B) {out xs ys : List Nat} {c : Nat} (ho : ∀ x ∈ out, x < B) (hl : out.length = xs.length) (hy : val B ys ≤ val B xs) (hv : val B out + val B (ys.take xs.length) = val B xs + B ^ xs.length * c) (hyl : ys.length ≤ xs.length) : val B out = val B xs - val B ys := by
  rw [List.take_of_length_le hyl] at hv
  have h1 := val_lt B hB out ho
  rw [hl] at h1
  rcases Nat.eq_zero_or_pos c with h0 | h0
  · subst h0; omega
  · have : B ^ xs.length * 1 ≤ B ^ xs.length * c := Nat.mul_le_mul_left _ h0
    omega
theorem len_le_of_val {B : Nat} (hB : 1 < B) {xs ys : List Nat} (hx : ∀ x ∈ xs, x < B) (hy : ∀ x, ys.getLast? = some x → x ≠ 0) (h : val B ys ≤ val B xs) : ys.length ≤ xs.length := by
  rcases Nat.lt_or_ge xs.length ys.length with h1 | h1
  · have := digits_lt_iff B hB hx hy h1
    omega
  · exact h1
theorem rSub_calls {v u : AV} {x y : Nat} {h : H} {K : AV → H → Prop} (nv : Num 4294967296 h v x) (nu : Num 4294967296 h u y) (hx : Big x) (hyx : y ≤ x)
    (hk : ∀ r h', h'.wf → h.le h' → Num 4294967296 h' r (x - y) → K r h') : ACalls Try.prog 99 [v, u] h K := by
  obtain ⟨ys, hu, hyd, hyt, rfl, hyl⟩ := nu.open (hx.le hyx)
  obtain ⟨xs, hv, hxd, hxt, rfl, hxl⟩ := nv.open hx
  obtain ⟨id, off, c, rfl⟩ := hv.form
  obtain ⟨id', off', c', rfl⟩ := hu.form
  have hlen := len_le_of_val (by omega) hxd hyt hyx
  refine in_ref02_Sub (by simp) fun hw => ?_
  unfold c_ref02_Sub
  simp only [go_sem, ↓reduceIte, Nat.reduceEqDiff, Nat.reduceAdd, Bool.false_eq_true, Int.reduceToNat]
  refine ⟨by omega, by omega, by omega, ?_⟩
  refine for_rule (fun i ρ h' => i ≤ xs.length ∧ h'.wf ∧ h.le h' ∧ ρ 0 = .sl id off xs.length c ∧ ρ 1 = .sl id' off' ys.length c' ∧ ρ 7 = .int .i64 (i : Int) ∧ ∃ out cc, ρ 6 = .int .u64 (cc : Nat) ∧ cc ≤ 1 ∧ IsG h.next h' (ρ 5) out ∧ (∀ x ∈ out, x < 4294967296) ∧ out.length = i ∧
    val 4294967296 out + val 4294967296 (ys.take i) = val 4294967296 (xs.take i) + 4294967296 ^ i * cc) xs.length ⟨by omega, H.wf_new hw _, H.le_new hw (H.le_refl h) _, rfl, rfl, rfl, [], 0, rfl, by omega, IsG.made0 (Nat.le_refl _) _, by simp, rfl, rfl⟩ (fun i ρ h hI => hI.1) ?_
  rintro i ρ h' ⟨hi, hw', hle, h0, h1, h7, out, cc, h6, hcc, hs, hod, hol, hov⟩
  have e7 := incI (i := i) (by omega)
  rcases Nat.lt_or_ge i xs.length with hxi | hxi
  · simp only [go_sem, ↓reduceIte, Nat.reduceEqDiff, Nat.reduceAdd, Bool.false_eq_true, Int.reduceToNat, h0, h1, h6, h7, ltT hxi]
    refine cond_cut (fun ρ' h2 => h2 = h' ∧ ρ' 0 = .sl id off xs.length c ∧ ρ' 1 = .sl id' off' ys.length c' ∧ ρ' 7 = .int .i64 (i : Int) ∧ ρ' 5 = ρ 5 ∧ ρ' 8 = .int .u64 ((cc + ys.getD i 0 : Nat) : Int)) ?_ ?_
    · rcases Nat.lt_or_ge i ys.length with hyi | hyi
      · obtain ⟨j', rfl, _, hg'⟩ := (hu.mono hle).at hyi
        have hyb := hyd _ (List.getElem_mem hyi)
        rw [getD_at hyi]
        generalize ys[i] = q at *
        simp only [go_sem, ↓reduceIte, Nat.reduceEqDiff, Nat.reduceAdd, Bool.false_eq_true, Int.reduceToNat, h0, h1, h7, ltT hyi]
        refine ⟨by omega, by omega, ?_⟩
        simp only [go_sem, ↓reduceIte, Nat.reduceEqDiff, Nat.reduceAdd, Bool.false_eq_true, Int.reduceToNat, hg', h0, h1, h7, addU (a := cc) (b := q) (by omega)]
        exact ⟨trivial, trivial, trivial, trivial, trivial, trivial⟩
      · rw [getD_ge hyi]
        simp only [go_sem, ↓reduceIte, Nat.reduceEqDiff, Nat.reduceAdd, Bool.false_eq_true, Int.reduceToNat, h0, h1, h7, ltF hyi]
        exact ⟨trivial, trivial, trivial, trivial, trivial, rfl⟩
    · rintro ρ' h2 ⟨rfl, h0, h1, h7, h5, h8⟩
      have hyb := getD_lt (by omega) hyd i
      have hxb := hxd _ (List.getElem_mem hxi)
      have hvx := val_take_succ 4294967296 xs i hxi
      have hvy := val_take_get 4294967296 ys i
      obtain ⟨j, rfl, _, hg⟩ := (hv.mono hle).at hxi
      generalize ys.getD i 0 = q at *
      generalize xs[i] = p at *
      rw [← h5] at hs
      have fin : ∀ d c2 : Nat, p + 4294967296 * c2 = d + (cc + q) → val 4294967296 (out ++ [d]) + val 4294967296 (ys.take (i + 1)) = val 4294967296 (xs.take (i + 1)) + 4294967296 ^ (i + 1) * c2 := by
        intro d c2 e
        rw [val_snoc, hvx, hvy, hol, Nat.pow_succ, Nat.mul_assoc]
        have e2 := congrArg (fun z => 4294967296 ^ i * z) e
        simp only [Nat.mul_add] at e2
        omega
      simp only [go_sem, ↓reduceIte, Nat.reduceEqDiff, Nat.reduceAdd, Bool.false_eq_true, Int.reduceToNat, h0, h1, h7, h8]
      refine ⟨by omega, by omega, ?_⟩
      rcases Nat.lt_or_ge p (cc + q) with hc | hc
      · simp only [go_sem, ↓reduceIte, Nat.reduceEqDiff, Nat.reduceAdd, Bool.false_eq_true, Int.reduceToNat, h0, h1, h7, h8, hg, leF hc, leT hc]
        refine ⟨by omega, by omega, ?_⟩
        have w1 : IntKind.u64.wrap ((p : Int) + 4294967296) = ((p + 4294967296 : Nat) : Int) := by rw [wU] <;> omega
        simp only [go_sem, ↓reduceIte, Nat.reduceEqDiff, Nat.reduceAdd, Bool.false_eq_true, Int.reduceToNat, h0, h1, h7, h8, hg, w1, subU (a := p + 4294967296) (b := cc + q) (by omega) (by omega)]
        refine app_lit [p + 4294967296 - (cc + q)] hw hw' hle hs rfl rfl (by simp; omega) fun v' h3 hw3 hle3 hv3 => ?_
        simp only [go_sem, ↓reduceIte, Nat.reduceEqDiff, Nat.reduceAdd, Bool.false_eq_true, Int.reduceToNat, h0, h1, h7, h8, e7]
        exact ⟨by omega, hw3, hle3, trivial, trivial, trivial, _, 1, rfl, by omega, hv3, mem_snoc_lt hod (by omega), by simp; omega, fin _ _ (by omega)⟩
      · simp only [go_sem, ↓reduceIte, Nat.reduceEqDiff, Nat.reduceAdd, Bool.false_eq_true, Int.reduceToNat, h0, h1, h7, h8, hg, leT hc]
        refine ⟨by omega, by omega, ?_⟩
        simp only [go_sem, ↓reduceIte, Nat.reduceEqDiff, Nat.reduceAdd, Bool.false_eq_true, Int.reduceToNat, h0, h1, h7, h8, hg, subU (a := p) (b := cc + q) (by omega) (by omega)]
        refine app_lit [p - (cc + q)] hw hw' hle hs rfl rfl (by simp; omega) fun v' h3 hw3 hle3 hv3 => ?_
        simp only [go_sem, ↓reduceIte, Nat.reduceEqDiff, Nat.reduceAdd, Bool.false_eq_true, Int.reduceToNat, h0, h1, h7, h8, e7]
        exact ⟨by omega, hw3, hle3, trivial, trivial, trivial, _, 0, rfl, by omega, hv3, mem_snoc_lt hod (by omega), by simp; omega, fin _ _ (by omega)⟩
  · have : i = xs.length := by omega
    subst this
    simp only [go_sem, ↓reduceIte, Nat.reduceEqDiff, Nat.reduceAdd, Bool.false_eq_true, Int.reduceToNat, h0, h1, h6, h7, ltF (Nat.le_refl xs.length)]
    rw [List.take_length] at hov
    refine norm_num hs.isN hod (by omega) fun r hr => ?_
    simp only [go_sem, ↓reduceIte, Nat.reduceEqDiff, Nat.reduceAdd, Bool.false_eq_true, Int.reduceToNat]
    intro _
    rw [sub_end (by omega) hod hol hyx hov hlen] at hr
    exact hk r h' hw' hle hr
theorem shlS {x n : Nat} (hn : n ≤ 64) (h : x * 2 ^ n < 18446744073709551616) : bShl .u64 (x : Int) n = ((x * 2 ^ n : Nat) : Int) := by
  unfold bShl
  rw [show IntKind.u64.bits = 64 from rfl, Nat.min_eq_left hn, show ((x : Int) * 2 ^ n) = ((x * 2 ^ n : Nat) : Int) by simp]
  exact wUn h
theorem pow31 {r : Nat} (h : r < 32) : 2 ^ r ≤ 2147483648 := by
  have := Nat.pow_le_pow_right (n := 2) (by omega) (show r ≤ 31 by omega)
  simpa using this
theorem shr_digit {r f g : Nat} (hr : r < 32) (hf : f < 4294967296) (hg : g < 4294967296) : 2 ^ r * (f / 2 ^ r + g * 2 ^ (32 - r) % 4294967296) + f % 2 ^ r = f + 4294967296 * (g % 2 ^ r) ∧ f / 2 ^ r + g * 2 ^ (32 - r) % 4294967296 < 4294967296 := by
  have hp : 0 < 2 ^ r := Nat.pow_pos (by omega)
  have e : 4294967296 = 2 ^ r * 2 ^ (32 - r) := by rw [← Nat.pow_add, show r + (32 - r) = 32 from by omega]
  have e1 : g * 2 ^ (32 - r) % 4294967296 = g % 2 ^ r * 2 ^ (32 - r) := by rw [e, Nat.mul_mod_mul_right]
  have e2 := Nat.div_add_mod f (2 ^ r)
  have e3 : 2 ^ r * (g % 2 ^ r * 2 ^ (32 - r)) = 4294967296 * (g % 2 ^ r) := by rw [e, Nat.mul_comm (g % 2 ^ r), Nat.mul_assoc]
  have hm := Nat.mod_lt g hp
  rw [e1]
  refine ⟨by rw [Nat.mul_add, e3]; omega, ?_⟩
  have h1 : f / 2 ^ r < 2 ^ (32 - r) := by
    rw [Nat.div_lt_iff_lt_mul hp, Nat.mul_comm, ← e]
    exact hf
  have h2 : (g % 2 ^ r + 1) * 2 ^ (32 - r) ≤ 2 ^ r * 2 ^ (32 - r) := Nat.mul_le_mul_right _ hm
  rw [← e, Nat.add_mul, Nat.one_mul] at h2
  omega
end Ab
end Go.Proofs.Ytnmnkocibjdhjaa
namespace Go.Proofs.Ytnmnkocibjdhjaa
namespace Ab
open Go Go.RowKit
set_option linter.unusedSimpArgs false
set_option linter.unusedVariables false
attribute [local go_sem ↓] x_mv x_pick x_bin x_beq x_peq x_seq x_cat x_aeq x_idxS x_un x_cvI x_idx x_idxA x_fld x_ld x_st x_nn x_prt x_slc x_mk x_bsl x_bld x_box x_alloc x_len x_capo x_mnx x_app x_cpy x_mkf x_ext x_call x_callV x_bad s_none s_some s_nil s_cons s_chks w_skip w_reg tP_fin tP_no tP_alt w_seq w_cond w_block w_exit w_ret t_normal t_exit t_ret b_normal b_ret b_exit n_normal n_exit n_ret p_normal p_ret f_nil f_t f_c k_ops k_chk k_fin
attribute [local go_sem] e_t e_c e_f u_some u_none u_at env_at k_v k_pick k_add k_sub k_mul k_quo k_rem k_and k_or k_xor k_shl k_shr k_eql k_neq k_lss k_leq k_gtr k_geq k_beq k_peqn k_peqs k_neg k_not k_com k_cvI k_idxS k_idx k_idxA k_idxG k_ldG k_gld k_seq k_cat k_aeq k_eqs k_fld k_ld1 k_ldn k_get k_gets k_sti k_stb k_stp k_sts k_stf k_sta k_put k_nn k_prt1 k_prtn k_slc_a k_slc_b k_slc_c k_mk k_agg k_bsl k_box k_len k_lenS k_cap k_max k_min k_ext k_callV k_true k_false k_gtt k_gtf k_gft k_gsk k_gff k_lit1i k_lit2i k_lit3i k_c0 k_c1 k_ck List.getElem?_cons_zero List.getElem?_cons_succ List.getElem?_nil Option.getD_some Option.getD_none tupOf List.map_cons List.map_nil Option.map_some Option.map_none List.nil_append List.cons_append List.append_nil Nat.mul_one Int.toNat_natCast Nat.zero_add
def Dig (xs : List Nat) : Prop := ∀ x ∈ xs, x < 18446744073709551616
/-- None on top is nought. -/
def Top (xs : List Nat) : Prop := ∀ x, xs.getLast? = some x → x ≠ 0
/-- How many words a number has. -/
def wlen (x : Nat) : Nat := if x = 0 then 0 else Nat.log2 x / 64 + 1
theorem pow64 (k : Nat) : 18446744073709551616 ^ k = 2 ^ (64 * k) := by rw [Nat.pow_mul]
theorem wlen_le {x k : Nat} : wlen x ≤ k ↔ x < 18446744073709551616 ^ k := by
  unfold wlen
  split
  · rename_i h
    subst h
    exact ⟨fun _ => Nat.pow_pos (by omega), fun _ => Nat.zero_le k⟩
  · rename_i h
    rw [pow64, ← Nat.log2_lt h]
    omega
theorem lt_wlen {x k : Nat} : k < wlen x ↔ 18446744073709551616 ^ k ≤ x := by
  have := wlen_le (x := x) (k := k)
  omega
theorem wlen_lt (x : Nat) : x < 18446744073709551616 ^ wlen x := wlen_le.1 (Nat.le_refl _)
theorem wlen_zero : wlen 0 = 0 := rfl
theorem wlen_eq_zero {x : Nat} : wlen x = 0 ↔ x = 0 := by
  have := wlen_le (x := x) (k := 0)
  rw [Nat.pow_zero] at this
  omega
theorem wlen_mono {x y : Nat} (h : x ≤ y) : wlen x ≤ wlen y := wlen_le.2 (Nat.lt_of_le_of_lt h (wlen_lt y))
/-- How many words a number may have that is big. -/
def wordL : Nat := 500000
theorem wordL_eq : wordL = 500000 := rfl
theorem wlen_big {x : Nat} (h : Big x) : wlen x ≤ wordL := wlen_le.2 (by
  have h1 := h.lt
  have e : bigL = 2 * wordL := rfl
  have e2 : 4294967296 ^ 2 = 18446744073709551616 := by decide
  rw [e, Nat.pow_mul, e2] at h1
  exact h1)
theorem IsG.lit {b : Nat} {h : H} (hb : b ≤ h.next) {l : List AV} (ys : List Nat) {n : Nat} (hn : n = ys.length) (hl : l = W .u64 (ys.map fun n : Nat => (n : Int))) : IsG b (h.new ⟨some 23, 1, l⟩) (.sl (some h.next) 0 n (some n)) ys := by
  subst hn
  refine ⟨some h.next, some ys.length, by simp, .inr ⟨h.next, _, rfl, hb, H.rows_new _ _, rfl, rfl, ?_, ?_⟩⟩
  · rw [hl]; simp [W]
  · rw [hl]; exact W_all _ _
theorem top_len {xs : List Nat} (hd : Dig xs) (ht : Top xs) : xs.length = wlen (val 18446744073709551616 xs) := by
  have h1 : wlen (val 18446744073709551616 xs) ≤ xs.length := wlen_le.2 (val_lt 18446744073709551616 (by omega) xs hd)
  rcases List.eq_nil_or_concat xs with rfl | ⟨ys, y, e⟩
  · rfl
  · have h2 := val_ge 18446744073709551616 xs ht (by rw [e]; simp)
    have h3 := lt_wlen.2 h2
    have : 0 < xs.length := by rw [e]; simp
    omega
theorem top_inj {xs ys : List Nat} (hx : Dig xs) (hy : Dig ys) (tx : Top xs) (ty : Top ys) (h : val 18446744073709551616 xs = val 18446744073709551616 ys) : xs = ys := val_inj 18446744073709551616 (by omega) xs ys (by rw [top_len hx tx, top_len hy ty, h]) hx hy h
/-- A row that reads asx a number; there may be noughts on top. -/
def Nn (h : H) (v : AV) (x : Nat) : Prop := ∃ xs, IsN h v xs ∧ Dig xs ∧ xs.length ≤ 1099511627776 ∧ val 18446744073709551616 xs = x
/-- A number of the call's own, without noughts on top. -/
def Nf (b : Nat) (h : H) (v : AV) (x : Nat) : Prop := ∃ xs, IsG b h v xs ∧ Dig xs ∧ Top xs ∧ val 18446744073709551616 xs = x
/-- A number without noughts on top. -/
def Nt (h : H) (v : AV) (x : Nat) : Prop := ∃ xs, IsN h v xs ∧ Dig xs ∧ Top xs ∧ val 18446744073709551616 xs = x
theorem Nn.mono {h h' : H} {v : AV} {x : Nat} (hv : Nn h v x) (hl : h.le h') : Nn h' v x := by
  obtain ⟨xs, h1, h2⟩ := hv
  exact ⟨xs, h1.mono hl, h2⟩
theorem Nf.mono {b : Nat} {h h' : H} {v : AV} {x : Nat} (hv : Nf b h v x) (hl : h.le h') : Nf b h' v x := by
  obtain ⟨xs, h1, h2⟩ := hv
  exact ⟨xs, h1.mono hl, h2⟩
theorem Nt.mono {h h' : H} {v : AV} {x : Nat} (hv : Nt h v x) (hl : h.le h') : Nt h' v x := by
  obtain ⟨xs, h1, h2⟩ := hv
  exact ⟨xs, h1.mono hl, h2⟩
theorem Nf.base {b b' : Nat} {h : H} {v : AV} {x : Nat} (hv : Nf b h v x) (hb : b' ≤ b) : Nf b' h v x := by
  obtain ⟨xs, h1, h2⟩ := hv
  exact ⟨xs, IsF.base h1 hb, h2⟩
theorem Nf.nt {b : Nat} {h : H} {v : AV} {x : Nat} (hv : Nf b h v x) : Nt h v x := by
  obtain ⟨xs, h1, h2⟩ := hv
  exact ⟨xs, h1.isN, h2⟩
theorem Nt.nn {h : H} {v : AV} {x : Nat} (hv : Nt h v x) (hx : Big x) : Nn h v x := by
  obtain ⟨xs, h1, h2, h3, h4⟩ := hv
  refine ⟨xs, h1, h2, ?_, h4⟩
  rw [top_len h2 h3, h4]
  have := wlen_big hx
  have := wordL_eq
  omega
theorem Nf.nn {b : Nat} {h : H} {v : AV} {x : Nat} (hv : Nf b h v x) (hx : Big x) : Nn h v x := hv.nt.nn hx
theorem Nf.nil (b : Nat) (h : H) (c : Option Nat) : Nf b h (.sl none 0 0 c) 0 := ⟨[], IsF.nil _ _ _ _ _, by simp [Dig], by simp [Top], rfl⟩
theorem IsN.nn {h : H} {v : AV} {xs : List Nat} (hv : IsN h v xs) (hd : Dig xs) (hl : xs.length ≤ 1099511627776) : Nn h v (val 18446744073709551616 xs) := ⟨xs, hv, hd, hl, rfl⟩
theorem Dig.take {xs : List Nat} (h : Dig xs) (n : Nat) : Dig (xs.take n) := fun x hx => h x (List.mem_of_mem_take hx)
theorem Dig.drop {xs : List Nat} (h : Dig xs) (n : Nat) : Dig (xs.drop n) := fun x hx => h x (List.mem_of_mem_drop hx)
theorem Dig.append {xs ys : List Nat} (h : Dig xs) (h' : Dig ys) : Dig (xs ++ ys) := fun x hx => by
  rcases List.mem_append.1 hx with hx | hx
  · exact h x hx
  · exact h' x hx
theorem Dig.nil : Dig [] := fun x hx => by simp at hx
theorem Dig.one {x : Nat} (h : x < 18446744073709551616) : Dig [x] := fun y hy => by simp at hy; omega
theorem Dig.zeros (n : Nat) : Dig (List.replicate n 0) := fun x hx => by rw [List.eq_of_mem_replicate hx]; omega
theorem Dig.set {xs : List Nat} (h : Dig xs) (i : Nat) {x : Nat} (hx : x < 18446744073709551616) : Dig (xs.set i x) := fun y hy => by
  rcases List.mem_or_eq_of_mem_set hy with hy | hy
  · exact h y hy
  · omega
theorem Len_calls {v : AV} {xs : List Nat} {h : H} {K : AV → H → Prop} (hv : IsN h v xs) (hd : Dig xs) (hlen : xs.length < 4611686018427387904) (hk : K (.int .i64 (wlen (val 18446744073709551616 xs) : Nat)) h) : ACalls Try.prog 71 [v] h K := by
  obtain ⟨id, off, c, rfl⟩ := hv.form
  refine in_api_Nat_Len (by simp) fun hw => ?_
  unfold c_api_Nat_Len
  simp only [go_sem, ↓reduceIte, Nat.reduceEqDiff, Nat.reduceAdd, Bool.false_eq_true, Int.reduceToNat]
  refine ⟨fun n ρ h' => h' = h ∧ ρ 0 = .sl id off xs.length c ∧ ρ 3 = .int .i64 (n : Int) ∧ n ≤ xs.length ∧ (∀ x ∈ xs.drop n, x = 0), xs.length, ⟨rfl, rfl, rfl, Nat.le_refl _, by simp⟩, ?_⟩
  rintro k ρ h' ⟨rfl, h0, h3, hk1, hz⟩
  have fin : Top (xs.take k) → K (.int .i64 (k : Int)) h' := fun hl => by
    have e := top_len (hd.take k) hl
    rw [val_take 18446744073709551616 xs k hz, List.length_take, Nat.min_eq_left hk1] at e
    rw [e]
    exact hk
  rcases Nat.eq_zero_or_pos k with rfl | hp
  · have hd : decide ((0 : Int) < ((0 : Nat) : Int)) = false := by decide
    simp only [go_sem, ↓reduceIte, Nat.reduceEqDiff, Nat.reduceAdd, Bool.false_eq_true, Int.reduceToNat, h0, h3, hd]
    exact fun _ => fin (by simp [Top])
  · have hd : decide ((0 : Int) < (k : Int)) = true := by simp; omega
    obtain ⟨i, rfl, _, hg⟩ := hv.at (j := k - 1) (by omega)
    have hw1 : IntKind.i64.wrap ((k : Int) - 1) = ((k - 1 : Nat) : Int) := by rw [wI] <;> omega
    simp only [go_sem, ↓reduceIte, Nat.reduceEqDiff, Nat.reduceAdd, Bool.false_eq_true, Int.reduceToNat, h0, h3, hd, hw1]
    refine ⟨by omega, by omega, ?_⟩
    simp only [go_sem, ↓reduceIte, Nat.reduceEqDiff, Nat.reduceAdd, Bool.false_eq_true, Int.reduceToNat, Int.toNat_natCast, Nat.mul_one, hg]
    by_cases hx : xs[k - 1] = 0
    · have he : (((xs[k - 1] : Nat) : Int) == 0) = true := by simp [hx]
      simp only [go_sem, ↓reduceIte, Nat.reduceEqDiff, Nat.reduceAdd, Bool.false_eq_true, Int.reduceToNat, h0, h3, he, hw1]
      refine ⟨k - 1, by omega, by simp, by simp, by simp, by omega, fun x hm => ?_⟩
      rw [List.drop_eq_getElem_cons (by omega)] at hm
      rcases List.mem_cons.1 hm with rfl | hm
      · exact hx
      · exact hz x (by rwa [show k - 1 + 1 = k from by omega] at hm)
    · have he : (((xs[k - 1] : Nat) : Int) == 0) = false := by simp; omega
      simp only [go_sem, ↓reduceIte, Nat.reduceEqDiff, Nat.reduceAdd, Bool.false_eq_true, Int.reduceToNat, h0, h3, he]
      intro _
      refine fin fun x hl => ?_
      rw [List.getLast?_eq_getElem?, List.length_take, Nat.min_eq_left hk1, List.getElem?_take, if_pos (by omega), List.getElem?_eq_getElem (by omega)] at hl
      injection hl with hl
      omega
theorem top_cut {xs : List Nat} (hd : Dig xs) : Top (xs.take (wlen (val 18446744073709551616 xs))) ∧ val 18446744073709551616 (xs.take (wlen (val 18446744073709551616 xs))) = val 18446744073709551616 xs := by
  generalize hn : wlen (val 18446744073709551616 xs) = n
  have h1 := wlen_lt (val 18446744073709551616 xs)
  rw [hn] at h1
  have hle : n ≤ xs.length := by rw [← hn]; exact wlen_le.2 (val_lt 18446744073709551616 (by omega) xs hd)
  have h2 := val_cut 18446744073709551616 xs n hle
  have h3 : val 18446744073709551616 (xs.drop n) = 0 := by
    rcases Nat.eq_zero_or_pos (val 18446744073709551616 (xs.drop n)) with h0 | h0
    · exact h0
    · have : 18446744073709551616 ^ n * 1 ≤ 18446744073709551616 ^ n * val 18446744073709551616 (xs.drop n) := Nat.mul_le_mul_left _ h0
      omega
  have h4 : val 18446744073709551616 (xs.take n) = val 18446744073709551616 xs := by rw [h2, h3]; simp
  refine ⟨fun x hx h0 => ?_, h4⟩
  subst h0
  rw [List.getLast?_eq_getElem?, List.length_take, Nat.min_eq_left hle] at hx
  have hn0 : 0 < n := by
    rcases Nat.eq_zero_or_pos n with h0 | h0
    · subst h0; simp at hx
    · exact h0
  have h5 := lt_wlen (x := val 18446744073709551616 xs) (k := n - 1) |>.1 (by omega)
  have h6 : (xs.take n).take (n - 1) = xs.take (n - 1) := by rw [List.take_take, Nat.min_eq_left (by omega)]
  have h7 := val_take 18446744073709551616 (xs.take n) (n - 1) (fun x hm => by
    rw [List.drop_eq_getElem_cons (by simp; omega)] at hm
    rcases List.mem_cons.1 hm with rfl | hm
    · have := (List.getElem?_eq_some_iff.1 hx).2
      exact this
    · rw [List.drop_of_length_le (by simp; omega)] at hm
      simp at hm)
  rw [h6, h4] at h7
  have h8 := val_lt 18446744073709551616 (by omega) (xs.take (n - 1)) (hd.take _)
  rw [List.length_take, Nat.min_eq_left (by omega)] at h8
  omega
theorem wlen_len {xs : List Nat} (hd : Dig xs) : wlen (val 18446744073709551616 xs) ≤ xs.length := wlen_le.2 (val_lt 18446744073709551616 (by omega) xs hd)
theorem trim_calls {v : AV} {xs : List Nat} {h : H} {K : AV → H → Prop} (hv : IsN h v xs) (hd : Dig xs) (hlen : xs.length < 4611686018427387904) (hk : ∀ r, IsN h r (xs.take (wlen (val 18446744073709551616 xs))) → K r h) : ACalls Try.prog 108 [v] h K := by
  obtain ⟨id, off, c, rfl⟩ := hv.form
  refine in_limb_trim (by simp) fun hw => ?_
  unfold c_limb_trim
  simp only [go_sem, ↓reduceIte, Nat.reduceEqDiff, Nat.reduceAdd, Bool.false_eq_true, Int.reduceToNat]
  refine Len_calls hv hd hlen ?_
  have := wlen_len hd
  simp only [go_sem, ↓reduceIte, Nat.reduceEqDiff, Nat.reduceAdd, Bool.false_eq_true, Int.reduceToNat]
  exact ⟨by omega, by omega, hv.row, fun _ => hk _ (hv.take (by omega))⟩
theorem trimT_calls {v : AV} {x : Nat} {h : H} {K : AV → H → Prop} (hv : Nn h v x) (hk : ∀ r xs, IsN h r xs → Dig xs → Top xs → val 18446744073709551616 xs = x → xs.length = wlen x → xs.length ≤ 1099511627776 → K r h) : ACalls Try.prog 108 [v] h K := by
  obtain ⟨xs, h1, h2, h3, rfl⟩ := hv
  refine trim_calls h1 h2 (by omega) fun r hr => ?_
  have e := top_cut h2
  have hl := wlen_len h2
  exact hk r _ hr (h2.take _) e.1 e.2 (by rw [List.length_take]; omega) (by rw [List.length_take]; omega)
theorem trimG_calls {b : Nat} {v : AV} {xs : List Nat} {h : H} {K : AV → H → Prop} (hv : IsG b h v xs) (hd : Dig xs) (hlen : xs.length < 4611686018427387904) (hk : ∀ r, Nf b h r (val 18446744073709551616 xs) → K r h) : ACalls Try.prog 108 [v] h K := by
  obtain ⟨id, c, rfl⟩ := hv.form
  refine in_limb_trim (by simp) fun hw => ?_
  unfold c_limb_trim
  simp only [go_sem, ↓reduceIte, Nat.reduceEqDiff, Nat.reduceAdd, Bool.false_eq_true, Int.reduceToNat]
  refine Len_calls hv.isN hd hlen ?_
  have := wlen_len hd
  have e := top_cut hd
  simp only [go_sem, ↓reduceIte, Nat.reduceEqDiff, Nat.reduceAdd, Bool.false_eq_true, Int.reduceToNat]
  refine ⟨by omega, by omega, hv.isN.row, fun _ => hk _ ⟨xs.take (wlen (val 18446744073709551616 xs)), ?_, hd.take _, e.1, e.2⟩⟩
  have := IsF.cut (c' := c) hv (m := wlen (val 18446744073709551616 xs)) (by simpa using wlen_len hd)
  unfold IsG
  rw [List.map_take]
  exact this
theorem Zero_calls {v : AV} {x : Nat} {h : H} {K : AV → H → Prop} (hv : Nn h v x) (hk : K (.bool (decide (x = 0))) h) : ACalls Try.prog 86 [v] h K := by
  obtain ⟨xs, h1, h2, h3, rfl⟩ := hv
  refine in_api_Nat_Zero (by simp) fun hw => ?_
  unfold c_api_Nat_Zero
  simp only [go_sem, ↓reduceIte, Nat.reduceEqDiff, Nat.reduceAdd, Bool.false_eq_true, Int.reduceToNat]
  refine Len_calls h1 h2 (by omega) ?_
  have e : (((wlen (val 18446744073709551616 xs) : Nat) : Int) == 0) = decide (val 18446744073709551616 xs = 0) := by
    by_cases h0 : val 18446744073709551616 xs = 0
    · rw [decide_eq_true h0, h0]; rfl
    · rw [decide_eq_false h0]
      have := mt wlen_eq_zero.1 h0
      exact eqF (by omega)
  simp only [go_sem, ↓reduceIte, Nat.reduceEqDiff, Nat.reduceAdd, Bool.false_eq_true, Int.reduceToNat, e]
  exact fun _ => hk
theorem Norm_calls {v : AV} {x : Nat} {h : H} {K : AV → H → Prop} (hv : Nn h v x) (hk : ∀ r h', h'.wf → h.le h' → Nf h.next h' r x → K r h') : ACalls Try.prog 72 [v] h K := by
  refine in_limb_Norm (by simp) fun hw => ?_
  unfold c_limb_Norm
  simp only [go_sem, ↓reduceIte, Nat.reduceEqDiff, Nat.reduceAdd, Bool.false_eq_true, Int.reduceToNat]
  refine trimT_calls hv fun r xs hr hd ht hx hl hb => ?_
  obtain ⟨id, off, c, rfl⟩ := hr.form
  simp only [go_sem, ↓reduceIte, Nat.reduceEqDiff, Nat.reduceAdd, Bool.false_eq_true, Int.reduceToNat]
  refine app_num (xs := []) hw hw (H.le_refl h) (IsF.nil _ _ _ _ _) hr (by rw [List.length_nil]; omega) fun s h' hw' hl' hs => ?_
  simp only [go_sem, ↓reduceIte, Nat.reduceEqDiff, Nat.reduceAdd, Bool.false_eq_true, Int.reduceToNat]
  exact fun _ => hk _ _ hw' hl' ⟨xs, by simpa using hs, hd, ht, hx⟩
theorem One_calls {x : Nat} {h : H} {K : AV → H → Prop} (hx : x < 18446744073709551616) (hk : ∀ r h', h'.wf → h.le h' → Nf h.next h' r x → K r h') : ACalls Try.prog 75 [.int .u64 (x : Int)] h K := by
  refine in_limb_One (by simp) fun hw => ?_
  unfold c_limb_One
  rcases Nat.eq_zero_or_pos x with h0 | h0
  · subst h0
    simp only [go_sem, ↓reduceIte, Nat.reduceEqDiff, Nat.reduceAdd, Bool.false_eq_true, Int.reduceToNat, eqT (show ((0 : Nat) : Int) = 0 from rfl)]
    exact fun _ => hk _ h hw (H.le_refl h) (Nf.nil _ _ _)
  · simp only [go_sem, ↓reduceIte, Nat.reduceEqDiff, Nat.reduceAdd, Bool.false_eq_true, Int.reduceToNat, eqF (show (x : Int) ≠ 0 by omega)]
    exact fun hw' => hk _ _ hw' (H.le_new hw (H.le_refl h) _) ⟨[x], IsG.lit (Nat.le_refl _) [x] rfl rfl, Dig.one hx, fun y hy => by simp at hy; omega, by simp [val]⟩
theorem within_limb {n : Nat} {m : Int} {h : H} {K : AV → H → Prop} (hn : (n : Int) ≤ m) (hk : K (.int .i64 (n : Int)) h) : ACalls Try.prog 110 [.int .i64 (n : Int), .int .i64 m] h K := by
  refine in_limb_within (by simp) fun hw => ?_
  unfold c_limb_within
  simp only [go_sem, ↓reduceIte, Nat.reduceEqDiff, Nat.reduceAdd, Bool.false_eq_true, Int.reduceToNat]
  have e : max (0 : Int) (min (n : Int) m) = (n : Int) := by omega
  rw [e]
  exact fun _ => hk
end Ab
end Go.Proofs.Ytnmnkocibjdhjaa
