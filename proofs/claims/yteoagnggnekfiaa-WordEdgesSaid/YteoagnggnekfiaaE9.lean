/- The naturals of the document: difference, shifts, the lower part. No condition. -/
import Derived.Test.YteoagnggnekfiaaE8
import Derived.Test.YteoagnggnekfiaaK1
namespace Go.Proofs.Yteoagnggnekfiaa
namespace Ab
open Go Go.RowKit
set_option linter.unusedSimpArgs false
set_option linter.unusedVariables false
attribute [local go_sem ↓] x_mv x_pick x_bin x_beq x_peq x_idxS x_un x_cvI x_idx x_idxA x_fld x_ld x_st x_nn x_prt x_slc x_mk x_bsl x_bld x_box x_alloc x_len x_capo x_mnx x_app x_cpy x_mkf x_ext x_call x_callV x_bad s_none s_some s_nil s_cons s_chks w_skip w_reg w_seq w_cond w_block w_exit w_ret t_normal t_exit t_ret b_normal b_ret b_exit n_normal n_exit n_ret p_normal p_ret f_nil f_t f_c k_ops k_chk k_fin
attribute [local go_sem] e_t e_c e_f u_some u_none u_at env_at k_v k_pick k_add k_sub k_mul k_quo k_rem k_and k_or k_xor k_shl k_shr k_eql k_neq k_lss k_leq k_gtr k_geq k_beq k_peqn k_peqs k_neg k_not k_com k_cvI k_idxS k_idx k_idxA k_fld k_ld1 k_ldn k_get k_gets k_sti k_stb k_stp k_sts k_stf k_sta k_put k_nn k_prt1 k_prtn k_slc_a k_slc_b k_slc_c k_mk k_agg k_bsl k_box k_len k_lenS k_cap k_max k_min k_ext k_callV k_true k_false k_gtt k_gtf k_gft k_gsk k_gff k_lit1i k_lit2i k_lit3i k_c0 k_c1 k_ck List.getElem?_cons_zero List.getElem?_cons_succ List.getElem?_nil Option.getD_some Option.getD_none tupOf List.map_cons List.map_nil Option.map_some Option.map_none List.nil_append List.cons_append List.append_nil Nat.mul_one Int.toNat_natCast Nat.zero_add
theorem getD_lt {B : Nat} (hB : 0 < B) {xs : List Nat} (hx : ∀ x ∈ xs, x < B) (i : Nat) : xs.getD i 0 < B := by
  rcases Nat.lt_or_ge i xs.length with hh | hh
  · rw [List.getD_eq_getElem?_getD, List.getElem?_eq_getElem hh]; exact hx _ (List.getElem_mem hh)
  · rw [List.getD_eq_getElem?_getD, List.getElem?_eq_none hh]; exact hB
theorem getD_ge {xs : List Nat} {i : Nat} (h : xs.length ≤ i) : xs.getD i 0 = 0 := by
  rw [List.getD_eq_getElem?_getD, List.getElem?_eq_none h]; rfl
theorem subU {a b : Nat} (hb : b ≤ a) (ha : a < 18446744073709551616) : IntKind.u64.wrap ((a : Int) - (b : Int)) = ((a - b : Nat) : Int) := by rw [wU] <;> omega
theorem leT {a b : Nat} (h : a ≤ b) : decide ((a : Int) ≤ (b : Int)) = true := by simp; omega
theorem leF {a b : Nat} (h : b < a) : decide ((a : Int) ≤ (b : Int)) = false := by simp; omega
theorem mem_snoc_lt {B y : Nat} {xs : List Nat} (h : ∀ x ∈ xs, x < B) (hy : y < B) : ∀ x ∈ xs ++ [y], x < B := by
  intro z hz
  rcases List.mem_append.1 hz with hz | hz
  · exact h z hz
  · simp only [List.mem_cons, List.not_mem_nil, or_false] at hz
    omega
theorem sub_end {B : Nat} (hB : 0 < B) {out xs ys : List Nat} {c : Nat} (ho : ∀ x ∈ out, x < B) (hl : out.length = xs.length) (hy : val B ys ≤ val B xs) (hv : val B out + val B (ys.take xs.length) = val B xs + B ^ xs.length * c) (hyl : ys.length ≤ xs.length) : val B out = val B xs - val B ys := by
  rw [List.take_of_length_le hyl] at hv
  have h1 := val_lt B hB out ho
  rw [hl] at h1
  rcases Nat.eq_zero_or_pos c with h0 | h0
  · subst h0; omega
  · have : B ^ xs.length * 1 ≤ B ^ xs.length * c := Nat.mul_le_mul_left _ h0
    omega
theorem len_le_of_val {B : Nat} (hB : 1 < B) {xs ys : List Nat} (hx : ∀ x ∈ xs, x < B) (hy : ∀ x, ys.getLast? = some x → x ≠ 0) (h : val B ys ≤ val B xs) : ys.length ≤ xs.length := by
  rcases Nat.lt_or_ge xs.length ys.length with h1 | h1
  · have := digits_lt_iff B hB hx hy h1
    omega
  · exact h1
theorem rSub_calls {v u : AV} {x y : Nat} {h : H} {K : AV → H → Prop} (nv : Num 4294967296 h v x) (nu : Num 4294967296 h u y) (hx : Big x) (hyx : y ≤ x)
    (hk : ∀ r h', h'.wf → h.le h' → Num 4294967296 h' r (x - y) → K r h') : ACalls Try.prog 76 [v, u] h K := by
  obtain ⟨ys, hu, hyd, hyt, rfl, hyl⟩ := nu.open (hx.le hyx)
  obtain ⟨xs, hv, hxd, hxt, rfl, hxl⟩ := nv.open hx
  obtain ⟨id, off, c, rfl⟩ := hv.form
  obtain ⟨id', off', c', rfl⟩ := hu.form
  have hlen := len_le_of_val (by omega) hxd hyt hyx
  refine in_ref02_Sub (by simp) fun hw => ?_
  unfold c_ref02_Sub
  simp only [go_sem, ↓reduceIte, Nat.reduceEqDiff, Nat.reduceAdd, Bool.false_eq_true, Int.reduceToNat]
  refine ⟨by omega, by omega, by omega, ?_⟩
  refine for_rule (fun i ρ h' => i ≤ xs.length ∧ h'.wf ∧ h.le h' ∧ ρ 0 = .sl id off xs.length c ∧ ρ 1 = .sl id' off' ys.length c' ∧ ρ 7 = .int .i64 (i : Int) ∧ ∃ out cc, ρ 6 = .int .u64 (cc : Nat) ∧ cc ≤ 1 ∧ IsG h.next h' (ρ 5) out ∧ (∀ x ∈ out, x < 4294967296) ∧ out.length = i ∧
    val 4294967296 out + val 4294967296 (ys.take i) = val 4294967296 (xs.take i) + 4294967296 ^ i * cc) xs.length ⟨by omega, H.wf_new hw _, H.le_new hw (H.le_refl h) _, rfl, rfl, rfl, [], 0, rfl, by omega, IsG.made0 (Nat.le_refl _) _, by simp, rfl, rfl⟩ (fun i ρ h hI => hI.1) ?_
  rintro i ρ h' ⟨hi, hw', hle, h0, h1, h7, out, cc, h6, hcc, hs, hod, hol, hov⟩
  have e7 := incI (i := i) (by omega)
  rcases Nat.lt_or_ge i xs.length with hxi | hxi
  · simp only [go_sem, ↓reduceIte, Nat.reduceEqDiff, Nat.reduceAdd, Bool.false_eq_true, Int.reduceToNat, h0, h1, h6, h7, ltT hxi]
    refine cond_cut (fun ρ' h2 => h2 = h' ∧ ρ' 0 = .sl id off xs.length c ∧ ρ' 1 = .sl id' off' ys.length c' ∧ ρ' 7 = .int .i64 (i : Int) ∧ ρ' 5 = ρ 5 ∧ ρ' 8 = .int .u64 ((cc + ys.getD i 0 : Nat) : Int)) ?_ ?_
    · rcases Nat.lt_or_ge i ys.length with hyi | hyi
      · obtain ⟨j', rfl, _, hg'⟩ := (hu.mono hle).at hyi
        have hyb := hyd _ (List.getElem_mem hyi)
        rw [getD_at hyi]
        generalize ys[i] = q at *
        simp only [go_sem, ↓reduceIte, Nat.reduceEqDiff, Nat.reduceAdd, Bool.false_eq_true, Int.reduceToNat, h0, h1, h7, ltT hyi]
        refine ⟨by omega, by omega, ?_⟩
        simp only [go_sem, ↓reduceIte, Nat.reduceEqDiff, Nat.reduceAdd, Bool.false_eq_true, Int.reduceToNat, hg', h0, h1, h7, addU (a := cc) (b := q) (by omega)]
        exact ⟨trivial, trivial, trivial, trivial, trivial, trivial⟩
      · rw [getD_ge hyi]
        simp only [go_sem, ↓reduceIte, Nat.reduceEqDiff, Nat.reduceAdd, Bool.false_eq_true, Int.reduceToNat, h0, h1, h7, ltF hyi]
        exact ⟨trivial, trivial, trivial, trivial, trivial, rfl⟩
    · rintro ρ' h2 ⟨rfl, h0, h1, h7, h5, h8⟩
      have hyb := getD_lt (by omega) hyd i
      have hxb := hxd _ (List.getElem_mem hxi)
      have hvx := val_take_succ 4294967296 xs i hxi
      have hvy := val_take_get 4294967296 ys i
      obtain ⟨j, rfl, _, hg⟩ := (hv.mono hle).at hxi
      generalize ys.getD i 0 = q at *
      generalize xs[i] = p at *
      rw [← h5] at hs
      have fin : ∀ d c2 : Nat, p + 4294967296 * c2 = d + (cc + q) → val 4294967296 (out ++ [d]) + val 4294967296 (ys.take (i + 1)) = val 4294967296 (xs.take (i + 1)) + 4294967296 ^ (i + 1) * c2 := by
        intro d c2 e
        rw [val_snoc, hvx, hvy, hol, Nat.pow_succ, Nat.mul_assoc]
        have e2 := congrArg (fun z => 4294967296 ^ i * z) e
        simp only [Nat.mul_add] at e2
        omega
      simp only [go_sem, ↓reduceIte, Nat.reduceEqDiff, Nat.reduceAdd, Bool.false_eq_true, Int.reduceToNat, h0, h1, h7, h8]
      refine ⟨by omega, by omega, ?_⟩
      rcases Nat.lt_or_ge p (cc + q) with hc | hc
      · simp only [go_sem, ↓reduceIte, Nat.reduceEqDiff, Nat.reduceAdd, Bool.false_eq_true, Int.reduceToNat, h0, h1, h7, h8, hg, leF hc, leT hc]
        refine ⟨by omega, by omega, ?_⟩
        have w1 : IntKind.u64.wrap ((p : Int) + 4294967296) = ((p + 4294967296 : Nat) : Int) := by rw [wU] <;> omega
        simp only [go_sem, ↓reduceIte, Nat.reduceEqDiff, Nat.reduceAdd, Bool.false_eq_true, Int.reduceToNat, h0, h1, h7, h8, hg, w1, subU (a := p + 4294967296) (b := cc + q) (by omega) (by omega)]
        refine app_lit [p + 4294967296 - (cc + q)] hw hw' hle hs rfl rfl (by simp; omega) fun v' h3 hw3 hle3 hv3 => ?_
        simp only [go_sem, ↓reduceIte, Nat.reduceEqDiff, Nat.reduceAdd, Bool.false_eq_true, Int.reduceToNat, h0, h1, h7, h8, e7]
        exact ⟨by omega, hw3, hle3, trivial, trivial, trivial, _, 1, rfl, by omega, hv3, mem_snoc_lt hod (by omega), by simp; omega, fin _ _ (by omega)⟩
      · simp only [go_sem, ↓reduceIte, Nat.reduceEqDiff, Nat.reduceAdd, Bool.false_eq_true, Int.reduceToNat, h0, h1, h7, h8, hg, leT hc]
        refine ⟨by omega, by omega, ?_⟩
        simp only [go_sem, ↓reduceIte, Nat.reduceEqDiff, Nat.reduceAdd, Bool.false_eq_true, Int.reduceToNat, h0, h1, h7, h8, hg, subU (a := p) (b := cc + q) (by omega) (by omega)]
        refine app_lit [p - (cc + q)] hw hw' hle hs rfl rfl (by simp; omega) fun v' h3 hw3 hle3 hv3 => ?_
        simp only [go_sem, ↓reduceIte, Nat.reduceEqDiff, Nat.reduceAdd, Bool.false_eq_true, Int.reduceToNat, h0, h1, h7, h8, e7]
        exact ⟨by omega, hw3, hle3, trivial, trivial, trivial, _, 0, rfl, by omega, hv3, mem_snoc_lt hod (by omega), by simp; omega, fin _ _ (by omega)⟩
  · have : i = xs.length := by omega
    subst this
    simp only [go_sem, ↓reduceIte, Nat.reduceEqDiff, Nat.reduceAdd, Bool.false_eq_true, Int.reduceToNat, h0, h1, h6, h7, ltF (Nat.le_refl xs.length)]
    rw [List.take_length] at hov
    refine norm_num hs.isN hod (by omega) fun r hr => ?_
    simp only [go_sem, ↓reduceIte, Nat.reduceEqDiff, Nat.reduceAdd, Bool.false_eq_true, Int.reduceToNat]
    intro _
    rw [sub_end (by omega) hod hol hyx hov hlen] at hr
    exact hk r h' hw' hle hr
theorem shlS {x n : Nat} (hn : n ≤ 64) (h : x * 2 ^ n < 18446744073709551616) : bShl .u64 (x : Int) n = ((x * 2 ^ n : Nat) : Int) := by
  unfold bShl
  rw [show IntKind.u64.bits = 64 from rfl, Nat.min_eq_left hn, show ((x : Int) * 2 ^ n) = ((x * 2 ^ n : Nat) : Int) by simp]
  exact wUn h
theorem pow31 {r : Nat} (h : r < 32) : 2 ^ r ≤ 2147483648 := by
  have := Nat.pow_le_pow_right (n := 2) (by omega) (show r ≤ 31 by omega)
  simpa using this
theorem rShl_calls {v : AV} {x n : Nat} {h : H} {K : AV → H → Prop} (nv : Num 4294967296 h v x) (hx : Big x) (hn : n ≤ 1048576)
    (hk : ∀ r h', h'.wf → h.le h' → Num 4294967296 h' r (x * 2 ^ n) → K r h') : ACalls Try.prog 77 [v, .int .i64 (n : Int)] h K := by
  obtain ⟨xs, hv, hxd, hxt, rfl, hxl⟩ := nv.open hx
  obtain ⟨id, off, c, rfl⟩ := hv.form
  refine in_ref02_Shl (by simp) fun hw => ?_
  unfold c_ref02_Shl
  rcases Nat.eq_zero_or_pos xs.length with h0 | hpos
  · have : xs = [] := List.eq_nil_of_length_eq_zero h0
    subst this
    have e : (((List.length ([] : List Nat) : Nat) : Int) == 0) = true := by simp
    simp only [go_sem, ↓reduceIte, Nat.reduceEqDiff, Nat.reduceAdd, Bool.false_eq_true, Int.reduceToNat, e]
    intro _
    refine hk _ h hw (H.le_refl h) ⟨[], IsN.nil h none, by simp, by simp, by simp [val]⟩
  · have e : ((xs.length : Int) == 0) = false := eqF (by omega)
    have e1 : IntKind.i64.wrap ((n / 32 : Nat) : Int) = ((n / 32 : Nat) : Int) := wI (by omega) (by omega)
    have e2 : IntKind.i64.wrap (((n / 32 : Nat) : Int) + (xs.length : Int)) = ((n / 32 + xs.length : Nat) : Int) := by rw [wI] <;> omega
    have e3 := incI (i := n / 32 + xs.length) (by omega)
    have e4 : ((n : Int)).tdiv 32 = ((n / 32 : Nat) : Int) := tdivN (b := 32)
    have e5 : ((n : Int)).tmod 32 = ((n % 32 : Nat) : Int) := tmodN (b := 32)
    simp only [go_sem, ↓reduceIte, Nat.reduceEqDiff, Nat.reduceAdd, Bool.false_eq_true, Int.reduceToNat, e, e1, e2, e3, e4]
    refine ⟨by omega, by omega, by omega, by omega, by omega, ?_⟩
    have hs0 := (IsG.made (b := h.next) (h := h) (Nat.le_refl _) (n / 32 + xs.length + 1))
    have hs1 : IsG h.next (h.new ⟨some 29, 1, zs [AV.int .u64 0] (n / 32 + xs.length + 1)⟩) (.sl (some h.next) 0 (n / 32) (some (n / 32 + xs.length + 1))) (List.replicate (n / 32) 0) := by
      have := IsF.cut (c' := some (n / 32 + xs.length + 1)) hs0 (m := n / 32) (by simp; omega)
      unfold IsG
      simpa [List.take_replicate, Nat.min_eq_left (show n / 32 ≤ n / 32 + xs.length + 1 by omega)] using this
    have hr := pow31 (Nat.mod_lt n (show 0 < 32 by omega))
    have hr0 : 0 < 2 ^ (n % 32) := Nat.pow_pos (by omega)
    refine for_rule (fun i ρ h' => i ≤ xs.length ∧ h'.wf ∧ h.le h' ∧ ρ 0 = .sl id off xs.length c ∧ ρ 1 = .int .i64 (n : Int) ∧ ρ 7 = .int .i64 (i : Int) ∧ ∃ out cc, ρ 6 = .int .u64 (cc : Nat) ∧ cc < 4294967296 ∧ IsG h.next h' (ρ 5) out ∧ (∀ x ∈ out, x < 4294967296) ∧ out.length = n / 32 + i ∧
      val 4294967296 out + 4294967296 ^ (n / 32 + i) * cc = 2 ^ (n % 32) * (4294967296 ^ (n / 32) * val 4294967296 (xs.take i))) xs.length ⟨by omega, H.wf_new hw _, H.le_new hw (H.le_refl h) _, rfl, rfl, rfl, List.replicate (n / 32) 0, 0, rfl, by omega, hs1, ?_, by simp, ?_⟩ (fun i ρ h hI => hI.1) ?_
    · intro z hz
      rw [List.mem_replicate] at hz
      omega
    · rw [val_zero 4294967296 _ (fun z hz => (List.mem_replicate.1 hz).2)]
      simp [val]
    rintro i ρ h' ⟨hi, hw', hle, h0, h1, h7, out, cc, h6, hcc, hs, hod, hol, hov⟩
    have e7 := incI (i := i) (by omega)
    rcases Nat.lt_or_ge i xs.length with hxi | hxi
    · have hxb := hxd _ (List.getElem_mem hxi)
      have hvx := val_take_succ 4294967296 xs i hxi
      obtain ⟨j, rfl, _, hg⟩ := (hv.mono hle).at hxi
      generalize xs[i] = p at *
      have hp : p * 2 ^ (n % 32) ≤ 4294967295 * 2147483648 := Nat.mul_le_mul (by omega) hr
      have e8 : IntKind.u64.wrap ((n % 32 : Nat) : Int) = ((n % 32 : Nat) : Int) := wUn (by omega)
      simp only [go_sem, ↓reduceIte, Nat.reduceEqDiff, Nat.reduceAdd, Bool.false_eq_true, Int.reduceToNat, h0, h1, h6, h7, ltT hxi, e5, e8]
      refine ⟨by omega, by omega, ?_⟩
      simp only [go_sem, ↓reduceIte, Nat.reduceEqDiff, Nat.reduceAdd, Bool.false_eq_true, Int.reduceToNat, h0, h1, h6, h7, hg, e5, e8]
      refine ⟨by omega, by omega, ?_⟩
      simp only [go_sem, ↓reduceIte, Nat.reduceEqDiff, Nat.reduceAdd, Bool.false_eq_true, Int.reduceToNat, Int.toNat_natCast, shlS (x := p) (n := n % 32) (by omega) (by omega), addU (a := cc) (b := p * 2 ^ (n % 32)) (by omega), rem32, quo32 (x := cc + p * 2 ^ (n % 32)) (by omega), h0, h1, h6, h7]
      refine ⟨by omega, ?_⟩
      refine app_lit [(cc + p * 2 ^ (n % 32)) % 4294967296] hw hw' hle hs rfl rfl (by simp; omega) fun v' h3 hw3 hle3 hv3 => ?_
      simp only [go_sem, ↓reduceIte, Nat.reduceEqDiff, Nat.reduceAdd, Bool.false_eq_true, Int.reduceToNat, quo32 (x := cc + p * 2 ^ (n % 32)) (by omega), h0, h1, h6, h7, e7]
      refine ⟨by omega, by omega, hw3, hle3, trivial, trivial, trivial, _, _, rfl, ?_, hv3, mem_snoc_lt hod (by omega), by simp; omega, ?_⟩
      · have h9 : p * 2 ^ (n % 32) ≤ 4294967295 * 2 ^ (n % 32) := Nat.mul_le_mul_right _ (by omega)
        omega
      · rw [val_snoc, hol, ← Nat.add_assoc, Nat.pow_succ, Nat.add_assoc, digit_snoc (by omega), Nat.mul_add, ← Nat.add_assoc, hov, hvx]
        rw [Nat.mul_add, Nat.mul_add, Nat.pow_add]
        congr 1
        ac_rfl
    · have : i = xs.length := by omega
      subst this
      simp only [go_sem, ↓reduceIte, Nat.reduceEqDiff, Nat.reduceAdd, Bool.false_eq_true, Int.reduceToNat, h0, h1, h6, h7, ltF (Nat.le_refl xs.length)]
      refine app_lit [cc] hw hw' hle hs rfl rfl (by simp; omega) fun v' h3 hw3 hle3 hv3 => ?_
      simp only [go_sem, ↓reduceIte, Nat.reduceEqDiff, Nat.reduceAdd, Bool.false_eq_true, Int.reduceToNat]
      refine norm_num hv3.isN (mem_snoc_lt hod hcc) (by simp; omega) fun r hr => ?_
      simp only [go_sem, ↓reduceIte, Nat.reduceEqDiff, Nat.reduceAdd, Bool.false_eq_true, Int.reduceToNat]
      intro _
      rw [val_snoc, hol, hov, List.take_length] at hr
      have : 2 ^ (n % 32) * (4294967296 ^ (n / 32) * val 4294967296 xs) = val 4294967296 xs * 2 ^ n := by
        rw [pow32, ← Nat.mul_assoc, ← Nat.pow_add, Nat.mul_comm]
        congr 2
        omega
      rw [this] at hr
      exact hk r h3 hw3 hle3 hr
theorem shr_digit {r f g : Nat} (hr : r < 32) (hf : f < 4294967296) (hg : g < 4294967296) : 2 ^ r * (f / 2 ^ r + g * 2 ^ (32 - r) % 4294967296) + f % 2 ^ r = f + 4294967296 * (g % 2 ^ r) ∧ f / 2 ^ r + g * 2 ^ (32 - r) % 4294967296 < 4294967296 := by
  have hp : 0 < 2 ^ r := Nat.pow_pos (by omega)
  have e : 4294967296 = 2 ^ r * 2 ^ (32 - r) := by rw [← Nat.pow_add, show r + (32 - r) = 32 from by omega]
  have e1 : g * 2 ^ (32 - r) % 4294967296 = g % 2 ^ r * 2 ^ (32 - r) := by rw [e, Nat.mul_mod_mul_right]
  have e2 := Nat.div_add_mod f (2 ^ r)
  have e3 : 2 ^ r * (g % 2 ^ r * 2 ^ (32 - r)) = 4294967296 * (g % 2 ^ r) := by rw [e, Nat.mul_comm (g % 2 ^ r), Nat.mul_assoc]
  have hm := Nat.mod_lt g hp
  rw [e1]
  refine ⟨by rw [Nat.mul_add, e3]; omega, ?_⟩
  have h1 : f / 2 ^ r < 2 ^ (32 - r) := by
    rw [Nat.div_lt_iff_lt_mul hp, Nat.mul_comm, ← e]
    exact hf
  have h2 : (g % 2 ^ r + 1) * 2 ^ (32 - r) ≤ 2 ^ r * 2 ^ (32 - r) := Nat.mul_le_mul_right _ hm
  rw [← e, Nat.add_mul, Nat.one_mul] at h2
  omega
theorem rShr_calls {v : AV} {x n : Nat} {h : H} {K : AV → H → Prop} (nv : Num 4294967296 h v x) (hx : Big x) (hn : n ≤ 1048576)
    (hk : ∀ r h', h'.wf → h.le h' → Num 4294967296 h' r (x / 2 ^ n) → K r h') : ACalls Try.prog 78 [v, .int .i64 (n : Int)] h K := by
  obtain ⟨xs, hv, hxd, hxt, rfl, hxl⟩ := nv.open hx
  obtain ⟨id, off, c, rfl⟩ := hv.form
  refine in_ref02_Shr (by simp) fun hw => ?_
  unfold c_ref02_Shr
  have e1 : IntKind.i64.wrap ((n / 32 : Nat) : Int) = ((n / 32 : Nat) : Int) := wI (by omega) (by omega)
  have e4 : ((n : Int)).tdiv 32 = ((n / 32 : Nat) : Int) := tdivN (b := 32)
  have e5 : ((n : Int)).tmod 32 = ((n % 32 : Nat) : Int) := tmodN (b := 32)
  have e8 : IntKind.u64.wrap ((n % 32 : Nat) : Int) = ((n % 32 : Nat) : Int) := wUn (by omega)
  have e9 : IntKind.i64.wrap (32 - ((n % 32 : Nat) : Int)) = ((32 - n % 32 : Nat) : Int) := by rw [wI] <;> omega
  have e10 : IntKind.u64.wrap ((32 - n % 32 : Nat) : Int) = ((32 - n % 32 : Nat) : Int) := wUn (by omega)
  have hr32 : n % 32 < 32 := Nat.mod_lt n (by omega)
  have hr := pow31 hr32
  have hr0 : 0 < 2 ^ (n % 32) := Nat.pow_pos (by omega)
  have hq : val 4294967296 xs / 2 ^ n = val 4294967296 (xs.drop (n / 32)) / 2 ^ (n % 32) := by
    rcases Nat.lt_or_ge (n / 32) xs.length with hl | hl
    · rw [val_cut 4294967296 xs (n / 32) (by omega)]
      have h1 := val_lt_take 4294967296 (by omega) xs hxd (n / 32)
      have e : 2 ^ n = 4294967296 ^ (n / 32) * 2 ^ (n % 32) := by
        rw [pow32, ← Nat.pow_add]
        congr 1
        omega
      rw [e, ← Nat.div_div_eq_div_mul, Nat.add_mul_div_left _ _ (Nat.pow_pos (by omega)), Nat.div_eq_of_lt h1, Nat.zero_add]
    · rw [List.drop_of_length_le hl]
      have h1 := val_lt 4294967296 (by omega) xs hxd
      have h2 : 4294967296 ^ xs.length ≤ 2 ^ n := by
        rw [pow32]
        exact Nat.pow_le_pow_right (by omega) (by omega)
      rw [Nat.div_eq_of_lt (by omega)]
      simp [val]
  rw [hq] at hk
  simp only [go_sem, ↓reduceIte, Nat.reduceEqDiff, Nat.reduceAdd, Bool.false_eq_true, Int.reduceToNat, e1, e4]
  refine ⟨by omega, ?_⟩
  refine for_rule (fun k ρ h' => k ≤ xs.length - n / 32 ∧ h'.wf ∧ h.le h' ∧ ρ 0 = .sl id off xs.length c ∧ ρ 1 = .int .i64 (n : Int) ∧ ρ 6 = .int .i64 ((n / 32 + k : Nat) : Int) ∧ ∃ out, IsG h.next h' (ρ 5) out ∧ (∀ x ∈ out, x < 4294967296) ∧ out.length = k ∧
    2 ^ (n % 32) * val 4294967296 out + xs.getD (n / 32) 0 % 2 ^ (n % 32) = val 4294967296 ((xs.drop (n / 32)).take k) + 4294967296 ^ k * (xs.getD (n / 32 + k) 0 % 2 ^ (n % 32))) (xs.length - n / 32) ⟨by omega, hw, H.le_refl h, rfl, rfl, rfl, [], ⟨none, none, rfl, .inl ⟨rfl, rfl⟩⟩, by simp, rfl, by simp [val]⟩ (fun i ρ h hI => hI.1) ?_
  rintro k ρ h' ⟨hki, hw', hle, h0, h1, h6, out, hs, hod, hol, hov⟩
  have e7 := incI (i := n / 32 + k) (by omega)
  rcases Nat.lt_or_ge (n / 32 + k) xs.length with hxi | hxi
  · have hxb := hxd _ (List.getElem_mem hxi)
    have hgb := getD_lt (B := 4294967296) (by omega) hxd (n / 32 + k + 1)
    have hxx := getD_at hxi
    obtain ⟨j, rfl, _, hg⟩ := (hv.mono hle).at hxi
    have hvx : val 4294967296 ((xs.drop (n / 32)).take (k + 1)) = val 4294967296 ((xs.drop (n / 32)).take k) + 4294967296 ^ k * xs[n / 32 + k] := by
      rw [val_take_succ 4294967296 _ k (by simp; omega)]
      simp
    obtain ⟨d1, d2⟩ := shr_digit hr32 hxb hgb
    rw [hxx] at hov
    simp only [go_sem, ↓reduceIte, Nat.reduceEqDiff, Nat.reduceAdd, Bool.false_eq_true, Int.reduceToNat, h0, h1, h6, ltT hxi, e5, e8]
    refine ⟨by omega, by omega, ?_⟩
    simp only [go_sem, ↓reduceIte, Nat.reduceEqDiff, Nat.reduceAdd, Bool.false_eq_true, Int.reduceToNat, h0, h1, h6, hg, e5, e8]
    refine ⟨by omega, by omega, ?_⟩
    simp only [go_sem, ↓reduceIte, Nat.reduceEqDiff, Nat.reduceAdd, Bool.false_eq_true, Int.reduceToNat, Int.toNat_natCast, shrU (x := xs[n / 32 + k]) (n := n % 32) (by omega)]
    refine cond_cut (fun ρ' h2 => h2 = h' ∧ ρ' 0 = .sl (some j) off xs.length c ∧ ρ' 1 = .int .i64 (n : Int) ∧ ρ' 6 = .int .i64 ((n / 32 + k : Nat) : Int) ∧ ρ' 5 = ρ 5 ∧ ρ' 7 = .int .u64 ((xs[n / 32 + k] / 2 ^ (n % 32) + xs.getD (n / 32 + k + 1) 0 * 2 ^ (32 - n % 32) % 4294967296 : Nat) : Int)) ?_ ?_
    · rcases Nat.lt_or_ge (n / 32 + k + 1) xs.length with hyi | hyi
      · obtain ⟨j', hj', _, hg'⟩ := (hv.mono hle).at hyi
        injection hj' with hj'
        subst hj'
        have hyb := hxd _ (List.getElem_mem hyi)
        rw [getD_at hyi] at d2 ⊢
        have hp : xs[n / 32 + k + 1] * 2 ^ (32 - n % 32) ≤ 4294967295 * 4294967296 := Nat.mul_le_mul (by omega) (by
          have := Nat.pow_le_pow_right (n := 2) (by omega) (show 32 - n % 32 ≤ 32 by omega)
          simpa using this)
        have hlt : xs[n / 32 + k] / 2 ^ (n % 32) < 4294967296 := Nat.lt_of_le_of_lt (Nat.div_le_self _ _) hxb
        generalize xs[n / 32 + k + 1] = g at *
        generalize xs[n / 32 + k] = f at *
        simp only [go_sem, ↓reduceIte, Nat.reduceEqDiff, Nat.reduceAdd, Bool.false_eq_true, Int.reduceToNat, h0, h1, h6, e7, ltT hyi, e5, e9, e10]
        refine ⟨by omega, by omega, ?_⟩
        simp only [go_sem, ↓reduceIte, Nat.reduceEqDiff, Nat.reduceAdd, Bool.false_eq_true, Int.reduceToNat, h0, h1, h6, hg', e5, e9, e10]
        refine ⟨by omega, by omega, by omega, ?_⟩
        simp only [go_sem, ↓reduceIte, Nat.reduceEqDiff, Nat.reduceAdd, Bool.false_eq_true, Int.reduceToNat, Int.toNat_natCast, shlS (x := g) (n := 32 - n % 32) (by omega) (by omega), rem32, addU (a := f / 2 ^ (n % 32)) (b := g * 2 ^ (32 - n % 32) % 4294967296) (by omega)]
        exact ⟨by first | rfl | trivial | assumption, by first | rfl | trivial | assumption, by first | rfl | trivial | assumption, by first | rfl | trivial | assumption, by first | rfl | trivial | assumption, by first | rfl | trivial | assumption⟩
      · rw [getD_ge hyi]
        simp only [go_sem, ↓reduceIte, Nat.reduceEqDiff, Nat.reduceAdd, Bool.false_eq_true, Int.reduceToNat, h0, h1, h6, e7, ltF hyi]
        exact ⟨by first | rfl | trivial | assumption, by first | rfl | trivial | assumption, by first | rfl | trivial | assumption, by first | rfl | trivial | assumption, by first | rfl | trivial | assumption, by simp⟩
    · rintro ρ' h2 ⟨rfl, h0, h1, h6, h5, h7⟩
      rw [← h5] at hs
      generalize xs.getD (n / 32 + k + 1) 0 = g at *
      generalize xs[n / 32 + k] = f at *
      have hdd : f / 2 ^ (n % 32) + g * 2 ^ (32 - n % 32) % 4294967296 < 18446744073709551616 := by omega
      generalize f / 2 ^ (n % 32) + g * 2 ^ (32 - n % 32) % 4294967296 = d at *
      simp only [go_sem, ↓reduceIte, Nat.reduceEqDiff, Nat.reduceAdd, Bool.false_eq_true, Int.reduceToNat, h0, h1, h6, h7, rem32, Nat.mod_eq_of_lt d2]
      refine ⟨by omega, ?_⟩
      refine app_lit [d] hw hw' hle hs rfl rfl (by simp; omega) fun v' h3 hw3 hle3 hv3 => ?_
      simp only [go_sem, ↓reduceIte, Nat.reduceEqDiff, Nat.reduceAdd, Bool.false_eq_true, Int.reduceToNat, h0, h1, h6, e7]
      refine ⟨by omega, hw3, hle3, by first | rfl | trivial | assumption, by first | rfl | trivial | assumption, rfl, _, hv3, mem_snoc_lt hod d2, by simp; omega, ?_⟩
      rw [val_snoc, hol, hvx, Nat.pow_succ, Nat.mul_assoc]
      have e2 := congrArg (fun z => 4294967296 ^ k * z) d1
      simp only [Nat.mul_add] at e2 ⊢
      rw [Nat.mul_left_comm (2 ^ (n % 32))]
      omega
  · simp only [go_sem, ↓reduceIte, Nat.reduceEqDiff, Nat.reduceAdd, Bool.false_eq_true, Int.reduceToNat, h0, h1, h6, ltF hxi]
    refine norm_num hs.isN hod (by omega) fun r hr => ?_
    simp only [go_sem, ↓reduceIte, Nat.reduceEqDiff, Nat.reduceAdd, Bool.false_eq_true, Int.reduceToNat]
    intro _
    rw [getD_ge hxi, List.take_of_length_le (by simp; omega)] at hov
    have hm := Nat.mod_lt (xs.getD (n / 32) 0) hr0
    have : val 4294967296 out = val 4294967296 (xs.drop (n / 32)) / 2 ^ (n % 32) := by
      rw [Nat.zero_mod, Nat.mul_zero, Nat.add_zero] at hov
      rw [← hov, Nat.mul_add_div hr0, Nat.div_eq_of_lt hm, Nat.add_zero]
    rw [this] at hr
    exact hk r h' hw' hle hr
theorem rLow_calls {v : AV} {x n : Nat} {h : H} {K : AV → H → Prop} (nv : Num 4294967296 h v x) (hx : Big x) (hn : n ≤ 1048576)
    (hk : ∀ r h', h'.wf → h.le h' → Num 4294967296 h' r (x % 2 ^ n) → K r h') : ACalls Try.prog 52 [v, .int .i64 (n : Int)] h K := by
  refine in_ref02_Low (by simp) fun hw => ?_
  unfold c_ref02_Low
  simp only [go_sem, ↓reduceIte, Nat.reduceEqDiff, Nat.reduceAdd, Bool.false_eq_true, Int.reduceToNat]
  refine rShr_calls nv hx hn fun r1 h1 hw1 hl1 n1 => ?_
  simp only [go_sem, ↓reduceIte, Nat.reduceEqDiff, Nat.reduceAdd, Bool.false_eq_true, Int.reduceToNat]
  refine rShl_calls n1 (hx.le (Nat.div_le_self _ _)) hn fun r2 h2 hw2 hl2 n2 => ?_
  simp only [go_sem, ↓reduceIte, Nat.reduceEqDiff, Nat.reduceAdd, Bool.false_eq_true, Int.reduceToNat]
  refine rSub_calls (nv.mono (H.le_trans hl1 hl2)) n2 hx (Nat.div_mul_le_self _ _) fun r3 h3 hw3 hl3 n3 => ?_
  simp only [go_sem, ↓reduceIte, Nat.reduceEqDiff, Nat.reduceAdd, Bool.false_eq_true, Int.reduceToNat]
  intro _
  have e : x - x / 2 ^ n * 2 ^ n = x % 2 ^ n := by
    have := Nat.mod_add_div x (2 ^ n)
    rw [Nat.mul_comm] at this
    omega
  rw [e] at n3
  exact hk r3 h3 hw3 (H.le_trans hl1 (H.le_trans hl2 hl3)) n3
end Ab
end Go.Proofs.Yteoagnggnekfiaa
