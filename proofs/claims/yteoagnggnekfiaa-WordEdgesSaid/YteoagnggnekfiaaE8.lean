/- The naturals of the document: quotient and remainder. No condition. -/
import Derived.Test.YteoagnggnekfiaaE7
namespace Go.Proofs.Yteoagnggnekfiaa
namespace Ab
open Go Go.RowKit
set_option linter.unusedSimpArgs false
set_option linter.unusedVariables false
attribute [local go_sem ↓] x_mv x_pick x_bin x_beq x_peq x_idxS x_un x_cvI x_idx x_idxA x_fld x_ld x_st x_nn x_prt x_slc x_mk x_bsl x_bld x_box x_alloc x_len x_capo x_mnx x_app x_cpy x_mkf x_ext x_call x_callV x_bad s_none s_some s_nil s_cons s_chks w_skip w_reg w_seq w_cond w_block w_exit w_ret t_normal t_exit t_ret b_normal b_ret b_exit n_normal n_exit n_ret p_normal p_ret f_nil f_t f_c k_ops k_chk k_fin
attribute [local go_sem] e_t e_c e_f u_some u_none u_at env_at k_v k_pick k_add k_sub k_mul k_quo k_rem k_and k_or k_xor k_shl k_shr k_eql k_neq k_lss k_leq k_gtr k_geq k_beq k_peqn k_peqs k_neg k_not k_com k_cvI k_idxS k_idx k_idxA k_fld k_ld1 k_ldn k_get k_gets k_sti k_stb k_stp k_sts k_stf k_sta k_put k_nn k_prt1 k_prtn k_slc_a k_slc_b k_slc_c k_mk k_agg k_bsl k_box k_len k_lenS k_cap k_max k_min k_ext k_callV k_true k_false k_gtt k_gtf k_gft k_gsk k_gff k_lit1i k_lit2i k_lit3i k_c0 k_c1 k_ck List.getElem?_cons_zero List.getElem?_cons_succ List.getElem?_nil Option.getD_some Option.getD_none tupOf List.map_cons List.map_nil Option.map_some Option.map_none List.nil_append List.cons_append List.append_nil Nat.mul_one Int.toNat_natCast Nat.zero_add
theorem div_double {X y b : Nat} (hb : b ≤ 1) (hy : 0 < y) : (2 * X + b) / y = 2 * (X / y) + (if y ≤ 2 * (X % y) + b then 1 else 0) ∧ (2 * X + b) % y = (if y ≤ 2 * (X % y) + b then 2 * (X % y) + b - y else 2 * (X % y) + b) := by
  have h1 := Nat.div_add_mod X y
  have h2 : X % y < y := Nat.mod_lt _ hy
  generalize X / y = u at *
  generalize X % y = v at *
  have e : 2 * X + b = y * (2 * u) + (2 * v + b) := by
    rw [← h1, Nat.mul_left_comm y 2 u]
    omega
  rw [e]
  split
  · rename_i hc
    have e2 : y * (2 * u) + (2 * v + b) = y * (2 * u + 1) + (2 * v + b - y) := by rw [Nat.mul_add]; omega
    rw [e2, Nat.mul_add_div hy, Nat.mul_add_mod, Nat.div_eq_of_lt (by omega), Nat.mod_eq_of_lt (by omega)]
    exact ⟨rfl, rfl⟩
  · rename_i hc
    rw [Nat.mul_add_div hy, Nat.mul_add_mod, Nat.div_eq_of_lt (by omega), Nat.mod_eq_of_lt (by omega)]
    exact ⟨rfl, rfl⟩
theorem shl1 {n : Nat} (hn : n < 64) : bShl .u64 1 n = ((2 ^ n : Nat) : Int) := by
  have h := shlU (x := 1) (n := n) (by omega)
  have h2 : 2 ^ n < 18446744073709551616 := Nat.lt_of_lt_of_le (Nat.pow_lt_pow_right (by decide) hn) (by decide : 2 ^ 64 ≤ 18446744073709551616)
  rw [Nat.one_mul, Nat.mod_eq_of_lt h2] at h
  exact h
theorem or_bit {w r : Nat} (hw : w < 4294967296) (hr : r < 32) (hd : w % 2 ^ (r + 1) = 0) : bOr .u64 (w : Int) ((2 ^ r : Nat) : Int) = ((w + 2 ^ r : Nat) : Int) ∧ w + 2 ^ r < 4294967296 := by
  have h2 : 2 ^ r < 2 ^ 32 := Nat.pow_lt_pow_right (by decide) hr
  have e1 : w = 2 ^ (r + 1) * (w / 2 ^ (r + 1)) := by have := Nat.div_add_mod w (2 ^ (r + 1)); omega
  have e2 : w ||| 2 ^ r = w + 2 ^ r := by
    rw [e1, ← Nat.two_pow_add_eq_or_of_lt (Nat.pow_lt_pow_right (by decide) (by omega))]
  have h3 := borN (a := w) (b := 2 ^ r) (by omega) (by omega)
  rw [e2] at h3
  refine ⟨h3, ?_⟩
  have := Nat.or_lt_two_pow (n := 32) (x := w) (y := 2 ^ r) hw h2
  omega
theorem digit_mult {xs : List Nat} (hx : ∀ a ∈ xs, a < 4294967296) {i z : Nat} (h : i / 32 < xs.length) (hv : val 4294967296 xs = 2 ^ (i + 1) * z) : xs[i / 32] % 2 ^ (i % 32 + 1) = 0 := by
  rw [digit_eq xs hx _ h, hv]
  have e : 2 ^ (i + 1) = 2 ^ (32 * (i / 32)) * 2 ^ (i % 32 + 1) := by rw [← Nat.pow_add]; congr 1; omega
  rw [e, Nat.mul_assoc, Nat.mul_div_cancel_left _ (Nat.pow_pos (by decide))]
  have hr : i % 32 < 32 := Nat.mod_lt _ (by decide)
  generalize i % 32 = r at *
  have e2 : 4294967296 = 2 ^ (r + 1) * 2 ^ (31 - r) := by rw [← Nat.pow_add, show r + 1 + (31 - r) = 32 from by omega]
  rw [e2, Nat.mul_mod_mul_left, Nat.mul_mod_right]
theorem DivMod_calls {v u : AV} {x y : Nat} {h : H} {K : AV → H → Prop} (nv : Num 4294967296 h v x) (nu : Num 4294967296 h u y) (hx : Big x) (hy : Big y) (hy0 : 0 < y)
    (hk : ∀ q r h', h'.wf → h.le h' → Num 4294967296 h' q (x / y) → Num 4294967296 h' r (x % y) → K (.tup [q, r]) h') : ACalls Try.prog 47 [v, u] h K := by
  refine in_ref02_DivMod (by simp) fun hw => ?_
  unfold c_ref02_DivMod
  simp only [go_sem, ↓reduceIte, Nat.reduceEqDiff, Nat.reduceAdd, Bool.false_eq_true, Int.reduceToNat]
  refine Cmp_calls nv nu hx hy ?_
  rcases Nat.lt_or_ge x y with hlt | hge
  · have d1 : decide (cmpI x y < 0) = true := by simp [cmpI, hlt]
    simp only [go_sem, ↓reduceIte, Nat.reduceEqDiff, Nat.reduceAdd, Bool.false_eq_true, Int.reduceToNat, d1]
    intro _
    refine hk _ v h hw (H.le_refl h) ?_ ?_
    · rw [Nat.div_eq_of_lt hlt]
      exact ⟨[], IsN.nil _ _, by simp, by simp, rfl⟩
    · rw [Nat.mod_eq_of_lt hlt]
      exact nv
  have d1 : decide (cmpI x y < 0) = false := by
    unfold cmpI
    rw [if_neg (by omega)]
    split <;> rfl
  have nv0 := nv
  obtain ⟨xs, hv, hxd, hxt, hxv, hxl⟩ := nv.open hx
  obtain ⟨ys, hu, hyd, hyt, hyv, hyl⟩ := nu.open hy
  obtain ⟨id, off, c, rfl⟩ := hv.form
  obtain ⟨id', off', c', rfl⟩ := hu.form
  have e1 := incI (i := ys.length) (by omega)
  simp only [go_sem, ↓reduceIte, Nat.reduceEqDiff, Nat.reduceAdd, Bool.false_eq_true, Int.reduceToNat, d1, e1]
  refine ⟨by omega, by omega, by omega, by omega, by omega, by omega, ?_⟩
  have le1 : h.le ((h.new ⟨some 29, 1, zs [AV.int .u64 0] (ys.length + 1)⟩).new ⟨some 29, 1, zs [AV.int .u64 0] xs.length⟩) := H.le_new (H.wf_new hw _) (H.le_new hw (H.le_refl h) _) _
  have hr0 : IsG h.next ((h.new ⟨some 29, 1, zs [AV.int .u64 0] (ys.length + 1)⟩).new ⟨some 29, 1, zs [AV.int .u64 0] xs.length⟩) (.sl (some h.next) 0 (ys.length + 1) (some (ys.length + 1))) (List.replicate (ys.length + 1) 0) :=
    (IsG.made (Nat.le_refl _) _).mono (H.le_new (H.wf_new hw _) (H.le_refl _) _)
  have hq0 : IsG h.next ((h.new ⟨some 29, 1, zs [AV.int .u64 0] (ys.length + 1)⟩).new ⟨some 29, 1, zs [AV.int .u64 0] xs.length⟩) (.sl (some (h.next + 1)) 0 xs.length (some xs.length)) (List.replicate xs.length 0) :=
    IsG.made (by rw [H.next_new]; omega) _
  have wf1 := H.wf_new (H.wf_new hw ⟨some 29, 1, zs [AV.int .u64 0] (ys.length + 1)⟩) ⟨some 29, 1, zs [AV.int .u64 0] xs.length⟩
  simp only [H.next_new]
  generalize ((h.new ⟨some 29, 1, zs [AV.int .u64 0] (ys.length + 1)⟩).new ⟨some 29, 1, zs [AV.int .u64 0] xs.length⟩) = h1 at *
  refine Bits_calls (nv0.mono le1) hx fun L hL hB => ?_
  have hx0 : 0 < x := by omega
  have hL0 := hB.pos hx0
  have hLl : L ≤ 32 * xs.length := by
    have a1 := val_lt 4294967296 (by decide) xs hxd
    rw [hxv, pow32] at a1
    have a2 := hB.2.resolve_left hL0
    have := (Nat.pow_lt_pow_iff_right (by decide : 1 < 2)).1 (Nat.lt_of_le_of_lt a2 a1)
    omega
  have e2 := decI (i := L) (by omega) (by omega)
  simp only [go_sem, ↓reduceIte, Nat.reduceEqDiff, Nat.reduceAdd, Bool.false_eq_true, Int.reduceToNat, e2]
  have hyb : y < 4294967296 ^ ys.length := by rw [← hyv]; exact val_lt 4294967296 (by decide) ys hyd
  refine ⟨fun n ρ h' => h'.wf ∧ h.le h' ∧ ρ 0 = .sl id off xs.length c ∧ ρ 1 = .sl id' off' ys.length c' ∧ ρ 6 = .sl (some h.next) 0 (ys.length + 1) (some (ys.length + 1)) ∧ ρ 7 = .sl (some (h.next + 1)) 0 xs.length (some xs.length) ∧ ρ 8 = .int .i64 ((n : Int) - 1) ∧ n ≤ L ∧
    ∃ rs qs, IsG h.next h' (.sl (some h.next) 0 (ys.length + 1) (some (ys.length + 1))) rs ∧ (∀ a ∈ rs, a < 4294967296) ∧ rs.length = ys.length + 1 ∧ val 4294967296 rs = x / 2 ^ n % y ∧
      IsG h.next h' (.sl (some (h.next + 1)) 0 xs.length (some xs.length)) qs ∧ (∀ a ∈ qs, a < 4294967296) ∧ qs.length = xs.length ∧ val 4294967296 qs = 2 ^ n * (x / 2 ^ n / y), L,
    ⟨wf1, le1, by first | rfl | trivial | assumption, by first | rfl | trivial | assumption, by first | rfl | trivial | assumption, by first | rfl | trivial | assumption, ?_, by omega, _, _, hr0, ?_, by simp, ?_, hq0, ?_, by simp, ?_⟩, ?_⟩
  · simp only [go_sem, ↓reduceIte, Nat.reduceEqDiff, Nat.reduceAdd, Bool.false_eq_true, Int.reduceToNat]
    congr 1
    omega
  · intro a ha; rw [(List.mem_replicate.1 ha).2]; decide
  · rw [val_zero 4294967296 _ (fun a ha => (List.mem_replicate.1 ha).2), Nat.div_eq_of_lt hB.1, Nat.zero_mod]
  · intro a ha; rw [(List.mem_replicate.1 ha).2]; decide
  · rw [val_zero 4294967296 _ (fun a ha => (List.mem_replicate.1 ha).2), Nat.div_eq_of_lt hB.1, Nat.zero_div, Nat.mul_zero]
  rintro n ρ h' ⟨hw', hle, g0, g1, g6, g7, g8, hn, rs, qs, hr, hrd, hrl, hrv, hq, hqd, hql, hqv⟩
  rcases Nat.eq_zero_or_pos n with rfl | hp
  · have d2 : decide ((0 : Int) ≤ ((0 : Nat) : Int) - 1) = false := by decide
    simp only [go_sem, ↓reduceIte, Nat.reduceEqDiff, Nat.reduceAdd, Bool.false_eq_true, Int.reduceToNat, g0, g1, g6, g7, g8, d2]
    refine norm_num hq.isN hqd (by omega) fun q1 nq => ?_
    simp only [go_sem, ↓reduceIte, Nat.reduceEqDiff, Nat.reduceAdd, Bool.false_eq_true, Int.reduceToNat, g0, g1, g6, g7, g8]
    refine norm_num hr.isN hrd (by omega) fun r1 nr => ?_
    simp only [go_sem, ↓reduceIte, Nat.reduceEqDiff, Nat.reduceAdd, Bool.false_eq_true, Int.reduceToNat]
    intro _
    rw [hqv] at nq
    rw [hrv] at nr
    simp only [Nat.pow_zero, Nat.div_one, Nat.one_mul] at nq nr
    exact hk q1 r1 h' hw' hle nq nr
  obtain ⟨i, rfl⟩ : ∃ i, n = i + 1 := ⟨n - 1, by omega⟩
  have e5 : ((i + 1 : Nat) : Int) - 1 = (i : Int) := by omega
  have d2 : decide ((0 : Int) ≤ (i : Int)) = true := by simp
  rw [e5] at g8
  simp only [go_sem, ↓reduceIte, Nat.reduceEqDiff, Nat.reduceAdd, Bool.false_eq_true, Int.reduceToNat, g0, g1, g6, g7, g8, d2]
  have hi32 : i / 32 < xs.length := by omega
  refine bit_calls (hv.mono hle) hxd (by omega) hi32 ?_
  simp only [go_sem, ↓reduceIte, Nat.reduceEqDiff, Nat.reduceAdd, Bool.false_eq_true, Int.reduceToNat, g0, g1, g6, g7, g8]
  rw [hxv]
  have hb1 : x / 2 ^ i % 2 ≤ 1 := by omega
  have hvy : val 4294967296 rs < y := by rw [hrv]; exact Nat.mod_lt _ hy0
  have hX : x / 2 ^ i = 2 * (x / 2 ^ (i + 1)) + x / 2 ^ i % 2 := by
    rw [Nat.pow_succ, ← Nat.div_div_eq_div_mul]
    omega
  obtain ⟨hD1, hD2⟩ := div_double (X := x / 2 ^ (i + 1)) hb1 hy0
  rw [← hX, ← hrv] at hD1 hD2
  have hfit : 2 * val 4294967296 rs + x / 2 ^ i % 2 < 4294967296 ^ (ys.length + 1) := by rw [Nat.pow_succ]; omega
  refine twice_calls hw hle hr hrd hu hyd hrl (by omega) (by omega) hb1 hfit fun h2 rs' hw2 hbt hr2 hrd2 hrl2 t ht hrv2 => ?_
  rw [hyv] at ht hrv2
  have hle2 := hbt.le hw hle (Nat.le_refl _)
  have hq2 := hq.but hbt (by omega)
  have e6 : IntKind.i64.wrap ((i : Int) - 1) = (i : Int) - 1 := by rw [wI] <;> omega
  cases t with
  | false =>
    have hc : ¬ y ≤ 2 * val 4294967296 rs + x / 2 ^ i % 2 := by simpa using ht.symm
    rw [if_neg (by simp)] at hrv2
    rw [if_neg hc] at hD1 hD2
    simp only [go_sem, ↓reduceIte, Nat.reduceEqDiff, Nat.reduceAdd, Bool.false_eq_true, Int.reduceToNat, g0, g1, g6, g7, g8, e6]
    refine ⟨i, by omega, hw2, hle2, by first | rfl | trivial | assumption, by first | rfl | trivial | assumption, by first | rfl | trivial | assumption, by first | rfl | trivial | assumption, by first | rfl | trivial | assumption, by omega, rs', qs, hr2, hrd2, hrl2, ?_, hq2, hqd, hql, ?_⟩
    · rw [hrv2, hD2]
    · rw [hqv, hD1, Nat.pow_succ, Nat.mul_assoc, Nat.add_zero]
  | true =>
    have hc : y ≤ 2 * val 4294967296 rs + x / 2 ^ i % 2 := by simpa using ht.symm
    rw [if_pos rfl] at hrv2
    rw [if_pos hc] at hD1 hD2
    have hjq : i / 32 < qs.length := by omega
    obtain ⟨j, e1, _, hg⟩ := hq2.isN.at hjq
    obtain ⟨j', r, e1', hbj, hnj, hrj, ho, hc1, hput⟩ := hq2.put hw2 hjq
    injection e1 with e1
    subst e1
    injection e1' with e1'
    subst e1'
    rw [Nat.zero_add] at hg
    have hqb := hqd _ (List.getElem_mem hjq)
    have hr32 : i % 32 < 32 := Nat.mod_lt _ (by decide)
    obtain ⟨o1, o2⟩ := or_bit hqb hr32 (digit_mult hqd hjq hqv)
    have hset := val_set 4294967296 qs (i / 32) (qs[i / 32] + 2 ^ (i % 32)) hjq
    generalize qs[i / 32] = w at *
    have e7 : IntKind.i64.wrap (((i : Int)).tdiv 32) = ((i / 32 : Nat) : Int) := by
      rw [show ((i : Int)).tdiv 32 = ((i / 32 : Nat) : Int) from tdivN (b := 32)]
      rw [wI] <;> omega
    have e8 : ((i : Int)).tmod 32 = ((i % 32 : Nat) : Int) := tmodN (b := 32)
    simp only [go_sem, ↓reduceIte, Nat.reduceEqDiff, Nat.reduceAdd, Bool.false_eq_true, Int.reduceToNat, g0, g1, g6, g7, g8, e6, e7, e8, hg, hrj, wUn (x := i % 32) (by omega), shl1 (n := i % 32) (by omega), o1]
    refine ⟨by omega, by omega, by omega, by omega, by omega, by omega, by omega, ho, hc1, ?_⟩
    refine ⟨i, by omega, H.wf_set hw2 hnj _, H.le_set hw hle2 hbj _, by first | rfl | trivial | assumption, by first | rfl | trivial | assumption, by first | rfl | trivial | assumption, by first | rfl | trivial | assumption, by first | rfl | trivial | assumption, by omega, rs', _, hr2.but (But.set _ _ _) (by omega), hrd2, hrl2, ?_, hput _, mem_set_lt hqd o2, by simp; omega, ?_⟩
    · rw [hrv2, hD2]
    · rw [hD1]
      have e9 : 4294967296 ^ (i / 32) * 2 ^ (i % 32) = 2 ^ i := by rw [pow32, ← Nat.pow_add, Nat.div_add_mod]
      rw [Nat.mul_add, e9, hqv] at hset
      generalize x / 2 ^ (i + 1) / y = Z at *
      rw [Nat.pow_succ] at hset
      rw [Nat.mul_add, Nat.mul_one, ← Nat.mul_assoc]
      omega
end Ab
end Go.Proofs.Yteoagnggnekfiaa
