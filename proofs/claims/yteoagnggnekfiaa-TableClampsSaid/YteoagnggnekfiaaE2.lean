/- The naturals of the document: from words, comparison, sum. No condition. -/
import Derived.Test.YteoagnggnekfiaaE1
namespace Go.Proofs.Yteoagnggnekfiaa
namespace Ab
open Go Go.RowKit
set_option linter.unusedSimpArgs false
set_option linter.unusedVariables false
attribute [local go_sem ↓] x_mv x_pick x_bin x_beq x_peq x_seq x_cat x_aeq x_idxS x_un x_cvI x_idx x_idxA x_fld x_ld x_st x_nn x_prt x_slc x_mk x_bsl x_bld x_box x_alloc x_len x_capo x_mnx x_app x_cpy x_mkf x_ext x_call x_callV x_bad s_none s_some s_nil s_cons s_chks w_skip w_reg w_seq w_cond w_block w_exit w_ret t_normal t_exit t_ret b_normal b_ret b_exit n_normal n_exit n_ret p_normal p_ret f_nil f_t f_c k_ops k_chk k_fin
attribute [local go_sem] e_t e_c e_f u_some u_none u_at env_at k_v k_pick k_add k_sub k_mul k_quo k_rem k_and k_or k_xor k_shl k_shr k_eql k_neq k_lss k_leq k_gtr k_geq k_beq k_peqn k_peqs k_neg k_not k_com k_cvI k_idxS k_idx k_idxA k_idxG k_ldG k_gld k_seq k_cat k_aeq k_eqs k_fld k_ld1 k_ldn k_get k_gets k_sti k_stb k_stp k_sts k_stf k_sta k_put k_nn k_prt1 k_prtn k_slc_a k_slc_b k_slc_c k_mk k_agg k_bsl k_box k_len k_lenS k_cap k_max k_min k_ext k_callV k_true k_false k_gtt k_gtf k_gft k_gsk k_gff k_lit1i k_lit2i k_lit3i k_c0 k_c1 k_ck List.getElem?_cons_zero List.getElem?_cons_succ List.getElem?_nil Option.getD_some Option.getD_none tupOf List.map_cons List.map_nil Option.map_some Option.map_none List.nil_append List.cons_append List.append_nil Nat.mul_one Int.toNat_natCast Nat.zero_add
theorem rem32 {x : Nat} : ((x : Int)).tmod 4294967296 = ((x % 4294967296 : Nat) : Int) := tmodN (b := 4294967296)
theorem quo32 {x : Nat} (hx : x < 18446744073709551616) : IntKind.u64.wrap (((x : Int)).tdiv 4294967296) = ((x / 4294967296 : Nat) : Int) := by
  rw [show ((x : Int)).tdiv 4294967296 = ((x / 4294967296 : Nat) : Int) from tdivN (b := 4294967296)]
  rw [wU] <;> omega
theorem incI {i : Nat} (hi : i < 9223372036854775807) : IntKind.i64.wrap ((i : Int) + 1) = ((i + 1 : Nat) : Int) := by rw [wI] <;> omega
theorem decI {i : Nat} (hi : 0 < i) (hi2 : i < 9223372036854775807) : IntKind.i64.wrap ((i : Int) - 1) = ((i - 1 : Nat) : Int) := by rw [wI] <;> omega
theorem addU {a b : Nat} (h : a + b < 18446744073709551616) : IntKind.u64.wrap ((a : Int) + (b : Int)) = ((a + b : Nat) : Int) := by rw [wU] <;> omega
theorem mulU {a b : Nat} (h : a * b < 18446744073709551616) : IntKind.u64.wrap ((a : Int) * (b : Int)) = ((a * b : Nat) : Int) := by
  rw [← Int.natCast_mul, wU] <;> omega
theorem ltT {a b : Nat} (h : a < b) : decide ((a : Int) < (b : Int)) = true := by simp; omega
theorem ltF {a b : Nat} (h : b ≤ a) : decide ((a : Int) < (b : Int)) = false := by simp; omega
theorem norm_num {v : AV} {xs : List Nat} {h : H} {K : AV → H → Prop} (hv : IsN h v xs) (hd : ∀ x ∈ xs, x < 4294967296) (hlen : xs.length < 4611686018427387904)
    (hk : ∀ r, Num 4294967296 h r (val 4294967296 xs) → K r h) : ACalls Try.prog 63 [v] h K :=
  norm_calls hv hlen fun r k _ hr hz ht => hk r ⟨xs.take k, hr, fun x hx => hd x (List.mem_of_mem_take hx), ht, val_take 4294967296 xs k hz⟩
theorem From_calls {v : AV} {ws : List Nat} {h : H} {K : AV → H → Prop} (hv : IsN h v ws) (hd : ∀ x ∈ ws, x < 18446744073709551616) (hlen : ws.length ≤ 1099511627776)
    (hk : ∀ r h', h'.wf → h.le h' → Num 4294967296 h' r (val 18446744073709551616 ws) → K r h') : ACalls Try.prog 62 [v] h K := by
  obtain ⟨id, off, c, rfl⟩ := hv.form
  refine in_ref02_From (by simp) fun hw => ?_
  unfold c_ref02_From
  have hw0 : IntKind.i64.wrap (2 * (ws.length : Int)) = ((2 * ws.length : Nat) : Int) := by rw [wI] <;> omega
  simp only [go_sem, ↓reduceIte, Nat.reduceEqDiff, Nat.reduceAdd, Bool.false_eq_true, Int.reduceToNat, hw0]
  refine ⟨by omega, by omega, by omega, ?_⟩
  refine ⟨fun n ρ h' => h'.wf ∧ h.le h' ∧ ρ 0 = .sl id off ws.length c ∧ ∃ i out s, n = ws.length - i ∧ i ≤ ws.length ∧ ρ 4 = .int .i64 (i : Nat) ∧ ρ 3 = s ∧ IsG h.next h' s out ∧ (∀ x ∈ out, x < 4294967296) ∧ out.length = 2 * i ∧ val 4294967296 out = val 18446744073709551616 (ws.take i), ws.length,
    ⟨H.wf_new hw _, H.le_new hw (H.le_refl h) _, rfl, 0, [], _, by omega, by omega, rfl, rfl, IsG.made0 (Nat.le_refl _) _, by simp, rfl, rfl⟩, ?_⟩
  rintro n ρ h' ⟨hw', hle, h0, i, out, s, rfl, hi, h4, h3, hs, hod, hol, hov⟩
  rcases Nat.lt_or_ge i ws.length with hlt | hge
  · have hc : decide ((i : Int) < (ws.length : Int)) = true := by simp; omega
    obtain ⟨j, rfl, _, hg⟩ := (hv.mono hle).at hlt
    have hwd := hd _ (List.getElem_mem hlt)
    generalize hx : ws[i] = x at hg hwd
    have e2 := quo32 hwd
    simp only [go_sem, ↓reduceIte, Nat.reduceEqDiff, Nat.reduceAdd, Bool.false_eq_true, Int.reduceToNat, h0, h3, h4, hc]
    refine ⟨by omega, by omega, ?_⟩
    simp only [go_sem, ↓reduceIte, Nat.reduceEqDiff, Nat.reduceAdd, Bool.false_eq_true, Int.reduceToNat, h0, h4, hg]
    refine ⟨by omega, by omega, by omega, ?_⟩
    simp only [go_sem, ↓reduceIte, Nat.reduceEqDiff, Nat.reduceAdd, Bool.false_eq_true, Int.reduceToNat, hg, rem32, e2]
    refine ⟨by omega, ?_⟩
    refine app_lit [x % 4294967296, x / 4294967296] hw hw' hle hs rfl rfl (by simp; omega) fun v' h2 hw2 hle2 hv2 => ?_
    have e3 : IntKind.i64.wrap ((i : Int) + 1) = ((i + 1 : Nat) : Int) := by rw [wI] <;> omega
    simp only [go_sem, ↓reduceIte, Nat.reduceEqDiff, Nat.reduceAdd, Bool.false_eq_true, Int.reduceToNat, h0, h4, e3]
    refine ⟨_, ?_, hw2, hle2, by trivial, i + 1, _, v', rfl, by omega, rfl, rfl, hv2, ?_, by simp; omega, ?_⟩
    · omega
    · intro y hy
      rcases List.mem_append.1 hy with hy | hy
      · exact hod y hy
      · simp only [List.mem_cons, List.not_mem_nil, or_false] at hy
        omega
    · rw [val_append, hov, hol, val_take_succ 18446744073709551616 ws i hlt, hx, show 4294967296 ^ (2 * i) = 18446744073709551616 ^ i from by rw [Nat.pow_mul]]
      simp only [val]
      congr 2
      omega
  · have hc : decide ((i : Int) < (ws.length : Int)) = false := by simp; omega
    simp only [go_sem, ↓reduceIte, Nat.reduceEqDiff, Nat.reduceAdd, Bool.false_eq_true, Int.reduceToNat, h0, h3, h4, hc]
    refine norm_num hs.isN hod (by omega) fun r hr => ?_
    simp only [go_sem, ↓reduceIte, Nat.reduceEqDiff, Nat.reduceAdd, Bool.false_eq_true, Int.reduceToNat]
    intro _
    refine hk r h' hw' hle ?_
    rw [hov, List.take_of_length_le hge] at hr
    exact hr
theorem Small_calls {x : Nat} {h : H} {K : AV → H → Prop} (hx : x < 18446744073709551616)
    (hk : ∀ r h', h'.wf → h.le h' → Num 4294967296 h' r x → K r h') : ACalls Try.prog 25 [.int .u64 (x : Int)] h K := by
  refine in_ref02_Small (by simp) fun hw => ?_
  unfold c_ref02_Small
  simp only [go_sem, ↓reduceIte, Nat.reduceEqDiff, Nat.reduceAdd, Bool.false_eq_true, Int.reduceToNat]
  refine From_calls (IsN.lit [x] _ rfl rfl) (by simpa using hx) (by simp) fun r h' hw' hle hr => ?_
  simp only [go_sem, ↓reduceIte, Nat.reduceEqDiff, Nat.reduceAdd, Bool.false_eq_true, Int.reduceToNat]
  intro _
  refine hk r h' hw' (H.le_trans (H.le_new hw (H.le_refl h) _) hle) ?_
  simpa [val] using hr
end Ab
end Go.Proofs.Yteoagnggnekfiaa
