/- The naturals of the document: product. No condition. -/
import Derived.Test.YteoagnggnekfiaaE4
namespace Go.Proofs.Yteoagnggnekfiaa
namespace Ab
open Go Go.RowKit
set_option linter.unusedSimpArgs false
set_option linter.unusedVariables false
attribute [local go_sem ↓] x_mv x_pick x_bin x_beq x_peq x_seq x_cat x_aeq x_idxS x_un x_cvI x_idx x_idxA x_fld x_ld x_st x_nn x_prt x_slc x_mk x_bsl x_bld x_box x_alloc x_len x_capo x_mnx x_app x_cpy x_mkf x_ext x_call x_callV x_bad s_none s_some s_nil s_cons s_chks w_skip w_reg w_seq w_cond w_block w_exit w_ret t_normal t_exit t_ret b_normal b_ret b_exit n_normal n_exit n_ret p_normal p_ret f_nil f_t f_c k_ops k_chk k_fin
attribute [local go_sem] e_t e_c e_f u_some u_none u_at env_at k_v k_pick k_add k_sub k_mul k_quo k_rem k_and k_or k_xor k_shl k_shr k_eql k_neq k_lss k_leq k_gtr k_geq k_beq k_peqn k_peqs k_neg k_not k_com k_cvI k_idxS k_idx k_idxA k_idxG k_ldG k_gld k_seq k_cat k_aeq k_eqs k_fld k_ld1 k_ldn k_get k_gets k_sti k_stb k_stp k_sts k_stf k_sta k_put k_nn k_prt1 k_prtn k_slc_a k_slc_b k_slc_c k_mk k_agg k_bsl k_box k_len k_lenS k_cap k_max k_min k_ext k_callV k_true k_false k_gtt k_gtf k_gft k_gsk k_gff k_lit1i k_lit2i k_lit3i k_c0 k_c1 k_ck List.getElem?_cons_zero List.getElem?_cons_succ List.getElem?_nil Option.getD_some Option.getD_none tupOf List.map_cons List.map_nil Option.map_some Option.map_none List.nil_append List.cons_append List.append_nil Nat.mul_one Int.toNat_natCast Nat.zero_add
theorem val_set (B : Nat) (xs : List Nat) (k v : Nat) (h : k < xs.length) : val B (xs.set k v) + B ^ k * xs[k] = val B xs + B ^ k * v := by
  have h2 : k < (xs.set k v).length := by simpa using h
  rw [val_split B xs k h, val_split B (xs.set k v) k h2]
  simp only [List.getElem_set_self, List.take_set, List.drop_set, Nat.mul_add]
  rw [if_pos (by omega), List.set_eq_of_length_le (by simp; omega)]
  omega
theorem getD_set {xs : List Nat} {k j v : Nat} : (xs.set k v).getD j 0 = if j = k ∧ k < xs.length then v else xs.getD j 0 := by
  rw [List.getD_eq_getElem?_getD, List.getD_eq_getElem?_getD, List.getElem?_set]
  by_cases h : k = j
  · subst h
    by_cases h2 : k < xs.length
    · simp [h2]
    · simp [h2]
  · rw [if_neg h, if_neg (fun e => h e.1.symm)]
theorem getD_at {xs : List Nat} {k : Nat} (h : k < xs.length) : xs.getD k 0 = xs[k] := by rw [List.getD_eq_getElem?_getD, List.getElem?_eq_getElem h]; rfl
theorem mem_set_lt {B : Nat} {xs : List Nat} {k v : Nat} (h : ∀ x ∈ xs, x < B) (hv : v < B) : ∀ x ∈ xs.set k v, x < B := by
  intro x hx
  rcases List.mem_or_eq_of_mem_set hx with h1 | h1
  · exact h x h1
  · exact h1 ▸ hv
theorem fit32 {o x y c : Nat} (ho : o < 4294967296) (hx : x < 4294967296) (hy : y < 4294967296) (hc : c < 4294967296) : o + x * y + c < 18446744073709551616 ∧ (o + x * y + c) / 4294967296 < 4294967296 := by
  have h1 : x * y ≤ 4294967295 * 4294967295 := Nat.mul_le_mul (by omega) (by omega)
  constructor <;> omega
theorem Mul_calls {v u : AV} {x y : Nat} {h : H} {K : AV → H → Prop} (nv : Num 4294967296 h v x) (nu : Num 4294967296 h u y) (hx : Big x) (hy : Big y)
    (hk : ∀ r h', h'.wf → h.le h' → Num 4294967296 h' r (x * y) → K r h') : ACalls Try.prog 24 [v, u] h K := by
  obtain ⟨xs, hv, hxd, hxt, rfl, hxl⟩ := nv.open hx
  obtain ⟨ys, hu, hyd, hyt, rfl, hyl⟩ := nu.open hy
  obtain ⟨id, off, c, rfl⟩ := hv.form
  obtain ⟨id', off', c', rfl⟩ := hu.form
  refine in_ref02_Mul (by simp) fun hw => ?_
  unfold c_ref02_Mul
  have e0 : IntKind.i64.wrap ((xs.length : Int) + (ys.length : Int)) = ((xs.length + ys.length : Nat) : Int) := by rw [wI] <;> omega
  simp only [go_sem, ↓reduceIte, Nat.reduceEqDiff, Nat.reduceAdd, Bool.false_eq_true, Int.reduceToNat, e0]
  refine ⟨by omega, by omega, by omega, ?_⟩
  refine ⟨fun n ρ h' => h'.wf ∧ h.le h' ∧ ρ 0 = .sl id off xs.length c ∧ ρ 1 = .sl id' off' ys.length c' ∧ ∃ i out o c2, n = xs.length - i ∧ i ≤ xs.length ∧ ρ 6 = .int .i64 (i : Nat) ∧ ρ 5 = .sl o 0 (xs.length + ys.length) c2 ∧ IsG h.next h' (.sl o 0 (xs.length + ys.length) c2) out ∧ (∀ x ∈ out, x < 4294967296) ∧ out.length = xs.length + ys.length ∧
      (∀ k, i + ys.length ≤ k → out.getD k 0 = 0) ∧ val 4294967296 out = val 4294967296 (xs.take i) * val 4294967296 ys, xs.length,
    ⟨H.wf_new hw _, H.le_new hw (H.le_refl h) _, rfl, rfl, 0, List.replicate (xs.length + ys.length) 0, _, _, by omega, by omega, rfl, rfl, IsG.made (Nat.le_refl _) _, ?_, by simp, ?_, ?_⟩, ?_⟩
  · intro z hz
    rw [List.mem_replicate] at hz
    omega
  · intro k _
    simp [List.getD_eq_getElem?_getD, List.getElem?_replicate]
    split <;> rfl
  · rw [val_zero 4294967296 _ (fun z hz => (List.mem_replicate.1 hz).2)]
    simp [val]
  rintro n ρ h' ⟨hw', hle, h0, h1, i, out, o, c2, rfl, hi, h6, h5, hs, hod, hol, hoz, hov⟩
  rcases Nat.lt_or_ge i xs.length with hxi | hxi
  · simp only [go_sem, ↓reduceIte, Nat.reduceEqDiff, Nat.reduceAdd, Bool.false_eq_true, Int.reduceToNat, h0, h1, h5, h6, ltT hxi]
    have hxb := hxd _ (List.getElem_mem hxi)
    refine ⟨fun n ρ h' => h'.wf ∧ h.le h' ∧ ρ 0 = .sl id off xs.length c ∧ ρ 1 = .sl id' off' ys.length c' ∧ ρ 6 = .int .i64 (i : Nat) ∧ ρ 5 = .sl o 0 (xs.length + ys.length) c2 ∧ ∃ j out a, n = ys.length - j ∧ j ≤ ys.length ∧ ρ 8 = .int .i64 (j : Nat) ∧ ρ 7 = .int .u64 (a : Nat) ∧ a < 4294967296 ∧ IsG h.next h' (.sl o 0 (xs.length + ys.length) c2) out ∧ (∀ x ∈ out, x < 4294967296) ∧ out.length = xs.length + ys.length ∧
      (∀ k, i + ys.length ≤ k → out.getD k 0 = 0) ∧ val 4294967296 out + 4294967296 ^ (i + j) * a = val 4294967296 (xs.take i) * val 4294967296 ys + 4294967296 ^ i * (xs[i] * val 4294967296 (ys.take j)), ys.length,
      ⟨hw', hle, by first | rfl | trivial | assumption, by first | rfl | trivial | assumption, by first | rfl | trivial | assumption, by first | rfl | trivial | assumption, 0, out, 0, by omega, by omega, rfl, rfl, by omega, hs, hod, hol, hoz, ?_⟩, ?_⟩
    · rw [hov]; simp [val]
    rintro n ρ h' ⟨hw', hle, h0, h1, h6, h5, j, out, a, rfl, hj, h8, h7, ha, hs, hod, hol, hoz, hov⟩
    have eij : IntKind.i64.wrap ((i : Int) + (j : Int)) = ((i + j : Nat) : Int) := by rw [wI] <;> omega
    rcases Nat.lt_or_ge j ys.length with hyj | hyj
    · have hyb := hyd _ (List.getElem_mem hyj)
      obtain ⟨i1, rfl, _, hg⟩ := (hv.mono hle).at hxi
      obtain ⟨i2, rfl, _, hg'⟩ := (hu.mono hle).at hyj
      have hjo : i + j < out.length := by omega
      obtain ⟨i3, rfl, _, hgo⟩ := hs.isN.at hjo
      obtain ⟨i3', r, e3, hb3, hn3, hr3, ho3, hc3, hput⟩ := hs.put hw' hjo
      injection e3 with e3
      subst e3
      have hob := hod _ (List.getElem_mem hjo)
      have hset := val_set 4294967296 out (i + j)
      rw [Nat.zero_add] at hgo
      obtain ⟨f1, f2⟩ := fit32 hob hxb hyb ha
      have htk := val_take_succ 4294967296 ys j hyj
      have hsz := getD_at hjo
      generalize hx1 : xs[i] = p at *
      generalize hy1 : ys[j] = q at *
      generalize ho1 : out[i + j] = w at *
      simp only [go_sem, ↓reduceIte, Nat.reduceEqDiff, Nat.reduceAdd, Bool.false_eq_true, Int.reduceToNat, h0, h1, h5, h6, h7, h8, ltT hyj, eij, hg, hg', hgo, mulU (a := p) (b := q) (by omega), addU (a := w) (b := p * q) (by omega), addU (a := w + p * q) (b := a) (by omega), rem32, quo32 f1]
      refine ⟨by omega, by omega, by omega, by omega, by omega, by omega, by omega, by omega, by omega, ?_⟩
      have ej := incI (i := j) (by omega)
      simp only [go_sem, ↓reduceIte, Nat.reduceEqDiff, Nat.reduceAdd, Bool.false_eq_true, Int.reduceToNat, hr3, h0, h1, h5, h6, h8, ej, quo32 f1]
      refine ⟨ho3, hc3, by omega, ?_⟩
      refine ⟨ys.length - (j + 1), by omega, H.wf_set hw' hn3 _, H.le_set hw hle hb3 _, by first | rfl | trivial | assumption, by first | rfl | trivial | assumption, by first | rfl | trivial | assumption, by first | rfl | trivial | assumption, j + 1, _, _, rfl, by omega, rfl, rfl, f2, hput _, mem_set_lt hod (by omega), by simp; omega, fun k hk => ?_, ?_⟩
      · rw [getD_set, if_neg (by omega)]
        exact hoz k hk
      · have e1 := hset ((w + p * q + a) % 4294967296) hjo
        rw [ho1] at e1
        have e2 := digit_snoc (B := 4294967296) (q := 4294967296 ^ (i + j)) (s := w + p * q + a) (by omega)
        rw [show i + (j + 1) = i + j + 1 from rfl, Nat.pow_succ, htk]
        rw [Nat.mul_add, Nat.mul_add] at e2
        have e3 : 4294967296 ^ i * (p * (val 4294967296 (ys.take j) + 4294967296 ^ j * q)) = 4294967296 ^ i * (p * val 4294967296 (ys.take j)) + 4294967296 ^ (i + j) * (p * q) := by
          rw [Nat.mul_add, Nat.mul_add, Nat.pow_add, Nat.mul_left_comm p, Nat.mul_assoc]
        rw [e3]
        omega
    · have hjo : i + ys.length < out.length := by omega
      obtain ⟨i3', r, e3, hb3, hn3, hr3, ho3, hc3, hput⟩ := hs.put hw' hjo
      subst e3
      have eil : IntKind.i64.wrap ((i : Int) + (ys.length : Int)) = ((i + ys.length : Nat) : Int) := by rw [wI] <;> omega
      have ei := incI (i := i) (by omega)
      have hj' : j = ys.length := by omega
      subst hj'
      simp only [go_sem, ↓reduceIte, Nat.reduceEqDiff, Nat.reduceAdd, Bool.false_eq_true, Int.reduceToNat, h0, h1, h5, h6, h7, h8, ltF hyj, eil, hr3, ei]
      refine ⟨by omega, by omega, ho3, hc3, ?_⟩
      refine ⟨xs.length - (i + 1), by omega, H.wf_set hw' hn3 _, H.le_set hw hle hb3 _, by first | rfl | trivial | assumption, by first | rfl | trivial | assumption, i + 1, _, _, _, rfl, by omega, rfl, rfl, hput a, mem_set_lt hod ha, by simp; omega, fun k hk => ?_, ?_⟩
      · rw [getD_set, if_neg (by omega)]
        exact hoz k (by omega)
      · have e1 := val_set 4294967296 out (i + ys.length) a hjo
        rw [← getD_at hjo, hoz _ (Nat.le_refl _), Nat.mul_zero, Nat.add_zero, hov, List.take_length] at e1
        rw [e1, val_take_succ 4294967296 xs i hxi, Nat.add_mul, Nat.mul_assoc]
  · simp only [go_sem, ↓reduceIte, Nat.reduceEqDiff, Nat.reduceAdd, Bool.false_eq_true, Int.reduceToNat, h0, h1, h5, h6, ltF hxi]
    refine norm_num hs.isN hod (by omega) fun r hr => ?_
    simp only [go_sem, ↓reduceIte, Nat.reduceEqDiff, Nat.reduceAdd, Bool.false_eq_true, Int.reduceToNat]
    intro _
    refine hk r h' hw' hle ?_
    rw [List.take_of_length_le hxi] at hov
    rw [hov] at hr
    exact hr
end Ab
end Go.Proofs.Yteoagnggnekfiaa
