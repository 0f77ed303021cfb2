/- What the statement WordSums computes. No condition. -/
import Derived.Test.YteoagnggnekfiaaG10
import Derived.Test.YteoagnggnekfiaaE9
namespace Go.Proofs.Yteoagnggnekfiaa
namespace Ab
open Go Go.RowKit
set_option linter.unusedSimpArgs false
set_option linter.unusedVariables false
attribute [local go_sem ↓] x_mv x_pick x_bin x_beq x_peq x_idxS x_un x_cvI x_idx x_idxA x_fld x_ld x_st x_nn x_prt x_slc x_mk x_bsl x_bld x_box x_alloc x_len x_capo x_mnx x_app x_cpy x_mkf x_ext x_call x_callV x_bad s_none s_some s_nil s_cons s_chks w_skip w_reg w_seq w_cond w_block w_exit w_ret t_normal t_exit t_ret b_normal b_ret b_exit n_normal n_exit n_ret p_normal p_ret f_nil f_t f_c k_ops k_chk k_fin
attribute [local go_sem] e_t e_c e_f u_some u_none u_at env_at k_v k_pick k_add k_sub k_mul k_quo k_rem k_and k_or k_xor k_shl k_shr k_eql k_neq k_lss k_leq k_gtr k_geq k_beq k_peqn k_peqs k_neg k_not k_com k_cvI k_idxS k_idx k_idxA k_fld k_ld1 k_ldn k_get k_gets k_sti k_stb k_stp k_sts k_stf k_sta k_put k_nn k_prt1 k_prtn k_slc_a k_slc_b k_slc_c k_mk k_agg k_bsl k_box k_len k_lenS k_cap k_max k_min k_ext k_callV k_true k_false k_gtt k_gtf k_gft k_gsk k_gff k_lit1i k_lit2i k_lit3i k_c0 k_c1 k_ck List.getElem?_cons_zero List.getElem?_cons_succ List.getElem?_nil Option.getD_some Option.getD_none tupOf List.map_cons List.map_nil Option.map_some Option.map_none List.nil_append List.cons_append List.append_nil Nat.mul_one Int.toNat_natCast Nat.zero_add
def sumN (xs : List Nat) : Nat → Nat
  | 0 => 0
  | i + 1 => sumN xs i + xs.getD i 0
def dotN (xs ys : List Nat) : Nat → Nat
  | 0 => 0
  | i + 1 => dotN xs ys i + xs.getD i 0 * ys.getD i 0
theorem sumN_lt {xs : List Nat} (hx : ∀ x ∈ xs, x < 18446744073709551616) : ∀ i, sumN xs i ≤ i * 18446744073709551616
  | 0 => by simp [sumN]
  | i + 1 => by
    have := sumN_lt hx i
    have h2 := getD_lt (B := 18446744073709551616) (by omega) hx i
    simp only [sumN]
    omega
theorem dotN_lt {xs ys : List Nat} (hx : ∀ x ∈ xs, x < 18446744073709551616) (hy : ∀ y ∈ ys, y < 18446744073709551616) : ∀ i, dotN xs ys i ≤ i * 340282366920938463463374607431768211456
  | 0 => by simp [dotN]
  | i + 1 => by
    have := dotN_lt hx hy i
    have h2 := Nat.mul_lt_mul'' (getD_lt (B := 18446744073709551616) (by omega) hx i) (getD_lt (B := 18446744073709551616) (by omega) hy i)
    simp only [dotN]
    omega
theorem dotN_stop {xs ys : List Nat} {n : Nat} (h : xs.length ≤ n ∨ ys.length ≤ n) : ∀ k, dotN xs ys (n + k) = dotN xs ys n
  | 0 => rfl
  | k + 1 => by
    show dotN xs ys (n + k) + xs.getD (n + k) 0 * ys.getD (n + k) 0 = _
    rw [dotN_stop h k]
    rcases h with h | h
    · rw [getD_ge (show xs.length ≤ n + k by omega)]; simp
    · rw [getD_ge (show ys.length ≤ n + k by omega)]; simp
theorem sum_step {S w : Nat} (hw : w < 18446744073709551616) : (S % 18446744073709551616 + w + 0) % 18446744073709551616 = (S + w) % 18446744073709551616 ∧ (S / 18446744073709551616 % 18446744073709551616 + (S % 18446744073709551616 + w + 0) / 18446744073709551616) % 18446744073709551616 = (S + w) / 18446744073709551616 % 18446744073709551616 := by
  constructor <;> omega
theorem Sum_calls {v : AV} {xs : List Nat} {h : H} {K : AV → H → Prop} (hv : IsN h v xs) (hx : ∀ x ∈ xs, x < 18446744073709551616) (hl : xs.length ≤ 1000000)
    (hk : K (.tup [.int .u64 (sumN xs xs.length / 18446744073709551616 % 18446744073709551616 : Nat), .int .u64 (sumN xs xs.length % 18446744073709551616 : Nat)]) h) : ACalls Try.prog 50 [v] h K := by
  obtain ⟨id, off, c, rfl⟩ := hv.form
  refine in_word_Sum (by simp) fun hw => ?_
  unfold c_word_Sum
  simp only [go_sem, ↓reduceIte, Nat.reduceEqDiff, Nat.reduceAdd, Bool.false_eq_true, Int.reduceToNat]
  refine for_rule (fun i ρ h' => i ≤ xs.length ∧ h' = h ∧ ρ 8 = .sl id off xs.length c ∧ ρ 9 = .int .i64 xs.length ∧ ρ 10 = .int .i64 (i : Int) ∧ ρ 2 = .int .u64 (sumN xs i / 18446744073709551616 % 18446744073709551616 : Nat) ∧ ρ 3 = .int .u64 (sumN xs i % 18446744073709551616 : Nat)) xs.length ⟨by omega, rfl, rfl, rfl, rfl, by show AV.int IntKind.u64 0 = _; simp [sumN], by show AV.int IntKind.u64 0 = _; simp [sumN]⟩ (fun i ρ h hI => hI.1) ?_
  rintro i ρ h' ⟨hi, rfl, h8, h9, h10, h2, h3⟩
  rcases Nat.lt_or_ge i xs.length with hxi | hxi
  · obtain ⟨j, rfl, _, hg⟩ := hv.at hxi
    have hxb := hx _ (List.getElem_mem hxi)
    have e1 := getD_at hxi
    generalize xs[i] = w at *
    simp only [go_sem, ↓reduceIte, Nat.reduceEqDiff, Nat.reduceAdd, Bool.false_eq_true, Int.reduceToNat, h8, h9, h10, ltT hxi]
    refine ⟨by omega, by omega, ?_⟩
    simp only [go_sem, ↓reduceIte, Nat.reduceEqDiff, Nat.reduceAdd, Bool.false_eq_true, Int.reduceToNat, hg, h8, h9, h10, h2, h3]
    refine Add64_calls (c := 0) (by omega) hxb (by omega) ?_
    obtain ⟨s1, s2⟩ := sum_step (S := sumN xs i) hxb
    have w1 : IntKind.u64.wrap ((sumN xs i / 18446744073709551616 % 18446744073709551616 : Nat) + ((sumN xs i % 18446744073709551616 + w + 0) / 18446744073709551616 : Nat) : Int) = ((sumN xs (i + 1) / 18446744073709551616 % 18446744073709551616 : Nat) : Int) := by
      rw [wUm, show sumN xs (i + 1) = sumN xs i + w from by rw [← e1]; rfl, ← s2]
      omega
    simp only [go_sem, ↓reduceIte, Nat.reduceEqDiff, Nat.reduceAdd, Bool.false_eq_true, Int.reduceToNat, h8, h9, h10, h2, h3, w1, incI (i := i) (by omega)]
    refine ⟨by omega, trivial, trivial, trivial, trivial, trivial, ?_⟩
    rw [show sumN xs (i + 1) = sumN xs i + w from by rw [← e1]; rfl, ← s1]
  · have : i = xs.length := by omega
    subst this
    simp only [go_sem, ↓reduceIte, Nat.reduceEqDiff, Nat.reduceAdd, Bool.false_eq_true, Int.reduceToNat, h8, h9, h10, h2, h3, ltF (Nat.le_refl xs.length)]
    exact fun _ => hk
theorem dot_step {D p hi lo : Nat} (hp : p < 340282366920938463463374607431768211456) (h1 : hi = p / 18446744073709551616) (h2 : lo = p % 18446744073709551616) :
    (D % 18446744073709551616 + lo + 0) % 18446744073709551616 = (D + p) % 18446744073709551616 ∧ (D / 18446744073709551616 % 18446744073709551616 + hi + (D % 18446744073709551616 + lo + 0) / 18446744073709551616) % 18446744073709551616 = (D + p) / 18446744073709551616 % 18446744073709551616 ∧ (D % 18446744073709551616 + lo + 0) / 18446744073709551616 ≤ 1 ∧
    (D / 340282366920938463463374607431768211456 % 18446744073709551616 + (D / 18446744073709551616 % 18446744073709551616 + hi + (D % 18446744073709551616 + lo + 0) / 18446744073709551616) / 18446744073709551616) % 18446744073709551616 = (D + p) / 340282366920938463463374607431768211456 % 18446744073709551616 := by
  subst h1; subst h2
  refine ⟨by omega, by omega, by omega, ?_⟩
  have e : D / 18446744073709551616 / 18446744073709551616 = D / 340282366920938463463374607431768211456 := by rw [Nat.div_div_eq_div_mul]
  have e' : (D + p) / 18446744073709551616 / 18446744073709551616 = (D + p) / 340282366920938463463374607431768211456 := by rw [Nat.div_div_eq_div_mul]
  rw [← e, ← e']
  have e1 : (D + p) / 18446744073709551616 = D / 18446744073709551616 + p / 18446744073709551616 + (D % 18446744073709551616 + p % 18446744073709551616 + 0) / 18446744073709551616 := by omega
  rw [e1]
  generalize (D % 18446744073709551616 + p % 18446744073709551616 + 0) / 18446744073709551616 = c
  generalize D / 18446744073709551616 = X
  omega
theorem Dot_calls {v u : AV} {xs ys : List Nat} {h : H} {K : AV → H → Prop} (hv : IsN h v xs) (hx : ∀ x ∈ xs, x < 18446744073709551616) (hl : xs.length ≤ 1000000) (hu : IsN h u ys) (hy : ∀ y ∈ ys, y < 18446744073709551616) (hl' : ys.length ≤ 1000000)
    (hk : K (.tup [.int .u64 (dotN xs ys (min xs.length ys.length) / 340282366920938463463374607431768211456 % 18446744073709551616 : Nat), .int .u64 (dotN xs ys (min xs.length ys.length) / 18446744073709551616 % 18446744073709551616 : Nat), .int .u64 (dotN xs ys (min xs.length ys.length) % 18446744073709551616 : Nat)]) h) :
    ACalls Try.prog 51 [v, u] h K := by
  obtain ⟨id, off, c, rfl⟩ := hv.form
  obtain ⟨id', off', c', rfl⟩ := hu.form
  refine in_word_Dot (by simp) fun hw => ?_
  unfold c_word_Dot
  simp only [go_sem, ↓reduceIte, Nat.reduceEqDiff, Nat.reduceAdd, Bool.false_eq_true, Int.reduceToNat]
  refine for_rule (fun i ρ h' => i ≤ min xs.length ys.length ∧ h' = h ∧ ρ 0 = .sl id off xs.length c ∧ ρ 1 = .sl id' off' ys.length c' ∧ ρ 7 = .int .i64 (i : Int) ∧ ρ 4 = .int .u64 (dotN xs ys i / 340282366920938463463374607431768211456 % 18446744073709551616 : Nat) ∧ ρ 5 = .int .u64 (dotN xs ys i / 18446744073709551616 % 18446744073709551616 : Nat) ∧ ρ 6 = .int .u64 (dotN xs ys i % 18446744073709551616 : Nat)) (min xs.length ys.length) ⟨by omega, rfl, rfl, rfl, rfl, by show AV.int IntKind.u64 0 = _; simp [dotN], by show AV.int IntKind.u64 0 = _; simp [dotN], by show AV.int IntKind.u64 0 = _; simp [dotN]⟩ (fun i ρ h hI => hI.1) ?_
  rintro i ρ h' ⟨hi, rfl, h0, h1, h7, h4, h5, h6⟩
  have fin : i = min xs.length ys.length → K (.tup [.int .u64 (dotN xs ys i / 340282366920938463463374607431768211456 % 18446744073709551616 : Nat), .int .u64 (dotN xs ys i / 18446744073709551616 % 18446744073709551616 : Nat), .int .u64 (dotN xs ys i % 18446744073709551616 : Nat)]) h' := fun e => by rw [e]; exact hk
  rcases Nat.lt_or_ge i xs.length with hxi | hxi
  · rcases Nat.lt_or_ge i ys.length with hyi | hyi
    · obtain ⟨j, rfl, _, hg⟩ := hv.at hxi
      obtain ⟨j', rfl, _, hg'⟩ := hu.at hyi
      have hxb := hx _ (List.getElem_mem hxi)
      have hyb := hy _ (List.getElem_mem hyi)
      have e1 := getD_at hxi
      have e2 := getD_at hyi
      generalize xs[i] = p at *
      generalize ys[i] = q at *
      simp only [go_sem, ↓reduceIte, Nat.reduceEqDiff, Nat.reduceAdd, Bool.false_eq_true, Int.reduceToNat, h0, h1, h7, ltT hxi, ltT hyi]
      refine ⟨by omega, by omega, ?_⟩
      simp only [go_sem, ↓reduceIte, Nat.reduceEqDiff, Nat.reduceAdd, Bool.false_eq_true, Int.reduceToNat, hg, h0, h1, h7]
      refine ⟨by omega, by omega, ?_⟩
      simp only [go_sem, ↓reduceIte, Nat.reduceEqDiff, Nat.reduceAdd, Bool.false_eq_true, Int.reduceToNat, hg', h0, h1, h7]
      refine Mul64_calls hxb hyb ?_
      have hpq : p * q < 340282366920938463463374607431768211456 := by
        have := Nat.mul_lt_mul'' hxb hyb
        omega
      have eD : dotN xs ys (i + 1) = dotN xs ys i + p * q := by rw [← e1, ← e2]; rfl
      obtain ⟨s1, s2, s3, s4⟩ := dot_step (D := dotN xs ys i) hpq rfl rfl
      have b1 : p * q / 18446744073709551616 < 18446744073709551616 := by omega
      have b2 : p * q % 18446744073709551616 < 18446744073709551616 := Nat.mod_lt _ (by decide)
      rw [← eD] at s1 s2 s4
      generalize p * q / 18446744073709551616 = hi' at *
      generalize p * q % 18446744073709551616 = lo' at *
      simp only [go_sem, ↓reduceIte, Nat.reduceEqDiff, Nat.reduceAdd, Bool.false_eq_true, Int.reduceToNat, h0, h1, h7, h4, h5, h6]
      refine Add64_calls (c := 0) (Nat.mod_lt _ (by decide)) b2 (by omega) ?_
      simp only [go_sem, ↓reduceIte, Nat.reduceEqDiff, Nat.reduceAdd, Bool.false_eq_true, Int.reduceToNat, h0, h1, h7, h4, h5, h6]
      refine Add64_calls (Nat.mod_lt _ (by decide)) b1 s3 ?_
      have w1 : IntKind.u64.wrap ((dotN xs ys i / 340282366920938463463374607431768211456 % 18446744073709551616 : Nat) + ((dotN xs ys i / 18446744073709551616 % 18446744073709551616 + hi' + (dotN xs ys i % 18446744073709551616 + lo' + 0) / 18446744073709551616) / 18446744073709551616 : Nat) : Int) = ((dotN xs ys (i + 1) / 340282366920938463463374607431768211456 % 18446744073709551616 : Nat) : Int) := by
        rw [wUm, ← s4]
        generalize dotN xs ys i / 340282366920938463463374607431768211456 % 18446744073709551616 = a
        generalize (dotN xs ys i / 18446744073709551616 % 18446744073709551616 + hi' + (dotN xs ys i % 18446744073709551616 + lo' + 0) / 18446744073709551616) / 18446744073709551616 = b
        clear s1 s2 s3 s4
        omega
      simp only [go_sem, ↓reduceIte, Nat.reduceEqDiff, Nat.reduceAdd, Bool.false_eq_true, Int.reduceToNat, h0, h1, h7, h4, h5, h6, w1, s1, s2, incI (i := i) (by omega)]
      exact ⟨by omega, trivial, trivial, trivial, trivial, trivial, trivial, trivial⟩
    · simp only [go_sem, ↓reduceIte, Nat.reduceEqDiff, Nat.reduceAdd, Bool.false_eq_true, Int.reduceToNat, h0, h1, h7, h4, h5, h6, ltT hxi, ltF hyi]
      exact fun _ => fin (by omega)
  · simp only [go_sem, ↓reduceIte, Nat.reduceEqDiff, Nat.reduceAdd, Bool.false_eq_true, Int.reduceToNat, h0, h1, h7, h4, h5, h6, ltF hxi]
    exact fun _ => fin (by omega)
theorem two_of {S : Nat} (h : S < 340282366920938463463374607431768211456) : S / 18446744073709551616 % 18446744073709551616 * 18446744073709551616 + S % 18446744073709551616 = S := by omega
theorem three_of {S : Nat} (h : S < 6277101735386680763835789423207666416102355444464034512896) : (S / 340282366920938463463374607431768211456 % 18446744073709551616 * 18446744073709551616 + S / 18446744073709551616 % 18446744073709551616) * 18446744073709551616 + S % 18446744073709551616 = S := by
  have e : S / 340282366920938463463374607431768211456 = S / 18446744073709551616 / 18446744073709551616 := by rw [Nat.div_div_eq_div_mul]
  rw [e]
  omega
theorem WordSums_law {v u : AV} {xs ys : List Nat} {h : H} {K : AV → H → Prop} (hv0 : IsN h v xs) (hx0 : ∀ x ∈ xs, x < 18446744073709551616) (hu0 : IsN h u ys) (hy0 : ∀ y ∈ ys, y < 18446744073709551616) (hk : ∀ h', h'.wf → h.le h' → K (.bool true) h') : ACalls Try.prog 14 [v, u] h K := by
  refine in_law01_WordSums (by simp) fun hw => ?_
  unfold c_law01_WordSums
  simp only [go_sem, ↓reduceIte, Nat.reduceEqDiff, Nat.reduceAdd, Bool.false_eq_true, Int.reduceToNat]
  refine Cut_calls (n := 60) hv0 fun a hv => ?_
  simp only [go_sem, ↓reduceIte, Nat.reduceEqDiff, Nat.reduceAdd, Bool.false_eq_true, Int.reduceToNat]
  refine Cut_calls (n := 60) hu0 fun b hu => ?_
  simp only [go_sem, ↓reduceIte, Nat.reduceEqDiff, Nat.reduceAdd, Bool.false_eq_true, Int.reduceToNat]
  have hx : ∀ x ∈ xs.take 60, x < 18446744073709551616 := fun x hx => hx0 x (List.mem_of_mem_take hx)
  have hy : ∀ y ∈ ys.take 60, y < 18446744073709551616 := fun y hy => hy0 y (List.mem_of_mem_take hy)
  have hxl : (xs.take 60).length ≤ 60 := by simp; omega
  have hyl : (ys.take 60).length ≤ 60 := by simp; omega
  generalize xs.take 60 = ps at *
  generalize ys.take 60 = qs at *
  clear hv0 hu0 hx0 hy0
  refine Lend_calls hv (by omega) fun x h1 hw1 hl1 lx => ?_
  simp only [go_sem, ↓reduceIte, Nat.reduceEqDiff, Nat.reduceAdd, Bool.false_eq_true, Int.reduceToNat]
  refine Lend_calls (hu.mono hl1) (by omega) fun y h2 hw2 hl2 ly => ?_
  simp only [go_sem, ↓reduceIte, Nat.reduceEqDiff, Nat.reduceAdd, Bool.false_eq_true, Int.reduceToNat]
  have lx := lx.mono hl2
  refine Sum_calls lx.isN hx (by omega) ?_
  simp only [go_sem, ↓reduceIte, Nat.reduceEqDiff, Nat.reduceAdd, Bool.false_eq_true, Int.reduceToNat]
  refine Dot_calls lx.isN hx (by omega) ly.isN hy (by omega) ?_
  simp only [go_sem, ↓reduceIte, Nat.reduceEqDiff, Nat.reduceAdd, Bool.false_eq_true, Int.reduceToNat]
  have hS := sumN_lt hx ps.length
  have hD := dotN_lt hx hy ps.length
  have eD : dotN ps qs (min ps.length qs.length) = dotN ps qs ps.length := by
    have := dotN_stop (xs := ps) (ys := qs) (n := min ps.length qs.length) (by omega) (ps.length - min ps.length qs.length)
    rw [← this]
    congr 1
    omega
  rw [eD]
  have hS2 : sumN ps ps.length < 340282366920938463463374607431768211456 := by omega
  have hD2 : dotN ps qs ps.length < 6277101735386680763835789423207666416102355444464034512896 := by omega
  have hva := hv.mono (H.le_trans hl1 hl2)
  have hub := hu.mono (H.le_trans hl1 hl2)
  have hle2 := (H.le_trans hl1 hl2)
  generalize hW2 : dotN ps qs ps.length / 340282366920938463463374607431768211456 % 18446744073709551616 = W2 at *
  generalize hW1 : dotN ps qs ps.length / 18446744073709551616 % 18446744073709551616 = W1 at *
  generalize hW0 : dotN ps qs ps.length % 18446744073709551616 = W0 at *
  generalize hV1 : sumN ps ps.length / 18446744073709551616 % 18446744073709551616 = V1 at *
  generalize hV0 : sumN ps ps.length % 18446744073709551616 = V0 at *
  refine for_rule (fun i ρ h' => i ≤ ps.length ∧ h'.wf ∧ h2.le h' ∧ ρ 0 = a ∧ ρ 1 = b ∧ ρ 5 = x ∧ ρ 6 = y ∧ ρ 7 = .int .u64 (V1 : Int) ∧ ρ 8 = .int .u64 (V0 : Int) ∧ ρ 9 = .int .u64 (W2 : Int) ∧ ρ 10 = .int .u64 (W1 : Int) ∧ ρ 11 = .int .u64 (W0 : Int) ∧ ρ 14 = .int .i64 (i : Int) ∧
    Num 4294967296 h' (ρ 12) (sumN ps i) ∧ Num 4294967296 h' (ρ 13) (dotN ps qs i)) ps.length ⟨by omega, hw2, H.le_refl _, rfl, rfl, rfl, rfl, rfl, rfl, rfl, rfl, rfl, rfl, ⟨[], IsN.nil _ _, by simp, by simp, rfl⟩, ⟨[], IsN.nil _ _, by simp, by simp, rfl⟩⟩ (fun i ρ h hI => hI.1) ?_
  rintro i ρ h' ⟨hi, hw', hle, h0, h1', h5, h6, h7, h8, h9, h10, h11, h14, n12, n13⟩
  obtain ⟨id, off, c, rfl⟩ := hv.form
  obtain ⟨id', off', c', rfl⟩ := hu.form
  rcases Nat.lt_or_ge i ps.length with hxi | hxi
  · have hSi := sumN_lt hx i
    have hDi := dotN_lt hx hy i
    obtain ⟨j, rfl, _, hg⟩ := (hva.mono hle).at hxi
    have hxb := hx _ (List.getElem_mem hxi)
    have e1 : sumN ps (i + 1) = sumN ps i + ps[i] := by rw [← getD_at hxi]; rfl
    have e2 : dotN ps qs (i + 1) = dotN ps qs i + ps[i] * qs.getD i 0 := by rw [← getD_at hxi]; rfl
    generalize hp : ps[i] = p at *
    simp only [go_sem, ↓reduceIte, Nat.reduceEqDiff, Nat.reduceAdd, Bool.false_eq_true, Int.reduceToNat, h0, h1', h14, ltT hxi]
    refine ⟨by omega, by omega, ?_⟩
    simp only [go_sem, ↓reduceIte, Nat.reduceEqDiff, Nat.reduceAdd, Bool.false_eq_true, Int.reduceToNat, hg, h0, h1', h14]
    refine Small_calls hxb fun r3 g3 hw3 hl3 n3 => ?_
    simp only [go_sem, ↓reduceIte, Nat.reduceEqDiff, Nat.reduceAdd, Bool.false_eq_true, Int.reduceToNat]
    refine Add_calls (n12.mono hl3) n3 (Big.w2 (by omega)) (Big.w1 hxb) fun r4 g4 hw4 hl4 n4 => ?_
    simp only [go_sem, ↓reduceIte, Nat.reduceEqDiff, Nat.reduceAdd, Bool.false_eq_true, Int.reduceToNat, h0, h1', h14]
    rcases Nat.lt_or_ge i qs.length with hyi | hyi
    · obtain ⟨j', rfl, _, hg'⟩ := (hub.mono (H.le_trans hle (H.le_trans hl3 hl4))).at hyi
      obtain ⟨j2, hj2, _, hg2⟩ := (hva.mono (H.le_trans hle (H.le_trans hl3 hl4))).at hxi
      have hyb := hy _ (List.getElem_mem hyi)
      rw [getD_at hyi] at e2
      injection hj2 with hj2
      subst hj2
      rw [hp] at hg2
      generalize hq : qs[i] = q at *
      have hpq : p * q < 340282366920938463463374607431768211456 := by
        have := Nat.mul_lt_mul'' hxb hyb
        omega
      simp only [go_sem, ↓reduceIte, Nat.reduceEqDiff, Nat.reduceAdd, Bool.false_eq_true, Int.reduceToNat, h0, h1', h14, ltT hyi]
      refine ⟨by omega, by omega, ?_⟩
      simp only [go_sem, ↓reduceIte, Nat.reduceEqDiff, Nat.reduceAdd, Bool.false_eq_true, Int.reduceToNat, hg2, h0, h1', h14]
      refine ⟨by omega, by omega, ?_⟩
      simp only [go_sem, ↓reduceIte, Nat.reduceEqDiff, Nat.reduceAdd, Bool.false_eq_true, Int.reduceToNat, hg', h0, h1', h14]
      refine Small_calls hxb fun r5 g5 hw5 hl5 n5 => ?_
      obtain ⟨j3, hj3, _, hg3⟩ := (hub.mono (H.le_trans hle (H.le_trans hl3 (H.le_trans hl4 hl5)))).at hyi
      injection hj3 with hj3
      subst hj3
      rw [hq] at hg3
      simp only [go_sem, ↓reduceIte, Nat.reduceEqDiff, Nat.reduceAdd, Bool.false_eq_true, Int.reduceToNat, hg3, and_true]
      refine ⟨trivial, ?_⟩
      refine Small_calls hyb fun r6 g6 hw6 hl6 n6 => ?_
      simp only [go_sem, ↓reduceIte, Nat.reduceEqDiff, Nat.reduceAdd, Bool.false_eq_true, Int.reduceToNat]
      refine Mul_calls (n5.mono hl6) n6 (Big.w1 hxb) (Big.w1 hyb) fun r7 g7 hw7 hl7 n7 => ?_
      simp only [go_sem, ↓reduceIte, Nat.reduceEqDiff, Nat.reduceAdd, Bool.false_eq_true, Int.reduceToNat, h0, h1', h14]
      refine Add_calls (n13.mono (H.le_trans hl3 (H.le_trans hl4 (H.le_trans hl5 (H.le_trans hl6 hl7))))) n7 (Big.w3 (by omega)) (Big.w2 hpq) fun r8 g8 hw8 hl8 n8 => ?_
      simp only [go_sem, ↓reduceIte, Nat.reduceEqDiff, Nat.reduceAdd, Bool.false_eq_true, Int.reduceToNat, h0, h1', h5, h6, h7, h8, h9, h10, h11, h14, incI (i := i) (by omega)]
      rw [e1, e2]
      exact ⟨by omega, hw8, (H.le_trans hle (H.le_trans hl3 (H.le_trans hl4 (H.le_trans hl5 (H.le_trans hl6 (H.le_trans hl7 hl8)))))), trivial, trivial, trivial, trivial, trivial, trivial, trivial, trivial, trivial, trivial, n4.mono (H.le_trans hl5 (H.le_trans hl6 (H.le_trans hl7 hl8))), n8⟩
    · rw [getD_ge hyi, Nat.mul_zero, Nat.add_zero] at e2
      simp only [go_sem, ↓reduceIte, Nat.reduceEqDiff, Nat.reduceAdd, Bool.false_eq_true, Int.reduceToNat, h0, h1', h5, h6, h7, h8, h9, h10, h11, h14, ltF hyi, incI (i := i) (by omega)]
      rw [e1, e2]
      exact ⟨by omega, hw4, (H.le_trans hle (H.le_trans hl3 hl4)), trivial, trivial, trivial, trivial, trivial, trivial, trivial, trivial, trivial, trivial, n4, n13.mono (H.le_trans hl3 hl4)⟩
  · have : i = ps.length := by omega
    subst this
    have eS := two_of hS2
    have eT := three_of hD2
    have bV1 : V1 < 18446744073709551616 := by rw [← hV1]; exact Nat.mod_lt _ (by decide)
    have bV0 : V0 < 18446744073709551616 := by rw [← hV0]; exact Nat.mod_lt _ (by decide)
    have bW2 : W2 < 18446744073709551616 := by rw [← hW2]; exact Nat.mod_lt _ (by decide)
    have bW1 : W1 < 18446744073709551616 := by rw [← hW1]; exact Nat.mod_lt _ (by decide)
    have bW0 : W0 < 18446744073709551616 := by rw [← hW0]; exact Nat.mod_lt _ (by decide)
    rw [hV1, hV0] at eS
    rw [hW2, hW1, hW0] at eT
    clear hV1 hV0 hW2 hW1 hW0 eD
    simp only [go_sem, ↓reduceIte, Nat.reduceEqDiff, Nat.reduceAdd, Bool.false_eq_true, Int.reduceToNat, h0, h1', h5, h6, h7, h8, h9, h10, h11, h14, ltF (Nat.le_refl ps.length)]
    refine two_calls bV1 bV0 fun r3 g3 hw3 hl3 n3 => ?_
    rw [eS] at n3
    simp only [go_sem, ↓reduceIte, Nat.reduceEqDiff, Nat.reduceAdd, Bool.false_eq_true, Int.reduceToNat, h0, h1', h5, h6, h7, h8, h9, h10, h11, h14]
    refine rLow_calls (n := 128) (n12.mono hl3) (Big.w2 hS2) (by omega) fun r4 g4 hw4 hl4 n4 => ?_
    rw [Nat.mod_eq_of_lt (show sumN ps ps.length < 2 ^ 128 from hS2)] at n4
    simp only [go_sem, ↓reduceIte, Nat.reduceEqDiff, Nat.reduceAdd, Bool.false_eq_true, Int.reduceToNat]
    refine Cmp_calls (n3.mono hl4) n4 (Big.w2 hS2) (Big.w2 hS2) ?_
    simp only [go_sem, ↓reduceIte, Nat.reduceEqDiff, Nat.reduceAdd, Bool.false_eq_true, Int.reduceToNat, cmpI_eq, h0, h1', h5, h6, h7, h8, h9, h10, h11]
    refine three_calls bW2 bW1 bW0 fun r5 g5 hw5 hl5 n5 => ?_
    rw [eT] at n5
    simp only [go_sem, ↓reduceIte, Nat.reduceEqDiff, Nat.reduceAdd, Bool.false_eq_true, Int.reduceToNat, h0, h1', h5, h6, h7, h8, h9, h10, h11]
    refine rLow_calls (n := 192) (n13.mono (H.le_trans hl3 (H.le_trans hl4 hl5))) (Big.w3 hD2) (by omega) fun r6 g6 hw6 hl6 n6 => ?_
    rw [Nat.mod_eq_of_lt (show dotN ps qs ps.length < 2 ^ 192 from hD2)] at n6
    simp only [go_sem, ↓reduceIte, Nat.reduceEqDiff, Nat.reduceAdd, Bool.false_eq_true, Int.reduceToNat]
    refine Cmp_calls (n5.mono hl6) n6 (Big.w3 hD2) (Big.w3 hD2) ?_
    have hle3 := (H.le_trans hle (H.le_trans hl3 (H.le_trans hl4 (H.le_trans hl5 hl6))))
    simp only [go_sem, ↓reduceIte, Nat.reduceEqDiff, Nat.reduceAdd, Bool.false_eq_true, Int.reduceToNat, cmpI_eq, h0, h1', h5, h6]
    refine Intact_calls (lx.mono hle3) (hva.mono hle3) (by omega) ?_
    simp only [go_sem, ↓reduceIte, Nat.reduceEqDiff, Nat.reduceAdd, Bool.false_eq_true, Int.reduceToNat, h0, h1', h5, h6]
    refine Intact_calls (ly.mono hle3) (hub.mono hle3) (by omega) ?_
    simp only [go_sem, ↓reduceIte, Nat.reduceEqDiff, Nat.reduceAdd, Bool.false_eq_true, Int.reduceToNat]
    refine wakes01_calls fun _ => ?_
    simp only [go_sem, ↓reduceIte, Nat.reduceEqDiff, Nat.reduceAdd, Bool.false_eq_true, Int.reduceToNat]
    exact fun hw' => hk g6 hw' (H.le_trans hle2 hle3)
theorem WordSums_row (h : H) (avs : List AV) (_ : h.wf) (r : ReadsAll Try.prog h [33, 33] avs) : ACalls Try.prog 14 avs h (fun r _ => r = .bool true) := by
  match avs, r with
  | [_, _], ⟨r0, r1, _⟩ =>
    obtain ⟨xs, h1, h2, _⟩ := reads_words r0
    obtain ⟨ys, h3, h4, _⟩ := reads_words r1
    exact WordSums_law h1 h2 h3 h4 fun _ _ _ => rfl
end Ab
end Go.Proofs.Yteoagnggnekfiaa
