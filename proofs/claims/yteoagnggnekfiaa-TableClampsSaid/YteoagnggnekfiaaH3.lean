/- Routes and costs: what the package reckons. No condition. -/
import Derived.Test.YteoagnggnekfiaaH2
namespace Go.Proofs.Yteoagnggnekfiaa
namespace Ab
open Go Go.RowKit
set_option linter.unusedSimpArgs false
set_option linter.unusedVariables false
attribute [local go_sem ↓] x_mv x_pick x_bin x_beq x_peq x_seq x_cat x_aeq x_idxS x_un x_cvI x_idx x_idxA x_fld x_ld x_st x_nn x_prt x_slc x_mk x_bsl x_bld x_box x_alloc x_len x_capo x_mnx x_app x_cpy x_mkf x_ext x_call x_callV x_bad s_none s_some s_nil s_cons s_chks w_skip w_reg w_seq w_cond w_block w_exit w_ret t_normal t_exit t_ret b_normal b_ret b_exit n_normal n_exit n_ret p_normal p_ret f_nil f_t f_c k_ops k_chk k_fin
attribute [local go_sem] e_t e_c e_f u_some u_none u_at env_at k_v k_pick k_add k_sub k_mul k_quo k_rem k_and k_or k_xor k_shl k_shr k_eql k_neq k_lss k_leq k_gtr k_geq k_beq k_peqn k_peqs k_neg k_not k_com k_cvI k_idxS k_idx k_idxA k_idxG k_ldG k_gld k_seq k_cat k_aeq k_eqs k_fld k_ld1 k_ldn k_get k_gets k_sti k_stb k_stp k_sts k_stf k_sta k_put k_nn k_prt1 k_prtn k_slc_a k_slc_b k_slc_c k_mk k_agg k_bsl k_box k_len k_lenS k_cap k_max k_min k_ext k_callV k_true k_false k_gtt k_gtf k_gft k_gsk k_gff k_lit1i k_lit2i k_lit3i k_c0 k_c1 k_ck List.getElem?_cons_zero List.getElem?_cons_succ List.getElem?_nil Option.getD_some Option.getD_none tupOf List.map_cons List.map_nil Option.map_some Option.map_none List.nil_append List.cons_append List.append_nil Nat.mul_one Int.toNat_natCast Nat.zero_add
/-- A table whose first entries are these. -/
structure Tb.is (t : Tb) (B T N : Nat) : Prop where
  base : t.base = B
  toom : t.toom = T
  ntt : t.ntt = N
  ok : TOk B T N
  t2 : T ≤ 8192
  n2 : N ≤ 16384
theorem clamp_is (t : Tb) : ∃ B T N, (clampT t).is B T N := by
  refine ⟨(clampT t).base.toNat, (clampT t).toom.toNat, (clampT t).ntt.toNat, ?_, ?_, ?_, ⟨?_, ?_, ?_, ?_⟩, ?_, ?_⟩ <;> simp only [clampT] <;> omega
theorem clamp_clamp (t : Tb) : clampT (clampT t) = clampT t := by
  simp only [clampT, Tb.mk.injEq]
  refine ⟨?_, ?_, ?_, ?_, ?_, ?_, ?_, ?_, ?_, ?_, ?_⟩ <;> omega
theorem wNI {n : Nat} (h : n < 9223372036854775808) : IntKind.i64.wrap (n : Int) = (n : Int) := wI (by omega) (by omega)
theorem addI {a b : Nat} (h : a + b < 9223372036854775808) : IntKind.i64.wrap ((a : Int) + (b : Int)) = ((a + b : Nat) : Int) := by rw [wI] <;> omega
theorem subI {a b : Nat} (hb : b ≤ a) (h : a < 9223372036854775808) : IntKind.i64.wrap ((a : Int) - (b : Int)) = ((a - b : Nat) : Int) := by rw [wI] <;> omega
theorem mulI {a b : Nat} (h : a * b < 9223372036854775808) : IntKind.i64.wrap ((a : Int) * (b : Int)) = ((a * b : Nat) : Int) := by
  rw [← Int.natCast_mul, wI] <;> omega
theorem route_calls {t : Tb} {B T N n m : Nat} {h : H} {K : AV → H → Prop} (ht : t.is B T N) (hn : n ≤ 1048576) (hm : m ≤ 1048576) (hk : ∀ h' (r : Int), h'.wf → h.le h' → r = (routeF B T N n m : Nat) → K (.int .i64 r) h') :
    ACalls Try.prog 66 [t.av, .int .i64 (n : Int), .int .i64 (m : Int)] h K := by
  obtain ⟨hb, htm, hnt, ⟨b1, b2, t1, n1⟩, t2, n2⟩ := ht
  refine in_table_route (by simp) fun hw => ?_
  unfold c_table_route
  have e1 : IntKind.i64.wrap ((n : Int) + 2) = ((n + 2 : Nat) : Int) := by rw [wI] <;> omega
  have e2 : ((n + 2 : Nat) : Int).tdiv 3 = (((n + 2) / 3 : Nat) : Int) := tdivN (b := 3)
  have e3 : IntKind.i64.wrap (((n + 2) / 3 : Nat) : Int) = (((n + 2) / 3 : Nat) : Int) := wNI (by omega)
  have e4 : IntKind.i64.wrap (2 * (m : Int)) = ((2 * m : Nat) : Int) := by rw [wI] <;> omega
  have e5 := incI (i := n) (by omega)
  have e6 := addI (a := n) (b := m) (by omega)
  have e7 : IntKind.i64.wrap (2 * (((n + 2) / 3 : Nat) : Int)) = ((2 * ((n + 2) / 3) : Nat) : Int) := by rw [wI] <;> omega
  have fin : ∀ r : Int, r = (routeF B T N n m : Nat) → K (.int .i64 r) (h.new ⟨some 23, 11, t.cells⟩) := fun r hr => hk _ r (H.wf_new hw _) (H.le_new hw (H.le_refl h) _) hr
  simp only [Tb.cells, hb, htm, hnt] at fin
  simp only [go_sem, ↓reduceIte, Nat.reduceEqDiff, Nat.reduceAdd, Bool.false_eq_true, Int.reduceToNat, av_held, av_cells, cells_len, true_and, e1, e2, e3, Tb.cells, hb, htm, hnt]
  refine ⟨by omega, ?_⟩
  by_cases h0 : m = 0
  · simp only [go_sem, ↓reduceIte, Nat.reduceEqDiff, Nat.reduceAdd, Bool.false_eq_true, Int.reduceToNat, eqT (show (m : Int) = 0 by omega)]
    exact fun _ => fin 0 (by simp [routeF, h0])
  by_cases h1 : m < B
  · simp only [go_sem, ↓reduceIte, Nat.reduceEqDiff, Nat.reduceAdd, Bool.false_eq_true, Int.reduceToNat, eqF (show (m : Int) ≠ 0 by omega), g_new, ltT h1]
    exact fun _ => fin 1 (by simp [routeF, h0, h1])
  by_cases h2 : 2 * m ≤ n + 1
  · simp only [go_sem, ↓reduceIte, Nat.reduceEqDiff, Nat.reduceAdd, Bool.false_eq_true, Int.reduceToNat, eqF (show (m : Int) ≠ 0 by omega), g_new, ltF (show B ≤ m by omega), e4, e5, leT h2]
    exact fun _ => fin 2 (by simp [routeF, h0, h1, h2])
  by_cases h3 : m < T
  · simp only [go_sem, ↓reduceIte, Nat.reduceEqDiff, Nat.reduceAdd, Bool.false_eq_true, Int.reduceToNat, eqF (show (m : Int) ≠ 0 by omega), g_new, ltF (show B ≤ m by omega), e4, e5, leF (show n + 1 < 2 * m by omega), ltT h3]
    exact fun _ => fin 3 (by simp [routeF, h0, h1, h2, h3])
  by_cases h5 : N ≤ n + m
  · simp only [go_sem, ↓reduceIte, Nat.reduceEqDiff, Nat.reduceAdd, Bool.false_eq_true, Int.reduceToNat, eqF (show (m : Int) ≠ 0 by omega), g_new, ltF (show B ≤ m by omega), e4, e5, leF (show n + 1 < 2 * m by omega), ltF (show T ≤ m by omega), e6, leT h5]
    exact fun _ => fin 5 (by simp [routeF, h0, h1, h2, h3, h5])
  by_cases h4 : 2 * ((n + 2) / 3) < m
  · simp only [go_sem, ↓reduceIte, Nat.reduceEqDiff, Nat.reduceAdd, Bool.false_eq_true, Int.reduceToNat, eqF (show (m : Int) ≠ 0 by omega), g_new, ltF (show B ≤ m by omega), e4, e5, leF (show n + 1 < 2 * m by omega), ltF (show T ≤ m by omega), e6, leF (show n + m < N by omega), e7, ltT h4]
    exact fun _ => fin 4 (by simp [routeF, h0, h1, h2, h3, h5, h4])
  · simp only [go_sem, ↓reduceIte, Nat.reduceEqDiff, Nat.reduceAdd, Bool.false_eq_true, Int.reduceToNat, eqF (show (m : Int) ≠ 0 by omega), g_new, ltF (show B ≤ m by omega), e4, e5, leF (show n + 1 < 2 * m by omega), ltF (show T ≤ m by omega), e6, leF (show n + m < N by omega), e7, ltF (show m ≤ 2 * ((n + 2) / 3) by omega)]
    exact fun _ => fin 3 (by simp [routeF, h0, h1, h2, h3, h5, h4])
theorem may_calls {n : Int} {h : H} {K : AV → H → Prop} (hk : ∀ t, t = decide (0 ≤ n ∧ n ≤ 16384) → K (.bool t) h) : ACalls Try.prog 59 [.int .i64 n] h K := by
  refine in_table_may (by simp) fun hw => ?_
  unfold c_table_may
  by_cases h0 : 0 ≤ n
  · by_cases h1 : n ≤ 16384
    · simp only [go_sem, ↓reduceIte, Nat.reduceEqDiff, Nat.reduceAdd, Bool.false_eq_true, Int.reduceToNat, decide_eq_true h0, decide_eq_true h1]
      exact fun _ => hk true (by simp [h0, h1])
    · simp only [go_sem, ↓reduceIte, Nat.reduceEqDiff, Nat.reduceAdd, Bool.false_eq_true, Int.reduceToNat, decide_eq_true h0, decide_eq_false h1]
      exact fun _ => hk false (by simp [h1])
  · simp only [go_sem, ↓reduceIte, Nat.reduceEqDiff, Nat.reduceAdd, Bool.false_eq_true, Int.reduceToNat, decide_eq_false h0]
    exact fun _ => hk false (by simp [h0])
/-- What a transform costs, whatever is asked. -/
def transZ (n m w : Int) : Int := if n < 1 ∨ m < 1 ∨ w < 0 ∨ 16384 < n ∨ 16384 < m ∨ 3 < w then 0 else (transF n.toNat m.toNat w.toNat : Nat)
theorem transZ_nat {n m w : Nat} (h1 : 1 ≤ n) (h2 : 1 ≤ m) (h3 : n ≤ 16384) (h4 : m ≤ 16384) (h5 : w ≤ 3) : transZ n m w = (transF n m w : Nat) := by
  unfold transZ
  rw [if_neg (by omega)]
  simp
theorem size_le {n m l : Nat} (hl : BL (n + m - 1) l) (h1 : 1 ≤ n) (h2 : 1 ≤ m) (h3 : n ≤ 16384) (h4 : m ≤ 16384) : l ≤ 15 ∧ 1 ≤ l ∧ 2 ^ l ≤ 32768 := by
  have hl0 := hl.pos (by omega)
  have h5 := hl.2.resolve_left hl0
  have hl15 : l ≤ 15 := by
    rcases Nat.lt_or_ge 15 l with h | h
    · have : 2 ^ 15 ≤ 2 ^ (l - 1) := Nat.pow_le_pow_right (by omega) (by omega)
      omega
    · exact h
  have := Nat.pow_le_pow_right (n := 2) (by omega) hl15
  exact ⟨hl15, by omega, this⟩
theorem bad_trans {n m w : Int} (hb : n < 1 ∨ m < 1 ∨ w < 0 ∨ 16384 < n ∨ 16384 < m ∨ 3 < w) : transZ n m w = 0 := by unfold transZ; rw [if_pos hb]
theorem Transform_calls {n m w : Int} {h : H} {K : AV → H → Prop} (hk : K (.int .i64 (transZ n m w)) h) : ACalls Try.prog 33 [.int .i64 n, .int .i64 m, .int .i64 w] h K := by
  refine in_table_Transform (by simp) fun hw => ?_
  unfold c_table_Transform
  by_cases a1 : n < 1
  · rw [bad_trans (.inl a1)] at hk
    simp only [go_sem, ↓reduceIte, Nat.reduceEqDiff, Nat.reduceAdd, Bool.false_eq_true, Int.reduceToNat, decide_eq_true a1]
    exact fun _ => hk
  by_cases a2 : m < 1
  · rw [bad_trans (.inr (.inl a2))] at hk
    simp only [go_sem, ↓reduceIte, Nat.reduceEqDiff, Nat.reduceAdd, Bool.false_eq_true, Int.reduceToNat, decide_eq_false a1, decide_eq_true a2]
    exact fun _ => hk
  by_cases a3 : w < 0
  · rw [bad_trans (.inr (.inr (.inl a3)))] at hk
    simp only [go_sem, ↓reduceIte, Nat.reduceEqDiff, Nat.reduceAdd, Bool.false_eq_true, Int.reduceToNat, decide_eq_false a1, decide_eq_false a2, decide_eq_true a3]
    exact fun _ => hk
  by_cases a4 : 16384 < n
  · rw [bad_trans (.inr (.inr (.inr (.inl a4))))] at hk
    simp only [go_sem, ↓reduceIte, Nat.reduceEqDiff, Nat.reduceAdd, Bool.false_eq_true, Int.reduceToNat, decide_eq_false a1, decide_eq_false a2, decide_eq_false a3, decide_eq_true a4]
    exact fun _ => hk
  by_cases a5 : 16384 < m
  · rw [bad_trans (.inr (.inr (.inr (.inr (.inl a5)))))] at hk
    simp only [go_sem, ↓reduceIte, Nat.reduceEqDiff, Nat.reduceAdd, Bool.false_eq_true, Int.reduceToNat, decide_eq_false a1, decide_eq_false a2, decide_eq_false a3, decide_eq_false a4, decide_eq_true a5]
    exact fun _ => hk
  by_cases a6 : 3 < w
  · rw [bad_trans (.inr (.inr (.inr (.inr (.inr a6)))))] at hk
    simp only [go_sem, ↓reduceIte, Nat.reduceEqDiff, Nat.reduceAdd, Bool.false_eq_true, Int.reduceToNat, decide_eq_false a1, decide_eq_false a2, decide_eq_false a3, decide_eq_false a4, decide_eq_false a5, decide_eq_true a6]
    exact fun _ => hk
  obtain ⟨n, rfl⟩ : ∃ k : Nat, n = k := ⟨n.toNat, by omega⟩
  obtain ⟨m, rfl⟩ : ∃ k : Nat, m = k := ⟨m.toNat, by omega⟩
  obtain ⟨w, rfl⟩ : ∃ k : Nat, w = k := ⟨w.toNat, by omega⟩
  rw [transZ_nat (by omega) (by omega) (by omega) (by omega) (by omega)] at hk
  have e1 := addI (a := n) (b := m) (by omega)
  have e2 : IntKind.i64.wrap (((n + m : Nat) : Int) - 1) = ((n + m - 1 : Nat) : Int) := by rw [wI] <;> omega
  have e3 : IntKind.u64.wrap ((n + m - 1 : Nat) : Int) = ((n + m - 1 : Nat) : Int) := wUn (by omega)
  simp only [go_sem, ↓reduceIte, Nat.reduceEqDiff, Nat.reduceAdd, Bool.false_eq_true, Int.reduceToNat, decide_eq_false a1, decide_eq_false a2, decide_eq_false a3, decide_eq_false a4, decide_eq_false a5, decide_eq_false a6, e1, e2, e3]
  refine Len64_calls (by omega) fun L _ hL => ?_
  have hLe := BL.uniq (blen_spec (n + m - 1)) hL
  obtain ⟨l1, l2, l3⟩ := size_le hL (by omega) (by omega) (by omega) (by omega)
  have hp : 1 ≤ 2 ^ L := Nat.pow_pos (by omega)
  have e4 : IntKind.u64.wrap (L : Int) = (L : Int) := wUn (by omega)
  have e5 : bShl .i64 1 L = ((2 ^ L : Nat) : Int) := by
    unfold bShl
    rw [show IntKind.i64.bits = 64 from rfl, Nat.min_eq_left (by omega), show ((1 : Int) * 2 ^ L) = ((2 ^ L : Nat) : Int) by simp]
    exact wNI (by omega)
  unfold transF at hk
  rw [hLe] at hk
  unfold transC at hk
  have q0 : w * (2 ^ L / 2) ≤ 3 * 16384 := Nat.mul_le_mul (by omega) (by omega)
  have q1 : w * (2 ^ L / 2) * L ≤ 3 * 16384 * 15 := Nat.mul_le_mul q0 l1
  generalize 2 ^ L = S at *
  have e6 : ((S : Int)).tdiv 2 = ((S / 2 : Nat) : Int) := tdivN (b := 2)
  have e7 : IntKind.i64.wrap ((S / 2 : Nat) : Int) = ((S / 2 : Nat) : Int) := wNI (by omega)
  have e8 := mulI (a := w) (b := S / 2) (by omega)
  have e9 := mulI (a := w * (S / 2)) (b := L) (by omega)
  have e10 : IntKind.i64.wrap (2 * (S : Int)) = ((2 * S : Nat) : Int) := by rw [wI] <;> omega
  have e11 := addI (a := w * (S / 2) * L) (b := 2 * S) (by omega)
  have e12 : IntKind.i64.wrap (3 * ((w * (S / 2) * L + 2 * S : Nat) : Int)) = ((3 * (w * (S / 2) * L + 2 * S) : Nat) : Int) := by rw [wI] <;> omega
  have e13 : IntKind.i64.wrap (6 * (S : Int)) = ((6 * S : Nat) : Int) := by rw [wI] <;> omega
  have e14 := addI (a := 3 * (w * (S / 2) * L + 2 * S)) (b := 6 * S) (by omega)
  simp only [go_sem, ↓reduceIte, Nat.reduceEqDiff, Nat.reduceAdd, Bool.false_eq_true, Int.reduceToNat, e4, Int.toNat_natCast]
  refine ⟨by omega, ?_⟩
  simp only [go_sem, ↓reduceIte, Nat.reduceEqDiff, Nat.reduceAdd, Bool.false_eq_true, Int.reduceToNat, e5, e6, e7, e8, e9, e10, e11, e12, e13, e14]
  exact ⟨by omega, fun _ => hk⟩
/-- Sums of costs fit. -/
theorem cost_fit {B T N f n m : Nat} (ok : TOk B T N) (hm : m ≤ n) (hf : n < f) (hn : n ≤ 16384) : costF B T N f n m < 4294967296 := by
  have h1 := cost_bound ok f n m hm hf hn
  have h2 : n * m ≤ 16384 * 16384 := Nat.mul_le_mul hn (by omega)
  omega
theorem cost_calls {t : Tb} {B T N : Nat} (ht : t.is B T N) : ∀ (f p q : Nat) (h : H) (K : AV → H → Prop), max p q < f → max p q ≤ 16384 → (∀ h', h'.wf → h.le h' → K (.int .i64 (costF B T N f (max p q) (min p q) : Nat)) h') →
    ACalls Try.prog 60 [t.av, .int .i64 (p : Int), .int .i64 (q : Int)] h K := by
  intro f
  induction f with
  | zero => intro n m h K hf; omega
  | succ f ih =>
    intro p q h K hf hn hk
    refine in_table_cost (by simp) fun hw => ?_
    unfold c_table_cost
    have hmn : min p q ≤ max p q := by omega
    simp only [go_sem, ↓reduceIte, Nat.reduceEqDiff, Nat.reduceAdd, Bool.false_eq_true, Int.reduceToNat, av_held, av_cells, cells_len, true_and, maxN, minN]
    generalize max p q = n at *
    generalize min p q = m at *
    have e1 := incI (i := n) (by omega)
    have e2 : ((n + 1 : Nat) : Int).tdiv 2 = (((n + 1) / 2 : Nat) : Int) := tdivN (b := 2)
    have e3 : IntKind.i64.wrap (((n + 1) / 2 : Nat) : Int) = (((n + 1) / 2 : Nat) : Int) := wNI (by omega)
    have e4 : IntKind.i64.wrap ((n : Int) + 2) = ((n + 2 : Nat) : Int) := by rw [wI] <;> omega
    have e5 : ((n + 2 : Nat) : Int).tdiv 3 = (((n + 2) / 3 : Nat) : Int) := tdivN (b := 3)
    have e6 : IntKind.i64.wrap (((n + 2) / 3 : Nat) : Int) = (((n + 2) / 3 : Nat) : Int) := wNI (by omega)
    simp only [go_sem, ↓reduceIte, Nat.reduceEqDiff, Nat.reduceAdd, Bool.false_eq_true, Int.reduceToNat, e1, e2, e3, e4, e5, e6]
    refine ⟨by omega, by omega, ?_⟩
    have hw0 := H.wf_new hw ⟨some 23, 11, t.cells⟩
    have hl0 := H.le_new hw (H.le_refl h) ⟨some 23, 11, t.cells⟩
    have hr0 := H.rows_new h ⟨some 23, 11, t.cells⟩
    have gs : ∀ {h' : H}, h'.rows h.next = some ⟨some 23, 11, t.cells⟩ → h'.gets h.next 0 11 = some t.cells := fun hr => H.gets_of hr (by simp [cells_len])
    simp only [go_sem, ↓reduceIte, Nat.reduceEqDiff, Nat.reduceAdd, Bool.false_eq_true, Int.reduceToNat, gs hr0]
    have fit := cost_fit ht.ok hmn hf hn
    have hb := ht.ok.b1
    refine route_calls ht (by omega) (by omega) fun h1 r hw1 hl1 hr => ?_
    have hle := (H.le_trans hl0 hl1)
    have hr1 := hl1.2 _ _ hr0
    generalize hg : h.new ⟨some 23, 11, t.cells⟩ = h00 at *
    rcases route_cases (B := B) (T := T) (N := N) n m with ⟨e, h0⟩ | ⟨e, h0, h1⟩ | ⟨e, h0, h1, h2⟩ | ⟨e, h0, h1, h2, h3⟩ | ⟨e, h0, h1, h2, h3, h4, h5⟩ | ⟨e, h0, h1, h2, h3, h4⟩
    · have : r = 0 := by omega
      subst this
      rw [cost_0 e] at hk
      simp only [go_sem, ↓reduceIte, Nat.reduceEqDiff, Nat.reduceAdd, Bool.false_eq_true, Int.reduceToNat, Int.reduceBEq]
      exact fun _ => hk _ hw1 hle
    · have : r = 1 := by omega
      subst this
      rw [cost_1 e] at hk fit
      simp only [go_sem, ↓reduceIte, Nat.reduceEqDiff, Nat.reduceAdd, Bool.false_eq_true, Int.reduceToNat, Int.reduceBEq, mulI (a := n) (b := m) (by omega)]
      exact fun _ => hk _ hw1 hle
    · have : r = 2 := by omega
      subst this
      rw [cost_2 e] at hk fit
      have e7 : IntKind.i64.wrap ((n / m : Nat) : Int) = ((n / m : Nat) : Int) := wNI (by have := Nat.div_le_self n m; omega)
      have hlt := Nat.mod_lt n h0
      simp only [go_sem, ↓reduceIte, Nat.reduceEqDiff, Nat.reduceAdd, Bool.false_eq_true, Int.reduceToNat, Int.reduceBEq, tmodN, tdivN, gs hr1, e7]
      refine ⟨by omega, by omega, ?_⟩
      refine ih m m _ _ (by omega) (by omega) fun h2 hw2 hl2 => ?_
      have hr2 := hl2.2 _ _ hr1
      rw [Nat.max_self, Nat.min_self]
      simp only [go_sem, ↓reduceIte, Nat.reduceEqDiff, Nat.reduceAdd, Bool.false_eq_true, Int.reduceToNat, gs hr2, and_true, true_and, mulI (a := n / m) (b := costF B T N f m m) (by omega)]
      refine ih (n % m) m _ _ (by omega) (by omega) fun h3 hw3 hl3 => ?_
      rw [Nat.max_eq_right (by omega), Nat.min_eq_left (by omega)]
      simp only [go_sem, ↓reduceIte, Nat.reduceEqDiff, Nat.reduceAdd, Bool.false_eq_true, Int.reduceToNat, addI (a := n / m * costF B T N f m m) (b := costF B T N f m (n % m)) (by omega)]
      exact fun _ => hk _ hw3 (H.le_trans hle (H.le_trans hl2 hl3))
    · have : r = 3 := by omega
      subst this
      rw [cost_3 e] at hk fit
      have a1 := subI (a := n) (b := (n + 1) / 2) (by omega) (by omega)
      have a2 := subI (a := m) (b := (n + 1) / 2) (by omega) (by omega)
      have a3 := incI (i := (n + 1) / 2) (by omega)
      simp only [go_sem, ↓reduceIte, Nat.reduceEqDiff, Nat.reduceAdd, Bool.false_eq_true, Int.reduceToNat, Int.reduceBEq, gs hr1, a1, a2, a3]
      refine ih ((n + 1) / 2) ((n + 1) / 2) _ _ (by omega) (by omega) fun h2 hw2 hl2 => ?_
      have hr2 := hl2.2 _ _ hr1
      rw [Nat.max_self, Nat.min_self]
      simp only [go_sem, ↓reduceIte, Nat.reduceEqDiff, Nat.reduceAdd, Bool.false_eq_true, Int.reduceToNat, gs hr2, and_true, true_and]
      refine ih (n - (n + 1) / 2) (m - (n + 1) / 2) _ _ (by omega) (by omega) fun h3 hw3 hl3 => ?_
      have hr3 := hl3.2 _ _ hr2
      rw [Nat.max_eq_left (show m - (n + 1) / 2 ≤ n - (n + 1) / 2 by omega), Nat.min_eq_right (show m - (n + 1) / 2 ≤ n - (n + 1) / 2 by omega)]
      simp only [go_sem, ↓reduceIte, Nat.reduceEqDiff, Nat.reduceAdd, Bool.false_eq_true, Int.reduceToNat, gs hr3, and_true, true_and, addI (a := costF B T N f ((n + 1) / 2) ((n + 1) / 2)) (b := costF B T N f (n - (n + 1) / 2) (m - (n + 1) / 2)) (by omega)]
      refine ih ((n + 1) / 2 + 1) ((n + 1) / 2 + 1) _ _ (by omega) (by omega) fun h4 hw4 hl4 => ?_
      rw [Nat.max_self, Nat.min_self]
      simp only [go_sem, ↓reduceIte, Nat.reduceEqDiff, Nat.reduceAdd, Bool.false_eq_true, Int.reduceToNat, addI (a := costF B T N f ((n + 1) / 2) ((n + 1) / 2) + costF B T N f (n - (n + 1) / 2) (m - (n + 1) / 2)) (b := costF B T N f ((n + 1) / 2 + 1) ((n + 1) / 2 + 1)) (by omega)]
      exact fun _ => hk _ hw4 (H.le_trans hle (H.le_trans hl2 (H.le_trans hl3 hl4)))
    · have : r = 4 := by omega
      subst this
      rw [cost_4 e] at hk fit
      have a0 : IntKind.i64.wrap (2 * (((n + 2) / 3 : Nat) : Int)) = ((2 * ((n + 2) / 3) : Nat) : Int) := by rw [wI] <;> omega
      have a1 := subI (a := n) (b := 2 * ((n + 2) / 3)) (by omega) (by omega)
      have a2 := subI (a := m) (b := 2 * ((n + 2) / 3)) (by omega) (by omega)
      have a3 := incI (i := (n + 2) / 3) (by omega)
      simp only [go_sem, ↓reduceIte, Nat.reduceEqDiff, Nat.reduceAdd, Bool.false_eq_true, Int.reduceToNat, Int.reduceBEq, gs hr1, a0, a1, a2, a3]
      refine ih ((n + 2) / 3) ((n + 2) / 3) _ _ (by omega) (by omega) fun h2 hw2 hl2 => ?_
      have hr2 := hl2.2 _ _ hr1
      rw [Nat.max_self, Nat.min_self]
      simp only [go_sem, ↓reduceIte, Nat.reduceEqDiff, Nat.reduceAdd, Bool.false_eq_true, Int.reduceToNat, gs hr2, and_true, true_and]
      refine ih ((n + 2) / 3 + 1) ((n + 2) / 3 + 1) _ _ (by omega) (by omega) fun h3 hw3 hl3 => ?_
      have hr3 := hl3.2 _ _ hr2
      rw [Nat.max_self, Nat.min_self]
      have a4 : IntKind.i64.wrap (3 * ((costF B T N f ((n + 2) / 3 + 1) ((n + 2) / 3 + 1) : Nat) : Int)) = ((3 * costF B T N f ((n + 2) / 3 + 1) ((n + 2) / 3 + 1) : Nat) : Int) := by rw [wI] <;> omega
      simp only [go_sem, ↓reduceIte, Nat.reduceEqDiff, Nat.reduceAdd, Bool.false_eq_true, Int.reduceToNat, gs hr3, and_true, true_and, a4, addI (a := costF B T N f ((n + 2) / 3) ((n + 2) / 3)) (b := 3 * costF B T N f ((n + 2) / 3 + 1) ((n + 2) / 3 + 1)) (by omega)]
      refine ih (n - 2 * ((n + 2) / 3)) (m - 2 * ((n + 2) / 3)) _ _ (by omega) (by omega) fun h4 hw4 hl4 => ?_
      rw [Nat.max_eq_left (show m - 2 * ((n + 2) / 3) ≤ n - 2 * ((n + 2) / 3) by omega), Nat.min_eq_right (show m - 2 * ((n + 2) / 3) ≤ n - 2 * ((n + 2) / 3) by omega)]
      simp only [go_sem, ↓reduceIte, Nat.reduceEqDiff, Nat.reduceAdd, Bool.false_eq_true, Int.reduceToNat, addI (a := costF B T N f ((n + 2) / 3) ((n + 2) / 3) + 3 * costF B T N f ((n + 2) / 3 + 1) ((n + 2) / 3 + 1)) (b := costF B T N f (n - 2 * ((n + 2) / 3)) (m - 2 * ((n + 2) / 3))) (by omega)]
      exact fun _ => hk _ hw4 (H.le_trans hle (H.le_trans hl2 (H.le_trans hl3 hl4)))
    · have : r = 5 := by omega
      subst this
      rw [cost_5 e] at hk
      simp only [go_sem, ↓reduceIte, Nat.reduceEqDiff, Nat.reduceAdd, Bool.false_eq_true, Int.reduceToNat, Int.reduceBEq]
      refine Transform_calls ?_
      rw [show (3 : Int) = ((3 : Nat) : Int) from rfl, transZ_nat (by omega) (by omega) (by omega) (by omega) (by omega)]
      simp only [go_sem, ↓reduceIte, Nat.reduceEqDiff, Nat.reduceAdd, Bool.false_eq_true, Int.reduceToNat]
      exact fun _ => hk _ hw1 hle
end Ab
end Go.Proofs.Yteoagnggnekfiaa
