/- Joined texts: H1 H2 H3 H4 H5 L1 L2 L3 H6 C6 M7 G1 G2 G5 G7 G8. No condition. -/
import Derived.Test.YtnmnkocibjdhjaaGreatDoorZ4
import Derived.WalkKit
import Derived.ProofKit
import Derived.OpenShut
import Derived.ChangeSame
import Derived.Carry
import Derived.Deep.Slices
import Derived.Test.YtnmnkocibjdhjaaGreatDoorProg
import Derived.KernelRfl
namespace Go.Proofs.YtnmnkocibjdhjaaGreatDoor
namespace Ab
open Go Go.RowKit
set_option linter.unusedSimpArgs false
set_option linter.unusedVariables false
attribute [local go_sem ↓] x_mv x_pick x_bin x_beq x_peq x_seq x_cat x_aeq x_idxS x_idxV x_un x_cvI x_idx x_idxA x_fld x_ld x_st x_nn x_prt x_slc x_mk x_bsl x_bld x_box x_alloc x_len x_capo x_mnx x_app x_cpy x_mkf x_ext x_call x_callV x_bad s_none s_some s_nil s_cons s_chks w_skip w_reg tP_fin tP_no tP_alt w_seq w_cond w_block w_exit w_ret t_normal t_exit t_ret b_normal b_ret b_exit n_normal n_exit n_ret p_normal p_ret f_nil f_t f_c k_ops k_chk k_fin
attribute [local go_sem] e_t e_c e_f u_some u_none u_at env_at k_v k_pick k_add k_sub k_mul k_quo k_rem k_and k_or k_xor k_shl k_shr k_eql k_neq k_lss k_leq k_gtr k_geq k_beq k_peqn k_peqs k_neg k_not k_com k_cvI k_idxS k_idxV1 k_idxVn k_idx k_idxA k_idxG k_ldG k_gld k_seq k_cat k_aeq k_eqs k_fld k_ld1 k_ldn k_get k_gets k_sti k_stb k_stp k_sts k_stf k_sta k_put k_nn k_prt1 k_prtn k_slc_a k_slc_b k_slc_c k_mk k_agg k_bsl k_box k_len k_lenS k_cap k_max k_min k_ext k_callV k_true k_false k_gtt k_gtf k_gft k_gsk k_gff k_lit1i k_lit2i k_lit3i k_c0 k_c1 k_ck List.getElem?_cons_zero List.getElem?_cons_succ List.getElem?_nil Option.getD_some Option.getD_none tupOf List.map_cons List.map_nil Option.map_some Option.map_none List.nil_append List.cons_append List.append_nil Nat.mul_one Int.toNat_natCast Nat.zero_add
section
def blen (x : Nat) : Nat := if x = 0 then 0 else Nat.log2 x + 1
theorem blen_spec (x : Nat) : BL x (blen x) := by
  unfold blen BL
  split
  · rename_i h; subst h; simp
  · rename_i h
    exact ⟨(Nat.log2_lt h).1 (Nat.lt_succ_self _), .inr (Nat.log2_self_le h)⟩
theorem blen_le {x k : Nat} (h : x < 2 ^ k) : blen x ≤ k := by
  have hx := blen_spec x
  rcases hx.2 with h0 | h0
  · omega
  · rcases Nat.lt_or_ge k (blen x) with hl | hl
    · have h1 : 2 ^ k ≤ 2 ^ (blen x - 1) := Nat.pow_le_pow_right (by omega) (by omega)
      omega
    · exact hl
def routeF (B T N n m : Nat) : Nat := if m = 0 then 0 else if m < B then 1 else if 2 * m ≤ n + 1 then 2 else if m < T then 3 else if N ≤ n + m then 5 else if 2 * ((n + 2) / 3) < m then 4 else 3
def transC (l w : Nat) : Nat := 3 * (w * (2 ^ l / 2) * l + 2 * 2 ^ l) + 6 * 2 ^ l
def transF (n m w : Nat) : Nat := transC (blen (n + m - 1)) w
def costF (B T N : Nat) : Nat → Nat → Nat → Nat
  | 0, _, _ => 0
  | f + 1, n, m =>
    if routeF B T N n m = 1 then n * m
    else if routeF B T N n m = 2 then n / m * costF B T N f m m + costF B T N f m (n % m)
    else if routeF B T N n m = 3 then costF B T N f ((n + 1) / 2) ((n + 1) / 2) + costF B T N f (n - (n + 1) / 2) (m - (n + 1) / 2) + costF B T N f ((n + 1) / 2 + 1) ((n + 1) / 2 + 1)
    else if routeF B T N n m = 4 then costF B T N f ((n + 2) / 3) ((n + 2) / 3) + 3 * costF B T N f ((n + 2) / 3 + 1) ((n + 2) / 3 + 1) + costF B T N f (n - 2 * ((n + 2) / 3)) (m - 2 * ((n + 2) / 3))
    else if routeF B T N n m = 5 then transF n m 3
    else 0
structure TOk (B T N : Nat) : Prop where
  b1 : 4 ≤ B
  b2 : B ≤ 64
  t1 : 12 ≤ T
  n1 : 64 ≤ N
section
variable {B T N : Nat}
theorem route_cases (n m : Nat) : (routeF B T N n m = 0 ∧ m = 0) ∨ (routeF B T N n m = 1 ∧ 0 < m ∧ m < B) ∨ (routeF B T N n m = 2 ∧ 0 < m ∧ B ≤ m ∧ 2 * m ≤ n + 1) ∨
    (routeF B T N n m = 3 ∧ 0 < m ∧ B ≤ m ∧ n + 1 < 2 * m ∧ (m < T ∨ (n + m < N ∧ m ≤ 2 * ((n + 2) / 3)))) ∨ (routeF B T N n m = 4 ∧ 0 < m ∧ B ≤ m ∧ n + 1 < 2 * m ∧ T ≤ m ∧ n + m < N ∧ 2 * ((n + 2) / 3) < m) ∨
    (routeF B T N n m = 5 ∧ 0 < m ∧ B ≤ m ∧ n + 1 < 2 * m ∧ T ≤ m ∧ N ≤ n + m) := by
  unfold routeF
  by_cases h0 : m = 0
  · rw [if_pos h0]; exact .inl ⟨rfl, h0⟩
  rw [if_neg h0]
  by_cases h1 : m < B
  · rw [if_pos h1]; exact .inr (.inl ⟨rfl, by omega, h1⟩)
  rw [if_neg h1]
  by_cases h2 : 2 * m ≤ n + 1
  · rw [if_pos h2]; exact .inr (.inr (.inl ⟨rfl, by omega, by omega, h2⟩))
  rw [if_neg h2]
  by_cases h3 : m < T
  · rw [if_pos h3]; exact .inr (.inr (.inr (.inl ⟨rfl, by omega, by omega, by omega, .inl h3⟩)))
  rw [if_neg h3]
  by_cases h5 : N ≤ n + m
  · rw [if_pos h5]; exact .inr (.inr (.inr (.inr (.inr ⟨rfl, by omega, by omega, by omega, by omega, h5⟩))))
  rw [if_neg h5]
  by_cases h4 : 2 * ((n + 2) / 3) < m
  · rw [if_pos h4]; exact .inr (.inr (.inr (.inr (.inl ⟨rfl, by omega, by omega, by omega, by omega, by omega, h4⟩))))
  rw [if_neg h4]; exact .inr (.inr (.inr (.inl ⟨rfl, by omega, by omega, by omega, .inr ⟨by omega, by omega⟩⟩)))
theorem cost_0 {f n m : Nat} (h : routeF B T N n m = 0) : costF B T N f n m = 0 := by cases f <;> simp [costF, h]
theorem cost_1 {f n m : Nat} (h : routeF B T N n m = 1) : costF B T N (f + 1) n m = n * m := by simp [costF, h]
theorem cost_2 {f n m : Nat} (h : routeF B T N n m = 2) : costF B T N (f + 1) n m = n / m * costF B T N f m m + costF B T N f m (n % m) := by simp [costF, h]
theorem cost_3 {f n m : Nat} (h : routeF B T N n m = 3) : costF B T N (f + 1) n m = costF B T N f ((n + 1) / 2) ((n + 1) / 2) + costF B T N f (n - (n + 1) / 2) (m - (n + 1) / 2) + costF B T N f ((n + 1) / 2 + 1) ((n + 1) / 2 + 1) := by simp [costF, h]
theorem cost_4 {f n m : Nat} (h : routeF B T N n m = 4) : costF B T N (f + 1) n m = costF B T N f ((n + 2) / 3) ((n + 2) / 3) + 3 * costF B T N f ((n + 2) / 3 + 1) ((n + 2) / 3 + 1) + costF B T N f (n - 2 * ((n + 2) / 3)) (m - 2 * ((n + 2) / 3)) := by simp [costF, h]
theorem cost_5 {f n m : Nat} (h : routeF B T N n m = 5) : costF B T N (f + 1) n m = transF n m 3 := by simp [costF, h]
theorem cost_fuel (ok : TOk B T N) : ∀ f n m, m ≤ n → n < f → costF B T N (f + 1) n m = costF B T N f n m := by
  intro f
  induction f with
  | zero => intro n m _ h; omega
  | succ f ih =>
    intro n m hm hf
    obtain ⟨b1, b2, t1, n1⟩ := ok
    rcases route_cases (B := B) (T := T) (N := N) n m with ⟨e, h0⟩ | ⟨e, h0, h1⟩ | ⟨e, h0, h1, h2⟩ | ⟨e, h0, h1, h2, h3⟩ | ⟨e, h0, h1, h2, h3, h4, h5⟩ | ⟨e, h0, h1, h2, h3, h4⟩
    · rw [cost_0 e, cost_0 e]
    · rw [cost_1 e, cost_1 e]
    · rw [cost_2 e, cost_2 e, ih m m (Nat.le_refl _) (by omega), ih m (n % m) (Nat.le_of_lt (Nat.mod_lt _ h0)) (by omega)]
    · rw [cost_3 e, cost_3 e, ih _ _ (Nat.le_refl ((n + 1) / 2)) (by omega), ih (n - (n + 1) / 2) (m - (n + 1) / 2) (by omega) (by omega), ih _ _ (Nat.le_refl ((n + 1) / 2 + 1)) (by omega)]
    · rw [cost_4 e, cost_4 e, ih _ _ (Nat.le_refl ((n + 2) / 3)) (by omega), ih (n - 2 * ((n + 2) / 3)) (m - 2 * ((n + 2) / 3)) (by omega) (by omega), ih _ _ (Nat.le_refl ((n + 2) / 3 + 1)) (by omega)]
    · rw [cost_5 e, cost_5 e]
theorem cost_fuels (ok : TOk B T N) {f n m : Nat} (hm : m ≤ n) (hf : n < f) : ∀ k, costF B T N (f + k) n m = costF B T N f n m
  | 0 => rfl
  | k + 1 => by
    rw [← Nat.add_assoc, cost_fuel ok (f + k) n m hm (by omega), cost_fuels ok hm hf k]
theorem cost_same (ok : TOk B T N) {f g n m : Nat} (hm : m ≤ n) (hf : n < f) (hg : n < g) : costF B T N f n m = costF B T N g n m := by
  have a := cost_fuels ok hm (Nat.lt_succ_self n) (f - (n + 1))
  have b := cost_fuels ok hm (Nat.lt_succ_self n) (g - (n + 1))
  rw [show n.succ + (f - (n + 1)) = f by omega] at a
  rw [show n.succ + (g - (n + 1)) = g by omega] at b
  rw [a, b]
end
end
structure Tb where
  (base toom ntt div recip lehmer radix poly kron series tree : Int)
def Tb.cells (t : Tb) : List AV := [.int .i64 t.base, .int .i64 t.toom, .int .i64 t.ntt, .int .i64 t.div, .int .i64 t.recip, .int .i64 t.lehmer, .int .i64 t.radix, .int .i64 t.poly, .int .i64 t.kron, .int .i64 t.series, .int .i64 t.tree]
def Tb.av (t : Tb) : AV := .agg t.cells
def clampT (t : Tb) : Tb := ⟨max 4 (min t.base 64), max 12 (min t.toom 8192), max 64 (min t.ntt 16384), max 4 (min t.div 1024), max 4 (min t.recip 4096), max 2 (min t.lehmer 1024), max 2 (min t.radix 1024), max 4 (min t.poly 256), max 4 (min t.kron 1024), max 2 (min t.series 1024), max 2 (min t.tree 256)⟩
theorem av_held {t : Tb} : t.av.held = true := _root_.id rfl
theorem av_cells {t : Tb} : t.av.cells = t.cells := _root_.id rfl
theorem cells_len {t : Tb} : t.cells.length = 11 := _root_.id rfl
theorem H.get_of {h : H} {id off : Nat} {r : Row} (hr : h.rows id = some r) : h.get id off = r.cells[off]? := by simp [H.get, hr]
theorem H.gets_of {h : H} {id off n : Nat} {r : Row} (hr : h.rows id = some r) (hl : off + n ≤ r.cells.length) : h.gets id off n = some ((r.cells.drop off).take n) := by simp [H.gets, hr, hl]
theorem g_new {h : H} {r : Row} {off : Nat} : (h.new r).get h.next off = r.cells[off]? := H.get_of (H.rows_new _ _)
theorem g_new2 {h : H} {r q : Row} {off : Nat} : ((h.new r).new q).get h.next off = r.cells[off]? := H.get_of (by rw [H.rows_new_ne (by simp [H.new]), H.rows_new])
theorem gs_set {h : H} {id : Nat} {r : Row} (hl : r.cells.length = 11) : (h.set id r).gets id 0 11 = some r.cells := by
  rw [H.gets_of (H.rows_set _ _ _) (by omega)]
  simp only [List.drop_zero]
  rw [← hl, List.take_length]
theorem bld11 {a0 a1 a2 a3 a4 a5 a6 a7 a8 a9 a10 : Int} : abuild [.int .i64 0, .int .i64 0, .int .i64 0, .int .i64 0, .int .i64 0, .int .i64 0, .int .i64 0, .int .i64 0, .int .i64 0, .int .i64 0, .int .i64 0] [(0, 1, .int .i64 a0), (1, 1, .int .i64 a1), (2, 1, .int .i64 a2), (3, 1, .int .i64 a3), (4, 1, .int .i64 a4), (5, 1, .int .i64 a5), (6, 1, .int .i64 a6), (7, 1, .int .i64 a7), (8, 1, .int .i64 a8), (9, 1, .int .i64 a9), (10, 1, .int .i64 a10)] = some [.int .i64 a0, .int .i64 a1, .int .i64 a2, .int .i64 a3, .int .i64 a4, .int .i64 a5, .int .i64 a6, .int .i64 a7, .int .i64 a8, .int .i64 a9, .int .i64 a10] := by simp [abuild, putAt, AV.held, AV.cells]
theorem put11 {a0 a1 a2 a3 a4 a5 a6 a7 a8 a9 a10 : Int} : putAt [.int .i64 0, .int .i64 0, .int .i64 0, .int .i64 0, .int .i64 0, .int .i64 0, .int .i64 0, .int .i64 0, .int .i64 0, .int .i64 0, .int .i64 0] 0 [.int .i64 a0, .int .i64 a1, .int .i64 a2, .int .i64 a3, .int .i64 a4, .int .i64 a5, .int .i64 a6, .int .i64 a7, .int .i64 a8, .int .i64 a9, .int .i64 a10] = [.int .i64 a0, .int .i64 a1, .int .i64 a2, .int .i64 a3, .int .i64 a4, .int .i64 a5, .int .i64 a6, .int .i64 a7, .int .i64 a8, .int .i64 a9, .int .i64 a10] := by simp [putAt]
theorem bld14 {t : Tb} : abuild [.int .i64 0, .int .i64 0, .int .i64 0, .int .i64 0, .int .i64 0, .int .i64 0, .int .i64 0, .int .i64 0, .int .i64 0, .int .i64 0, .int .i64 0, .int .i64 0, .int .i64 0, .int .i64 0] [(3, 11, t.av)] = some ([.int .i64 0, .int .i64 0, .int .i64 0] ++ t.cells) := by simp [abuild, putAt, Tb.av, Tb.cells, AV.held, AV.cells]
theorem within_calls {n a b : Int} {h : H} {K : AV → H → Prop} (hk : K (.int .i64 (max a (min n b))) h) : ACalls Tryz.prog 137 [.int .i64 n, .int .i64 a, .int .i64 b] h K := by
  refine in_table_within (by simp) fun hw => ?_
  unfold c_table_within
  simp only [go_sem, ↓reduceIte, Nat.reduceEqDiff, Nat.reduceAdd, Bool.false_eq_true, Int.reduceToNat]
  exact fun _ => hk
theorem Clamp_calls {t : Tb} {h : H} {K : AV → H → Prop} (hk : ∀ h', h'.wf → h.le h' → K (clampT t).av h') : ACalls Tryz.prog 122 [t.av] h K := by
  refine in_table_Clamp (by simp) fun hw => ?_
  unfold c_table_Clamp
  simp only [go_sem, ↓reduceIte, Nat.reduceEqDiff, Nat.reduceAdd, Bool.false_eq_true, Int.reduceToNat, av_held, av_cells, true_and, g_new2, Tb.cells]
  refine within_calls ?_
  simp only [go_sem, ↓reduceIte, Nat.reduceEqDiff, Nat.reduceAdd, Bool.false_eq_true, Int.reduceToNat, g_new2, and_true, true_and]
  refine within_calls ?_
  simp only [go_sem, ↓reduceIte, Nat.reduceEqDiff, Nat.reduceAdd, Bool.false_eq_true, Int.reduceToNat, g_new2, and_true, true_and]
  refine within_calls ?_
  simp only [go_sem, ↓reduceIte, Nat.reduceEqDiff, Nat.reduceAdd, Bool.false_eq_true, Int.reduceToNat, g_new2, and_true, true_and]
  refine within_calls ?_
  simp only [go_sem, ↓reduceIte, Nat.reduceEqDiff, Nat.reduceAdd, Bool.false_eq_true, Int.reduceToNat, g_new2, and_true, true_and]
  refine within_calls ?_
  simp only [go_sem, ↓reduceIte, Nat.reduceEqDiff, Nat.reduceAdd, Bool.false_eq_true, Int.reduceToNat, g_new2, and_true, true_and]
  refine within_calls ?_
  simp only [go_sem, ↓reduceIte, Nat.reduceEqDiff, Nat.reduceAdd, Bool.false_eq_true, Int.reduceToNat, g_new2, and_true, true_and]
  refine within_calls ?_
  simp only [go_sem, ↓reduceIte, Nat.reduceEqDiff, Nat.reduceAdd, Bool.false_eq_true, Int.reduceToNat, g_new2, and_true, true_and]
  refine within_calls ?_
  simp only [go_sem, ↓reduceIte, Nat.reduceEqDiff, Nat.reduceAdd, Bool.false_eq_true, Int.reduceToNat, g_new2, and_true, true_and]
  refine within_calls ?_
  simp only [go_sem, ↓reduceIte, Nat.reduceEqDiff, Nat.reduceAdd, Bool.false_eq_true, Int.reduceToNat, g_new2, and_true, true_and]
  refine within_calls ?_
  simp only [go_sem, ↓reduceIte, Nat.reduceEqDiff, Nat.reduceAdd, Bool.false_eq_true, Int.reduceToNat, g_new2, and_true, true_and]
  refine within_calls ?_
  simp only [go_sem, ↓reduceIte, Nat.reduceEqDiff, Nat.reduceAdd, Bool.false_eq_true, Int.reduceToNat, g_new2, and_true, true_and]
  simp only [bld11, go_sem, ↓reduceIte, Nat.reduceEqDiff, Nat.reduceAdd, Bool.false_eq_true, Int.reduceToNat]
  refine ⟨rfl, rfl, ?_⟩
  rw [H.rows_new, k_put]
  refine ⟨Option.some_ne_none _, by simp, ?_⟩
  simp only [go_sem, ↓reduceIte, Nat.reduceEqDiff, Nat.reduceAdd, Bool.false_eq_true, Int.reduceToNat, put11]
  rw [gs_set (by rfl)]
  simp only [go_sem, ↓reduceIte, Nat.reduceEqDiff, Nat.reduceAdd, Bool.false_eq_true, Int.reduceToNat]
  exact fun hw' => hk _ hw' (H.le_set hw (H.le_new (H.wf_new hw _) (H.le_new hw (H.le_refl h) _) _) (Nat.le_succ _) _)
structure Tb.is (t : Tb) (B T N : Nat) : Prop where
  base : t.base = B
  toom : t.toom = T
  ntt : t.ntt = N
  ok : TOk B T N
  t2 : T ≤ 8192
  n2 : N ≤ 16384
theorem wNI {n : Nat} (h : n < 9223372036854775808) : IntKind.i64.wrap (n : Int) = (n : Int) := wI (by omega) (by omega)
theorem addI {a b : Nat} (h : a + b < 9223372036854775808) : IntKind.i64.wrap ((a : Int) + (b : Int)) = ((a + b : Nat) : Int) := by rw [wI] <;> omega
theorem subI {a b : Nat} (hb : b ≤ a) (h : a < 9223372036854775808) : IntKind.i64.wrap ((a : Int) - (b : Int)) = ((a - b : Nat) : Int) := by rw [wI] <;> omega
theorem mulI {a b : Nat} (h : a * b < 9223372036854775808) : IntKind.i64.wrap ((a : Int) * (b : Int)) = ((a * b : Nat) : Int) := by
  rw [← Int.natCast_mul, wI] <;> omega
theorem route_calls {t : Tb} {B T N n m : Nat} {h : H} {K : AV → H → Prop} (ht : t.is B T N) (hn : n ≤ 1048576) (hm : m ≤ 1048576) (hk : ∀ h' (r : Int), h'.wf → h.le h' → r = (routeF B T N n m : Nat) → K (.int .i64 r) h') :
    ACalls Tryz.prog 121 [t.av, .int .i64 (n : Int), .int .i64 (m : Int)] h K := by
  obtain ⟨hb, htm, hnt, ⟨b1, b2, t1, n1⟩, t2, n2⟩ := ht
  refine in_table_route (by simp) fun hw => ?_
  unfold c_table_route
  have e1 : IntKind.i64.wrap ((n : Int) + 2) = ((n + 2 : Nat) : Int) := by rw [wI] <;> omega
  have e2 : ((n + 2 : Nat) : Int).tdiv 3 = (((n + 2) / 3 : Nat) : Int) := tdivN (b := 3)
  have e3 : IntKind.i64.wrap (((n + 2) / 3 : Nat) : Int) = (((n + 2) / 3 : Nat) : Int) := wNI (by omega)
  have e4 : IntKind.i64.wrap (2 * (m : Int)) = ((2 * m : Nat) : Int) := by rw [wI] <;> omega
  have e5 := incI (i := n) (by omega)
  have e6 := addI (a := n) (b := m) (by omega)
  have e7 : IntKind.i64.wrap (2 * (((n + 2) / 3 : Nat) : Int)) = ((2 * ((n + 2) / 3) : Nat) : Int) := by rw [wI] <;> omega
  have fin : ∀ r : Int, r = (routeF B T N n m : Nat) → K (.int .i64 r) (h.new ⟨some 23, 11, t.cells⟩) := fun r hr => hk _ r (H.wf_new hw _) (H.le_new hw (H.le_refl h) _) hr
  simp only [Tb.cells, hb, htm, hnt] at fin
  simp only [go_sem, ↓reduceIte, Nat.reduceEqDiff, Nat.reduceAdd, Bool.false_eq_true, Int.reduceToNat, av_held, av_cells, cells_len, true_and, e1, e2, e3, Tb.cells, hb, htm, hnt]
  refine ⟨by omega, ?_⟩
  by_cases h0 : m = 0
  · simp only [go_sem, ↓reduceIte, Nat.reduceEqDiff, Nat.reduceAdd, Bool.false_eq_true, Int.reduceToNat, eqT (show (m : Int) = 0 by omega)]
    exact fun _ => fin 0 (by simp [routeF, h0])
  by_cases h1 : m < B
  · simp only [go_sem, ↓reduceIte, Nat.reduceEqDiff, Nat.reduceAdd, Bool.false_eq_true, Int.reduceToNat, eqF (show (m : Int) ≠ 0 by omega), g_new, ltT h1]
    exact fun _ => fin 1 (by simp [routeF, h0, h1])
  by_cases h2 : 2 * m ≤ n + 1
  · simp only [go_sem, ↓reduceIte, Nat.reduceEqDiff, Nat.reduceAdd, Bool.false_eq_true, Int.reduceToNat, eqF (show (m : Int) ≠ 0 by omega), g_new, ltF (show B ≤ m by omega), e4, e5, leT h2]
    exact fun _ => fin 2 (by simp [routeF, h0, h1, h2])
  by_cases h3 : m < T
  · simp only [go_sem, ↓reduceIte, Nat.reduceEqDiff, Nat.reduceAdd, Bool.false_eq_true, Int.reduceToNat, eqF (show (m : Int) ≠ 0 by omega), g_new, ltF (show B ≤ m by omega), e4, e5, leF (show n + 1 < 2 * m by omega), ltT h3]
    exact fun _ => fin 3 (by simp [routeF, h0, h1, h2, h3])
  by_cases h5 : N ≤ n + m
  · simp only [go_sem, ↓reduceIte, Nat.reduceEqDiff, Nat.reduceAdd, Bool.false_eq_true, Int.reduceToNat, eqF (show (m : Int) ≠ 0 by omega), g_new, ltF (show B ≤ m by omega), e4, e5, leF (show n + 1 < 2 * m by omega), ltF (show T ≤ m by omega), e6, leT h5]
    exact fun _ => fin 5 (by simp [routeF, h0, h1, h2, h3, h5])
  by_cases h4 : 2 * ((n + 2) / 3) < m
  · simp only [go_sem, ↓reduceIte, Nat.reduceEqDiff, Nat.reduceAdd, Bool.false_eq_true, Int.reduceToNat, eqF (show (m : Int) ≠ 0 by omega), g_new, ltF (show B ≤ m by omega), e4, e5, leF (show n + 1 < 2 * m by omega), ltF (show T ≤ m by omega), e6, leF (show n + m < N by omega), e7, ltT h4]
    exact fun _ => fin 4 (by simp [routeF, h0, h1, h2, h3, h5, h4])
  · simp only [go_sem, ↓reduceIte, Nat.reduceEqDiff, Nat.reduceAdd, Bool.false_eq_true, Int.reduceToNat, eqF (show (m : Int) ≠ 0 by omega), g_new, ltF (show B ≤ m by omega), e4, e5, leF (show n + 1 < 2 * m by omega), ltF (show T ≤ m by omega), e6, leF (show n + m < N by omega), e7, ltF (show m ≤ 2 * ((n + 2) / 3) by omega)]
    exact fun _ => fin 3 (by simp [routeF, h0, h1, h2, h3, h5, h4])
theorem may_calls {n : Int} {h : H} {K : AV → H → Prop} (hk : ∀ t, t = decide (0 ≤ n ∧ n ≤ 16384) → K (.bool t) h) : ACalls Tryz.prog 120 [.int .i64 n] h K := by
  refine in_table_may (by simp) fun hw => ?_
  unfold c_table_may
  by_cases h0 : 0 ≤ n
  · by_cases h1 : n ≤ 16384
    · simp only [go_sem, ↓reduceIte, Nat.reduceEqDiff, Nat.reduceAdd, Bool.false_eq_true, Int.reduceToNat, decide_eq_true h0, decide_eq_true h1]
      exact fun _ => hk true (by simp [h0, h1])
    · simp only [go_sem, ↓reduceIte, Nat.reduceEqDiff, Nat.reduceAdd, Bool.false_eq_true, Int.reduceToNat, decide_eq_true h0, decide_eq_false h1]
      exact fun _ => hk false (by simp [h1])
  · simp only [go_sem, ↓reduceIte, Nat.reduceEqDiff, Nat.reduceAdd, Bool.false_eq_true, Int.reduceToNat, decide_eq_false h0]
    exact fun _ => hk false (by simp [h0])
theorem gsT {h' : H} {id : Nat} {t : Tb} (hr : h'.rows id = some ⟨some 23, 11, t.cells⟩) : h'.gets id 0 11 = some t.cells := H.gets_of hr (by simp [cells_len])
def costT (t : Tb) (n m : Nat) : Nat := costF (clampT t).base.toNat (clampT t).toom.toNat (clampT t).ntt.toNat 20000 (max n m) (min n m)
def routeT (t : Tb) (n m : Int) : Nat := if n < 0 ∨ m < 0 ∨ 16384 < n ∨ 16384 < m then 0 else routeF (clampT t).base.toNat (clampT t).toom.toNat (clampT t).ntt.toNat (max n m).toNat (min n m).toNat
theorem clamp_isT (t : Tb) : (clampT t).is (clampT t).base.toNat (clampT t).toom.toNat (clampT t).ntt.toNat := by
  refine ⟨?_, ?_, ?_, ⟨?_, ?_, ?_, ?_⟩, ?_, ?_⟩ <;> simp only [clampT] <;> omega
theorem Route_calls {t : Tb} {n m : Int} {h : H} {K : AV → H → Prop} (hk : ∀ h', h'.wf → h.le h' → K (.int .i64 (routeT t n m : Nat)) h') : ACalls Tryz.prog 103 [t.av, .int .i64 n, .int .i64 m] h K := by
  refine in_table_Route (by simp) fun hw => ?_
  unfold c_table_Route
  simp only [go_sem, ↓reduceIte, Nat.reduceEqDiff, Nat.reduceAdd, Bool.false_eq_true, Int.reduceToNat, av_held, av_cells, cells_len, true_and]
  refine may_calls fun b hb => ?_
  by_cases hn : 0 ≤ n ∧ n ≤ 16384
  · have : b = true := by rw [hb]; exact decide_eq_true hn
    subst this
    simp only [go_sem, ↓reduceIte, Nat.reduceEqDiff, Nat.reduceAdd, Bool.false_eq_true, Int.reduceToNat, Bool.not_true]
    refine may_calls fun b hb => ?_
    by_cases hm : 0 ≤ m ∧ m ≤ 16384
    · have : b = true := by rw [hb]; exact decide_eq_true hm
      subst this
      simp only [go_sem, ↓reduceIte, Nat.reduceEqDiff, Nat.reduceAdd, Bool.false_eq_true, Int.reduceToNat, Bool.not_true, gsT (H.rows_new h _)]
      refine Clamp_calls fun h1 hw1 hl1 => ?_
      simp only [go_sem, ↓reduceIte, Nat.reduceEqDiff, Nat.reduceAdd, Bool.false_eq_true, Int.reduceToNat]
      have e1 : max n m = ((max n m).toNat : Int) := by omega
      have e2 : min n m = ((min n m).toNat : Int) := by omega
      rw [e1, e2]
      refine route_calls (clamp_isT t) (by omega) (by omega) fun h2 r hw2 hl2 hr => ?_
      simp only [go_sem, ↓reduceIte, Nat.reduceEqDiff, Nat.reduceAdd, Bool.false_eq_true, Int.reduceToNat]
      have e3 : routeT t n m = routeF (clampT t).base.toNat (clampT t).toom.toNat (clampT t).ntt.toNat (max n m).toNat (min n m).toNat := by unfold routeT; rw [if_neg (by omega)]
      rw [hr, ← e3]
      exact fun _ => hk _ hw2 (H.le_trans (H.le_new hw (H.le_refl h) _) (H.le_trans hl1 hl2))
    · have : b = false := by rw [hb]; exact decide_eq_false hm
      subst this
      simp only [go_sem, ↓reduceIte, Nat.reduceEqDiff, Nat.reduceAdd, Bool.false_eq_true, Int.reduceToNat, Bool.not_false]
      have e3 : routeT t n m = 0 := by unfold routeT; rw [if_pos (by omega)]
      rw [e3] at hk
      exact fun hw' => hk _ hw' (H.le_new hw (H.le_refl h) _)
  · have : b = false := by rw [hb]; exact decide_eq_false hn
    subst this
    simp only [go_sem, ↓reduceIte, Nat.reduceEqDiff, Nat.reduceAdd, Bool.false_eq_true, Int.reduceToNat, Bool.not_false]
    have e3 : routeT t n m = 0 := by unfold routeT; rw [if_pos (by omega)]
    rw [e3] at hk
    exact fun hw' => hk _ hw' (H.le_new hw (H.le_refl h) _)
theorem routeT_nat {t : Tb} {n m : Nat} (hn : n ≤ 16384) (hm : m ≤ 16384) : routeT t n m = routeF (clampT t).base.toNat (clampT t).toom.toNat (clampT t).ntt.toNat (max n m) (min n m) := by
  unfold routeT
  rw [if_neg (by omega)]
  congr 1 <;> omega
section
open Go Go.RowKit Go.WideShapes Go.ChangeShapes Go.ChangeAt
def h00 : H := ⟨fun _ => none, 0⟩
theorem rep00 (w : World) (hg : GlobOK w.heap.size w) : Rep w.heap.size w (fun _ => none) w h00 :=
  ⟨Below.refl _ _, Nat.le_refl _, hg, fun _ _ => rfl, fun _ _ hr => (by cases hr), fun _ _ _ _ _ _ hr => (by cases hr)⟩
theorem law_calls {P : Program} {f : FuncId} {fn : Func} {avs : List AV} {vs : List Value} {h : H} {μ : Mu} {w : World} (hf : P.funcs[f]? = some fn) (hb : fn.body.isSome = true) (hname : (fn.name == "runtime.NumGoroutine") = false)
    (R : Rep w.heap.size w μ w h) (hr : RelA μ avs vs) (hc : ACalls P f avs h (fun r _ => r = .bool true)) : Calls P f vs.toArray w (fun e w' => e = .returned (.bool true) ∧ Below w.heap.size w w') := by
  rcases hc _ _ _ _ _ R hr with ⟨_, h2⟩ | ⟨v, h1, _⟩
  · refine h2.mono ?_
    rintro e w' ⟨v, rfl, μ', r, h', _, q2, q3, rfl⟩
    cases q2
    exact ⟨rfl, q3.below⟩
  · exfalso
    have hname' : ¬ fn.name = "runtime.NumGoroutine" := by simpa using hname
    obtain ⟨c, hb⟩ := Option.isSome_iff_exists.1 hb
    simp [callFunc, hf, hname', hb] at h1
section
variable {T : Type} {enc : TypeId × Value → T} {P : Program}
theorem post_kept {f : Func} {s : ChangeSpec} {apart fresh handsOn again : Bool} {W W' : World} {args : Array Value} {v : Value} {ds gs : List (DataW T)} {before pa pv : List MemPlace}
    (hW : DataW.Whole enc P f.params.toList s.vars apart W args.toList ds gs before)
    (hres : ∀ (b : Nat) (sp : Nat → Bool) (hd : Bool), DataW.TrodAll enc P W' b sp hd f.resultTypes.toList (v.resultList f.resultTypes.size) (s.fn T (ds ++ gs)).results [])
    (hargs : ∀ sp : Nat → Bool, (∀ p ∈ before, sp p.block = true) → DataW.TrodAll enc P W' 0 sp true f.params.toList args.toList (s.fn T (ds ++ gs)).args pa)
    (hvars : ∀ sp : Nat → Bool, (∀ p ∈ before, sp p.block = true) → DataW.TrodVars enc P W' sp s.vars (s.fn T (ds ++ gs)).vars pv)
    (hsplit : before = pa ++ pv) (hB : Below W.heap.size W W')
    (hok : ∀ (j : Nat) (t : TypeId) (r : Value), f.resultTypes[j]? = some t → (v.resultList f.resultTypes.size)[j]? = some r → Value.okWide P W' .any 0 t r) :
    s.post enc P f apart fresh handsOn again W args v W' := by
  subst hsplit
  have low : ∀ p ∈ pa ++ pv, p.block < W.heap.size := fun p hp => hW.lt p hp
  have mark : ∀ p ∈ pa ++ pv, (fun b => decide (b < W.heap.size)) p.block = true := fun p hp => decide_eq_true (low p hp)
  have keep : W.keptBut W' (· ∈ pa ++ pv) := hB.frame _
  refine ⟨ds, gs, pa ++ pv, [], pa, pv, hW, hres _ _ _, hargs _ mark, hvars _ mark, World.keptBut_mono (fun p hp => ⟨hp, .inr (List.mem_append.1 hp)⟩) keep, fun _ => ⟨hok, _, _, ([] ++ pa) ++ pv, ⟨[] ++ pa, pv, trodAll_append (hargs _ (fun _ _ => rfl)) (hres _ _ _), hvars _ (fun _ _ => rfl), rfl, ?_, ?_⟩, ?_⟩⟩
  · intro b off hp
    have hp' : MemPlace.cell b off ∈ pa ++ pv := by simpa using hp
    obtain ⟨_, _, _, _, _, hz, _⟩ := hW
    rw [hB.frozen (low _ hp')]
    exact hz b off hp'
  · intro ha
    obtain ⟨_, _, _, _, _, _, hn⟩ := hW
    simpa using hn ha
  · intro p hp _
    simpa using hp
end
theorem wf_u64 {a : Int} (h : (Lit.int .u64 a).wf = true) : ∃ n : Nat, a = (n : Int) ∧ n < 18446744073709551616 := by
  simp [Lit.wf, IntKind.min, IntKind.max, IntKind.signed, IntKind.bits] at h
  exact ⟨a.toNat, by omega, by omega⟩
end
section
open Go Go.RowKit Go.WideShapes Go.ChangeShapes Go.ChangeAt
inductive Reads (P : Program) (h : H) : TypeId → List AV → Prop
  | int {t : TypeId} {k : IntKind} {n : Int} (ht : P.underlying t = some (.int k)) (hw : (Lit.int k n).wf = true) : Reads P h t [.int k n]
  | bool {t : TypeId} {b : Bool} (ht : P.underlying t = some .bool) : Reads P h t [.bool b]
  | str {t : TypeId} {s : ByteArray} (ht : P.underlying t = some .string) (hs : s.size ≤ maxLen) : Reads P h t [.str s]
  | snil {t e : TypeId} (ht : P.underlying t = some (.slice e)) : Reads P h t [.sl none 0 0 none]
  | sl {t e : TypeId} {id len : Nat} {r : Row} (ht : P.underlying t = some (.slice e)) (hr : h.rows id = some r) (ho : r.own = none) (hlen : len ≤ maxLen) (hl : r.cells.length = len * P.cellsOf e)
      (he : ∀ i, i < len → Reads P h e ((r.cells.drop (i * P.cellsOf e)).take (P.cellsOf e))) : Reads P h t [.sl (some id) 0 len none]
  | struct {t : TypeId} {fs : Array Field} {l : List AV} (ht : P.underlying t = some (.struct fs)) (hl : l.length = P.cellsOf t)
      (hf : ∀ f ∈ fs.toList, Reads P h f.type ((l.drop f.offset).take (P.cellsOf f.type))) : Reads P h t l
theorem Reads.mono {P : Program} {h h' : H} (hl : h.le h') {t : TypeId} {l : List AV} (r : Reads P h t l) : Reads P h' t l := by
  induction r with
  | int ht hw => exact .int ht hw
  | bool ht => exact .bool ht
  | str ht hs => exact .str ht hs
  | snil ht => exact .snil ht
  | sl ht hr ho hlen hl' _ ih => exact .sl ht (hl.2 _ _ hr) ho hlen hl' ih
  | struct ht hl' _ ih => exact .struct ht hl' ih
def ReadsV (P : Program) (h : H) (t : TypeId) (u : AV) : Prop :=
  match P.underlying t with
  | some (.struct _) => ∃ l, u = .agg l ∧ Reads P h t l
  | _ => Reads P h t [u]
theorem ReadsV.mono {P : Program} {h h' : H} (hl : h.le h') {t : TypeId} {u : AV} (r : ReadsV P h t u) : ReadsV P h' t u := by
  unfold ReadsV at *
  split at r
  · obtain ⟨l, e, r⟩ := r; exact ⟨l, e, r.mono hl⟩
  · exact r.mono hl
def plainB (P : Program) : Nat → TypeId → Bool
  | 0, _ => false
  | d + 1, t => match P.underlying t with
    | some .bool => true
    | some (.int _) => true
    | some .string => true
    | some (.slice e) => decide (0 < P.cellsOf e) && plainB P d e
    | some (.struct fs) => fs.toList.all (fun f => plainB P d f.type) && P.cellsOf t == (fs.toList.map fun f => P.cellsOf f.type).sum &&
        (List.range fs.toList.length).all fun j => match fs.toList[j]? with | some f => f.offset == ((fs.toList.take j).map fun f => P.cellsOf f.type).sum | none => true
    | _ => false
section
variable {H' : Type} {enc : TypeId × Value → H'} {P : Program} {w : World}
theorem cells_get {base : Nat} {a : Addr} {n : Nat} {cs : List Value} (h : w.cells? base a n = some cs) : cs.length = n ∧ ∀ i v, cs[i]? = some v → w.cell? (a.add i) = some v := by
  unfold World.cells? at h
  split at h
  · refine ⟨by simpa using mapM_some_length h, fun i v hv => ?_⟩
    have hi : i < n := by
      have := mapM_some_length h
      have h2 := (List.getElem?_eq_some_iff.1 hv).1
      simp at this
      omega
    rw [mapM_some_get h i i (by simp [hi]), hv]
  · cases h
theorem cell_block {a : Addr} {v : Value} (h : w.cell? a = some v) : a.block < w.heap.size := by
  unfold World.cell? at h
  split at h
  · rename_i c _ _ e
    exact (Array.getElem?_eq_some_iff.1 e).1
  · cases h
theorem Rep.note {base : Nat} {w0 : World} {μ : Mu} {h : H} (R : Rep base w0 μ w h) {a : Addr} {z : Nat} {l : List AV} (ha : a.block < base) (hl : ∀ (j : Nat) (u : AV), l[j]? = some u → ∃ v, w.cell? (a.add j) = some v ∧ Rel μ u v) :
    μ.le (μ.put h.next ⟨a, z, none⟩) ∧ Rep base w0 (μ.put h.next ⟨a, z, none⟩) w (h.new ⟨none, z, l⟩) := by
  have hfree := R.free h.next (Nat.le_refl _)
  have hle := Mu.le_put hfree (⟨a, z, none⟩ : Pl)
  refine ⟨hle, R.below, R.size, R.glob, fun id hid => ?_, fun id r hr => ?_, fun id id' r r' p p' hr hr' ho ho' hp hp' => ?_⟩
  · simp only [H.new] at hid
    simp only [Mu.put]
    rw [if_neg (by omega)]
    exact R.free id (by omega)
  · simp only [H.new] at hr
    split at hr
    · rename_i e
      injection hr with hr
      subst hr
      subst e
      exact ⟨⟨a, z, none⟩, by simp [Mu.put], ha, rfl, fun j u hu => by
        obtain ⟨v, h1, h2⟩ := hl j u hu
        exact ⟨v, h1, h2.mono hle⟩⟩
    · obtain ⟨p, hp, hR⟩ := R.row id r hr
      exact ⟨p, hle _ _ hp, hR.mono hle⟩
  · have old : ∀ {i : Nat} {r : Row} {p : Pl}, (h.new ⟨none, z, l⟩).rows i = some r → r.own ≠ none → (μ.put h.next ⟨a, z, none⟩) i = some p → h.rows i = some r ∧ μ i = some p := by
      intro i r p hr ho hp
      simp only [H.new] at hr
      split at hr
      · injection hr with hr
        subst hr
        exact absurd rfl ho
      · rename_i e
        simp only [Mu.put] at hp
        rw [if_neg e] at hp
        exact ⟨hr, hp⟩
    obtain ⟨a1, a2⟩ := old hr ho hp
    obtain ⟨b1, b2⟩ := old hr' ho' hp'
    exact R.apart id id' r r' p p' a1 b1 ho ho' a2 b2
theorem sum_take_succ {α : Type} (l : List α) (g : α → Nat) (j : Nat) (x : α) (h : l[j]? = some x) : ((l.take (j + 1)).map g).sum = ((l.take j).map g).sum + g x := by
  obtain ⟨hj, rfl⟩ := List.getElem?_eq_some_iff.1 h
  rw [List.take_succ_eq_append_getElem hj, List.map_append, List.sum_append]
  simp
theorem absorb (base : Nat) : ∀ (n d : Nat) (t : TypeId) (cs : List Value) (x : DataW H' × List MemPlace) (μ : Mu) (h : H), plainB P d t = true → DataW.trod enc P w base (fun _ => true) true n t cs = some x →
    Rep w.heap.size w μ w h → ∃ μ' h' l, μ.le μ' ∧ h.le h' ∧ Rep w.heap.size w μ' w h' ∧ RelA μ' l cs ∧ Reads P h' t l := by
  intro n
  induction n with
  | zero => intro d t cs x μ h _ hx; simp [DataW.trod] at hx
  | succ n ih =>
    intro d t cs x μ h hp hx R
    cases d with
    | zero => simp [plainB] at hp
    | succ d =>
      rw [DataW.trod_step] at hx
      unfold DataW.trodStep at hx
      unfold plainB at hp
      split at hx
      case h_1 b ht => exact ⟨μ, h, [.bool b], μ.le_refl, H.le_refl h, R, (RelA.nil μ).cons (.bool b), .bool ht⟩
      case h_2 k k' m ht =>
        split at hx
        · rename_i hc
          obtain ⟨rfl, hw⟩ := hc
          exact ⟨μ, h, [.int k' m], μ.le_refl, H.le_refl h, R, (RelA.nil μ).cons (.int k' m), .int ht hw⟩
        · cases hx
      case h_4 s ht =>
        split at hx
        · rename_i hc
          exact ⟨μ, h, [.str s], μ.le_refl, H.le_refl h, R, (RelA.nil μ).cons (.str s), .str ht hc⟩
        · cases hx
      case h_7 e ht => exact ⟨μ, h, [.sl none 0 0 none], μ.le_refl, H.le_refl h, R, (RelA.nil μ).cons (.snil (fun x hx => by cases hx)), .snil ht⟩
      case h_8 e a len cap ht =>
        rw [ht] at hp
        simp only [Bool.and_eq_true, decide_eq_true_eq] at hp
        obtain ⟨hpos, hpe⟩ := hp
        simp only at hx
        split at hx
        · rename_i hc
          simp only [Option.map_eq_some_iff, Option.bind_eq_some_iff, if_true] at hx
          obtain ⟨elems, he, rest, hrest, rfl⟩ := hx
          rcases Nat.eq_zero_or_pos cap with hc0 | hc0
          · have hl0 : len = 0 := by omega
            subst hc0; subst hl0
            exact ⟨μ, h, [.sl none 0 0 none], μ.le_refl, H.le_refl h, R, (RelA.nil μ).cons (.snil (fun x hx => by cases hx)), .snil ht⟩
          · -- the block is there
            have hblk : a.block < w.heap.size := by
              rcases Nat.eq_zero_or_pos len with hl0 | hl0
              · subst hl0
                have h0 := mapM_some_get hrest 0 0 (List.getElem?_range (by omega))
                have hne := mapM_some_length hrest
                rw [List.length_range] at hne
                obtain ⟨y, hy⟩ : ∃ y, rest[0]? = some y := ⟨_, List.getElem?_eq_getElem (by omega)⟩
                rw [hy] at h0
                simp only [Option.bind_eq_some_iff] at h0
                obtain ⟨cs', hcs, _⟩ := h0
                obtain ⟨h1, h2⟩ := cells_get hcs
                have := cell_block (h2 0 _ (List.getElem?_eq_getElem (by omega)))
                simpa [block_add] using this
              · have h0 := mapM_some_get he 0 0 (List.getElem?_range (by omega))
                have hne := mapM_some_length he
                rw [List.length_range] at hne
                obtain ⟨y, hy⟩ : ∃ y, elems[0]? = some y := ⟨_, List.getElem?_eq_getElem (by omega)⟩
                rw [hy] at h0
                simp only [Option.bind_eq_some_iff] at h0
                obtain ⟨cs', hcs, _⟩ := h0
                obtain ⟨h1, h2⟩ := cells_get hcs
                have := cell_block (h2 0 _ (List.getElem?_eq_getElem (by omega)))
                simpa [block_add] using this
            -- the elements, one after the other
            have step : ∀ m, m ≤ len → ∃ (μ' : Mu) (h' : H) (l : List AV), μ.le μ' ∧ h.le h' ∧ Rep w.heap.size w μ' w h' ∧ l.length = m * P.cellsOf e ∧ (∀ (j : Nat) (u : AV), l[j]? = some u → ∃ v, w.cell? (a.add j) = some v ∧ Rel μ' u v) ∧
                ∀ i, i < m → Reads P h' e ((l.drop (i * P.cellsOf e)).take (P.cellsOf e)) := by
              intro m
              induction m with
              | zero => exact fun _ => ⟨μ, h, [], μ.le_refl, H.le_refl h, R, by simp, fun j u hu => by simp at hu, fun i hi => by omega⟩
              | succ m ihm =>
                intro hm
                obtain ⟨μ1, h1, l1, q1, q2, q3, q4, q5, q6⟩ := ihm (by omega)
                have hne := mapM_some_length he
                rw [List.length_range] at hne
                have h0 := mapM_some_get he m m (List.getElem?_range (by omega))
                rw [List.getElem?_eq_getElem (show m < elems.length by omega)] at h0
                simp only [Option.bind_eq_some_iff] at h0
                obtain ⟨cs', hcs, hy⟩ := h0
                obtain ⟨g1, g2⟩ := cells_get hcs
                obtain ⟨μ2, h2, l2, r1, r2, r3, r4, r5⟩ := ih d e cs' _ μ1 h1 hpe hy q3
                have hl2 : l2.length = P.cellsOf e := by rw [r4.1, g1]
                refine ⟨μ2, h2, l1 ++ l2, Mu.le_trans q1 r1, H.le_trans q2 r2, r3, by rw [List.length_append, q4, hl2, Nat.succ_mul], fun j u hu => ?_, fun i hi => ?_⟩
                · rcases Nat.lt_or_ge j l1.length with hj | hj
                  · rw [List.getElem?_append_left hj] at hu
                    obtain ⟨v, e1, e2⟩ := q5 j u hu
                    exact ⟨v, e1, e2.mono r1⟩
                  · rw [List.getElem?_append_right hj] at hu
                    have hj2 : j - l1.length < cs'.length := by
                      have := (List.getElem?_eq_some_iff.1 hu).1
                      omega
                    refine ⟨cs'[j - l1.length], ?_, r4.2 _ _ _ hu (List.getElem?_eq_getElem hj2)⟩
                    have := g2 _ _ (List.getElem?_eq_getElem hj2)
                    rw [add_add, ← q4] at this
                    rwa [show l1.length + (j - l1.length) = j from by omega] at this
                · rcases Nat.lt_or_ge i m with hi2 | hi2
                  · have := (q6 i hi2).mono r2
                    have hfit : i * P.cellsOf e + P.cellsOf e ≤ l1.length := by
                      rw [q4, ← Nat.succ_mul]
                      exact Nat.mul_le_mul_right _ hi2
                    rw [List.drop_append_of_le_length (by omega), List.take_append_of_le_length (by simp; omega)]
                    exact this
                  · have : i = m := by omega
                    subst this
                    rw [← q4, List.drop_left, ← hl2, List.take_length]
                    exact r5
            obtain ⟨μ1, h1, l, q1, q2, q3, q4, q5, q6⟩ := step len (Nat.le_refl _)
            obtain ⟨s1, s2⟩ := q3.note (z := P.cellsOf e) hblk q5
            have hw1 := q3.wf
            refine ⟨_, _, [.sl (some h1.next) 0 len none], Mu.le_trans q1 s1, H.le_trans q2 (H.le_new hw1 (H.le_refl h1) _), s2, (RelA.nil _).cons ?_, ?_⟩
            · exact Rel.sl (p := ⟨a, P.cellsOf e, none⟩) (by simp [Mu.put]) (.inr (by simp [Addr.add])) hc.2.1 (fun x hx => by cases hx) (fun T hT => by cases hT)
            · exact .sl ht (H.rows_new _ _) rfl (Nat.le_trans hc.2.1 hc.2.2) q4 (fun i hi => (q6 i hi).mono (H.le_new hw1 (H.le_refl h1) _))
        · cases hx
      case h_9 =>
        rename_i cs _ _ fs ht
        rw [ht] at hp
        simp only [Bool.and_eq_true, beq_iff_eq, List.all_eq_true] at hp
        obtain ⟨⟨hpf, hsum⟩, hoff⟩ := hp
        split at hx
        · rename_i hc
          simp only [Option.map_eq_some_iff] at hx
          obtain ⟨xs, hm, rfl⟩ := hx
          have off : ∀ j f, fs.toList[j]? = some f → f.offset = ((fs.toList.take j).map fun f => P.cellsOf f.type).sum := by
            intro j f hf
            have hj := (List.getElem?_eq_some_iff.1 hf).1
            have := hoff j (List.mem_range.2 hj)
            rw [hf] at this
            simpa using this
          have step : ∀ m, m ≤ fs.toList.length → ∃ (μ' : Mu) (h' : H) (l : List AV), μ.le μ' ∧ h.le h' ∧ Rep w.heap.size w μ' w h' ∧ l.length = ((fs.toList.take m).map fun f => P.cellsOf f.type).sum ∧ RelA μ' l (cs.take ((fs.toList.take m).map fun f => P.cellsOf f.type).sum) ∧
              ∀ j f, j < m → fs.toList[j]? = some f → Reads P h' f.type ((l.drop f.offset).take (P.cellsOf f.type)) := by
            intro m
            induction m with
            | zero => exact fun _ => ⟨μ, h, [], μ.le_refl, H.le_refl h, R, by simp, by simpa using RelA.nil μ, fun j f hj => by omega⟩
            | succ m ihm =>
              intro hm2
              obtain ⟨μ1, h1, l1, q1, q2, q3, q4, q5, q6⟩ := ihm (by omega)
              obtain ⟨f, hf⟩ : ∃ f, fs.toList[m]? = some f := ⟨_, List.getElem?_eq_getElem (by omega)⟩
              have h0 := mapM_some_get hm m f hf
              rw [List.getElem?_eq_getElem (show m < xs.length by rw [mapM_some_length hm]; omega)] at h0
              have ho := off m f hf
              obtain ⟨μ2, h2, l2, r1, r2, r3, r4, r5⟩ := ih d f.type _ _ μ1 h1 (hpf f (List.mem_of_getElem? hf)) h0 q3
              have htot : ((fs.toList.take (m + 1)).map fun f => P.cellsOf f.type).sum ≤ cs.length := by
                rw [hc, hsum]
                conv => rhs; rw [← List.take_append_drop (m + 1) fs.toList]
                rw [List.map_append, List.sum_append]
                omega
              rw [sum_take_succ _ _ _ _ hf] at htot ⊢
              have hl2 : l2.length = P.cellsOf f.type := by
                rw [r4.1, List.length_take, List.length_drop, ho]
                omega
              refine ⟨μ2, h2, l1 ++ l2, Mu.le_trans q1 r1, H.le_trans q2 r2, r3, by rw [List.length_append, q4, hl2], ?_, fun j g hj hg => ?_⟩
              · rw [List.take_add, ← ho]
                rw [← ho] at q5
                exact (q5.mono r1).append r4
              · rcases Nat.lt_or_ge j m with hj2 | hj2
                · have h3 := (q6 j g hj2 hg).mono r2
                  have hfit : g.offset + P.cellsOf g.type ≤ l1.length := by
                    rw [q4, off j g hg, ← sum_take_succ fs.toList (fun f => P.cellsOf f.type) j g hg]
                    have : fs.toList.take m = fs.toList.take (j + 1) ++ (fs.toList.take m).drop (j + 1) := by
                      conv => lhs; rw [← List.take_append_drop (j + 1) (fs.toList.take m)]
                      rw [List.take_take, Nat.min_eq_left (by omega)]
                    rw [this, List.map_append, List.sum_append]
                    omega
                  rw [List.drop_append_of_le_length (by omega), List.take_append_of_le_length (by simp; omega)]
                  exact h3
                · have : j = m := by omega
                  subst this
                  rw [hf] at hg
                  injection hg with hg
                  subst hg
                  rw [ho, ← q4, List.drop_left, ← hl2, List.take_length]
                  exact r5
          obtain ⟨μ1, h1, l, q1, q2, q3, q4, q5, q6⟩ := step fs.toList.length (Nat.le_refl _)
          rw [List.take_length, ← hsum] at q4 q5
          rw [List.take_of_length_le (by omega)] at q5
          refine ⟨μ1, h1, l, q1, q2, q3, q5, .struct ht q4 fun f hf => ?_⟩
          obtain ⟨j, hj, rfl⟩ := List.getElem_of_mem hf
          exact q6 j _ hj (List.getElem?_eq_getElem hj)
        · cases hx
      all_goals first
        | (simp only [‹P.underlying t = _›] at hp; cases hp; done)
        | (cases hx; done)
        | (split at hp <;> simp_all; done)
        | skip
def ReadsAll (P : Program) (h : H) : List TypeId → List AV → Prop
  | [], [] => True
  | t :: ts, u :: us => ReadsV P h t u ∧ ReadsAll P h ts us
  | _, _ => False
theorem ReadsAll.mono {h h' : H} (hl : h.le h') : ∀ {ts : List TypeId} {us : List AV}, ReadsAll P h ts us → ReadsAll P h' ts us
  | [], [], _ => trivial
  | _ :: _, _ :: _, r => ⟨r.1.mono hl, r.2.mono hl⟩
  | [], _ :: _, r => r.elim
  | _ :: _, [], r => r.elim
theorem absorbV {base b d : Nat} {t : TypeId} {v : Value} {x : DataW H'} {ps : List MemPlace} {μ : Mu} {h : H} (hp : plainB P d t = true) (hx : DataW.Trod enc P w base (fun _ => true) true t v x ps) (hok : Value.okWide P w .any b t v)
    (R : Rep w.heap.size w μ w h) : ∃ μ' h' u, μ.le μ' ∧ h.le h' ∧ Rep w.heap.size w μ' w h' ∧ Rel μ' u v ∧ ReadsV P h' t u := by
  obtain ⟨n, hx⟩ := hx
  obtain ⟨μ', h', l, q1, q2, q3, q4, q5⟩ := absorb base n d t _ _ μ h hp hx R
  unfold ReadsV
  have one : v.cells.toList = [v] → ∃ u, Rel μ' u v ∧ l = [u] := by
    intro hv
    rw [hv] at q4
    cases l with
    | nil => simp [RelA] at q4
    | cons u l =>
      have hl : l = [] := by
        have := q4.1
        simp at this
        exact this
      subst hl
      exact ⟨u, q4.2 0 u v rfl rfl, rfl⟩
  cases d with
  | zero => simp [plainB] at hp
  | succ d =>
    unfold plainB at hp
    split at hp
    · rename_i ht
      have hv : ∃ y, v = .bool y := by
        simp only [Value.okWide, ht, Cell.okWide] at hok
        cases v <;> simp_all [Cell.ok]
      obtain ⟨y, rfl⟩ := hv
      obtain ⟨u, hu, rfl⟩ := one rfl
      exact ⟨μ', h', u, q1, q2, q3, hu, by simpa [ht] using q5⟩
    · rename_i k ht
      obtain ⟨y, rfl⟩ := okWide_int ht hok
      obtain ⟨u, hu, rfl⟩ := one rfl
      exact ⟨μ', h', u, q1, q2, q3, hu, by simpa [ht] using q5⟩
    · rename_i ht
      obtain ⟨y, rfl⟩ := okWide_string ht hok
      obtain ⟨u, hu, rfl⟩ := one rfl
      exact ⟨μ', h', u, q1, q2, q3, hu, by simpa [ht] using q5⟩
    · rename_i e ht
      obtain ⟨y, l', c', rfl⟩ := okWide_slice ht hok
      obtain ⟨u, hu, rfl⟩ := one rfl
      exact ⟨μ', h', u, q1, q2, q3, hu, by simpa [ht] using q5⟩
    · rename_i fs ht
      have hv : ∃ cs, v = .agg cs := by
        simp only [Value.okWide, ht] at hok
        obtain ⟨cs, rfl, _⟩ := hok
        exact ⟨cs, rfl⟩
      obtain ⟨cs, rfl⟩ := hv
      refine ⟨μ', h', .agg l, q1, q2, q3, ?_, by simpa [ht] using q5⟩
      simpa [Value.cells] using q4.agg
    · cases hp
theorem absorb_args {base b d : Nat} : ∀ {ts : List TypeId} {vs : List Value} {ds : List (DataW H')} {ps : List MemPlace} {μ : Mu} {h : H}, (∀ t ∈ ts, plainB P d t = true) → DataW.TrodAll enc P w base (fun _ => true) true ts vs ds ps →
    (∀ (j : Nat) (t : TypeId) (v : Value), ts[j]? = some t → vs[j]? = some v → Value.okWide P w .any b t v) → Rep w.heap.size w μ w h → ∃ μ' h' us, h.le h' ∧ Rep w.heap.size w μ' w h' ∧ μ.le μ' ∧ RelA μ' us vs ∧ ReadsAll P h' ts us
  | [], [], [], _, μ, h, _, _, _, R => ⟨μ, h, [], H.le_refl h, R, μ.le_refl, RelA.nil μ, trivial⟩
  | t :: ts, v :: vs, x :: ds, _, μ, h, hp, ⟨p, q, hx, hrest, _⟩, hok, R => by
    obtain ⟨μ1, h1, u, q1, q2, q3, q4, q5⟩ := absorbV (hp t (by simp)) hx (hok 0 t v rfl rfl) R
    obtain ⟨μ2, h2, us, r1, r2, r3, r4, r5⟩ := absorb_args (fun t ht => hp t (by simp [ht])) hrest (fun j t v ht hv => hok (j + 1) t v (by simpa using ht) (by simpa using hv)) q3
    exact ⟨μ2, h2, u :: us, H.le_trans q2 r1, r2, Mu.le_trans q1 r3, RelA.cons (q4.mono r3) r4, q5.mono r1, r5⟩
  | [], _ :: _, _, _, _, _, _, hx, _, _ => hx.elim
  | [], [], _ :: _, _, _, _, _, hx, _, _ => hx.elim
  | _ :: _, [], _, _, _, _, _, hx, _, _ => hx.elim
  | _ :: _, _ :: _, [], _, _, _, _, hx, _, _ => hx.elim
theorem trodAll_stays (hl : laidOutB P = true) {W W' : World} {sp' : Nat → Bool} : ∀ {ts : List TypeId} {vs : List Value} {ds : List (DataW H')} {ps : List MemPlace}, (∀ t ∈ ts, P.readableRec t = true ∧ t < P.types.size) →
    DataW.TrodAll enc P W 0 (fun _ => true) true ts vs ds ps → (∀ p ∈ ps, W.sameAt W' p) → (∀ p ∈ ps, sp' p.block = true) → DataW.TrodAll enc P W' 0 sp' true ts vs ds ps
  | [], [], [], _, _, hx, _, _ => hx
  | t :: ts, v :: vs, x :: ds, _, ht, ⟨p, q, hx, hrest, e⟩, h1, h2 => by
    subst e
    exact ⟨p, q, WideElems.Trod_stays hl (ht t (by simp)).1 (ht t (by simp)).2 hx (fun y hy => h1 y (by simp [hy])) (fun y hy => h2 y (by simp [hy])),
      trodAll_stays hl (fun t' ht' => ht t' (by simp [ht'])) hrest (fun y hy => h1 y (by simp [hy])) (fun y hy => h2 y (by simp [hy])), rfl⟩
  | [], _ :: _, _, _, _, hx, _, _ => hx.elim
  | [], [], _ :: _, _, _, hx, _, _ => hx.elim
  | _ :: _, [], _, _, _, hx, _, _ => hx.elim
  | _ :: _, _ :: _, [], _, _, hx, _, _ => hx.elim
theorem trodAll_length : ∀ {ts : List TypeId} {vs : List Value} {ds : List (DataW H')} {ps : List MemPlace} {W : World} {b : Nat} {sp : Nat → Bool} {hd : Bool}, DataW.TrodAll enc P W b sp hd ts vs ds ps → ds.length = ts.length
  | [], [], [], _, _, _, _, _, _ => rfl
  | _ :: _, _ :: _, _ :: _, _, _, _, _, _, ⟨_, _, _, h, _⟩ => by simp [trodAll_length h]
  | [], _ :: _, _, _, _, _, _, _, hx => hx.elim
  | [], [], _ :: _, _, _, _, _, _, hx => hx.elim
  | _ :: _, [], _, _, _, _, _, _, hx => hx.elim
  | _ :: _, _ :: _, [], _, _, _, _, _, hx => hx.elim
theorem law_row {f : FuncId} {fn : Func} {s : ChangeSpec} {W : World} {b : Nat} {args : Array Value} {ds gs : List (DataW H')} {before : List MemPlace} {tb : TypeId} (hf : P.funcs[f]? = some fn) (hb : fn.body.isSome = true) (hname : (fn.name == "runtime.NumGoroutine") = false)
    (hg : GlobOK W.heap.size W) (hl : laidOutB P = true) (hts : (fn.params.toList.all fun t => P.readableRec t && decide (t < P.types.size) && plainB P 8 t) = true) (hv : s.vars = []) (hs : ∀ ds : List (DataW H'), ds.length = fn.params.size → s.fn H' ds = { results := [.lit (.bool true)], args := ds })
    (hr : fn.resultTypes = #[tb]) (ht : P.underlying tb = some .bool) (hwalk : ∀ h avs, h.wf → ReadsAll P h fn.params.toList avs → ACalls P f avs h (fun r _ => r = .bool true))
    (hval : ∀ (j : Nat) t v, fn.params[j]? = some t → args[j]? = some v → Value.okWide P W .any b t v) (hW : DataW.Whole enc P fn.params.toList s.vars false W args.toList ds gs before) :
    Calls P f args W fun e W' => ∃ v, e = .returned v ∧ s.post enc P fn false true false false W args v W' := by
  have hall : ∀ t ∈ fn.params.toList, (P.readableRec t = true ∧ t < P.types.size) ∧ plainB P 8 t = true := by
    intro t h
    have := List.all_eq_true.1 hts t h
    simpa only [Bool.and_eq_true, decide_eq_true_eq] using this
  have hW' := hW
  have hlt := hW.lt
  obtain ⟨p, q, hA, hV, rfl, hfz, hnd⟩ := hW
  rw [hv] at hV
  obtain ⟨rfl, rfl⟩ := trodVars_none hV
  have hd := trodAll_length hA
  obtain ⟨μ, h, us, _, R, _, hrel, hreads⟩ := absorb_args (fun t h => (hall t h).2) hA (fun j t v ht hv => hval j t v (by simpa using ht) (by simpa using hv)) (rep00 W hg)
  have hc := law_calls hf hb hname R hrel (hwalk h us R.wf hreads)
  rw [show args.toList.toArray = args from by simp] at hc
  refine hc.mono ?_
  rintro e W' ⟨rfl, hB⟩
  have hsp := hs ds (by simpa using hd)
  refine ⟨_, rfl, post_kept (pa := p) (pv := []) hW' (fun b sp hd => ?_) (fun sp hsp' => ?_) (fun sp _ => ?_) rfl hB ?_⟩
  · rw [List.append_nil, hsp, hr]
    exact trodAll_cons_mk (shut_bool ht _) trodAll_mk0
  · rw [List.append_nil, hsp]
    rw [List.append_nil] at hlt hsp'
    exact trodAll_stays hl (fun t h => (hall t h).1) hA (fun x hx => hB.same (hlt x hx)) (fun x hx => hsp' x hx)
  · rw [List.append_nil, hsp, hv]
    rfl
  · exact ok_one hr rfl (okWide_bool_mk ht _)
end
end
section
set_option maxRecDepth 100000
section
variable {h : H} {u : AV}
theorem cell_int {t : TypeId} {k : IntKind} (ht : Tryz.prog.underlying t = some (.int k)) {l : List AV} (r : Reads Tryz.prog h t l) : ∃ n : Int, l = [.int k n] ∧ (Lit.int k n).wf = true := by
  cases r with
  | int ht' hw => rw [ht] at ht'; injection ht' with e; injection e with e; subst e; exact ⟨_, rfl, hw⟩
  | bool ht' => rw [ht] at ht'; cases ht'
  | str ht' => rw [ht] at ht'; cases ht'
  | snil ht' => rw [ht] at ht'; cases ht'
  | sl ht' => rw [ht] at ht'; cases ht'
  | struct ht' => rw [ht] at ht'; cases ht'
theorem cell_ints {t e : TypeId} {k : IntKind} (ht : Tryz.prog.underlying t = some (.slice e)) (he : Tryz.prog.underlying e = some (.int k)) (hz : Tryz.prog.cellsOf e = 1) {l : List AV} (r : Reads Tryz.prog h t l) : ∃ v xs, l = [v] ∧ IsW k h v xs ∧ (∀ x ∈ xs, (Lit.int k x).wf = true) ∧ xs.length ≤ maxLen := by
  cases r with
  | int ht' hw => rw [ht] at ht'; cases ht'
  | bool ht' => rw [ht] at ht'; cases ht'
  | str ht' => rw [ht] at ht'; cases ht'
  | snil ht' => exact ⟨_, [], rfl, ⟨none, 0, none, rfl, .inl ⟨rfl, rfl, rfl⟩⟩, fun x hx => (by cases hx), by simp⟩
  | struct ht' => rw [ht] at ht'; cases ht'
  | @sl _ e' id len r ht' hr ho hlen hl hall =>
    rw [ht] at ht'
    injection ht' with e1
    injection e1 with e1
    subst e1
    rw [hz, Nat.mul_one] at hl
    have hall' : ∀ i, (hi : i < len) → ∃ n : Int, r.cells[i]? = some (.int k n) ∧ (Lit.int k n).wf = true := by
      intro i hi
      obtain ⟨n, e2, hw⟩ := cell_int he (hall i hi)
      refine ⟨n, ?_, hw⟩
      rw [hz, Nat.mul_one] at e2
      have := congrArg (fun l => l[0]?) e2
      simpa [List.getElem?_take, List.getElem?_drop] using this
    let xs : List Int := r.cells.map fun v => match v with | .int _ n => n | _ => 0
    have hx : ∀ i : Nat, i < len → ∃ n, r.cells[i]? = some (.int k n) ∧ xs[i]? = some n ∧ (Lit.int k n).wf = true := by
      intro i hi
      obtain ⟨n, h1, h2⟩ := hall' i hi
      exact ⟨n, h1, by simp [xs, h1], h2⟩
    have hxl : xs.length = len := by simp [xs, hl]
    refine ⟨_, xs, rfl, ⟨some id, 0, none, by rw [hxl], .inr ⟨id, r, rfl, hr, .inl ho, by omega, ?_⟩⟩, fun x hm => ?_, by rw [hxl]; exact hlen⟩
    · rw [List.drop_zero, List.take_of_length_le (by omega)]
      apply List.ext_getElem?
      intro i
      rw [W_get]
      rcases Nat.lt_or_ge i len with hi | hi
      · obtain ⟨n, h1, h2, _⟩ := hx i hi
        rw [h1, h2]; rfl
      · rw [List.getElem?_eq_none (by omega), List.getElem?_eq_none (by omega)]; rfl
    · obtain ⟨i, hi, rfl⟩ := List.getElem_of_mem hm
      obtain ⟨n, _, h2, h3⟩ := hx i (by omega)
      rw [List.getElem?_eq_getElem hi] at h2
      injection h2 with h2
      rw [h2]
      exact h3
theorem readsV_slice {t e : TypeId} (ht : Tryz.prog.underlying t = some (.slice e)) (r : ReadsV Tryz.prog h t u) : Reads Tryz.prog h t [u] := by
  unfold ReadsV at r
  rw [ht] at r
  exact r
theorem nats {xs : List Int} (hx : ∀ x ∈ xs, (Lit.int .u64 x).wf = true) : ∃ ys : List Nat, xs = ys.map (fun n : Nat => (n : Int)) ∧ ∀ y ∈ ys, y < 18446744073709551616 := by
  induction xs with
  | nil => exact ⟨[], rfl, by simp⟩
  | cons x xs ih =>
    obtain ⟨ys, e, hy⟩ := ih (fun z hz => hx z (by simp [hz]))
    obtain ⟨m, rfl, hm⟩ := wf_u64 (hx x (by simp))
    refine ⟨m :: ys, by simp [e], fun y hy2 => ?_⟩
    rcases List.mem_cons.1 hy2 with rfl | h2
    · exact hm
    · exact hy y h2
theorem cell_words {t : TypeId} (ht : Tryz.prog.underlying t = some (.slice 93)) {l : List AV} (r : Reads Tryz.prog h t l) : ∃ v xs, l = [v] ∧ IsN h v xs ∧ (∀ x ∈ xs, x < 18446744073709551616) ∧ xs.length ≤ maxLen := by
  obtain ⟨v, xs, rfl, h1, h2, h3⟩ := cell_ints ht Tryz.underlying93 (by kernel_rfl) r
  obtain ⟨ys, rfl, hy⟩ := nats h2
  exact ⟨v, ys, rfl, h1, hy, by simpa using h3⟩
theorem reads_words (r : ReadsV Tryz.prog h 36 u) : ∃ xs, IsN h u xs ∧ (∀ x ∈ xs, x < 18446744073709551616) ∧ xs.length ≤ maxLen := by
  obtain ⟨v, xs, e, h1, h2, h3⟩ := cell_words (by kernel_rfl) (readsV_slice (e := 93) (by kernel_rfl) r)
  injection e with e
  subst e
  exact ⟨xs, h1, h2, h3⟩
end
end
def tuneCells (t : Tb) : List AV := [.int .i64 0, .int .i64 0, .int .i64 0] ++ t.cells
theorem New_calls {t : Tb} {h : H} {K : AV → H → Prop} (hk : ∀ id h', h'.wf → h.le h' → h.next ≤ id → h'.rows id = some ⟨some 111, 14, tuneCells (clampT t)⟩ → K (.ptr (some (id, 0))) h') : ACalls Tryz.prog 126 [t.av] h K := by
  refine in_table_New (by simp) fun hw => ?_
  unfold c_table_New
  have hl1 := H.le_new hw (H.le_refl h) ⟨some 23, 11, t.cells⟩
  simp only [go_sem, ↓reduceIte, Nat.reduceEqDiff, Nat.reduceAdd, Bool.false_eq_true, Int.reduceToNat, av_held, av_cells, cells_len, true_and, gsT (H.rows_new h _)]
  refine Clamp_calls fun h1 hw1 hl2 => ?_
  simp only [go_sem, ↓reduceIte, Nat.reduceEqDiff, Nat.reduceAdd, Bool.false_eq_true, Int.reduceToNat]
  simp only [bld14, go_sem, ↓reduceIte, Nat.reduceEqDiff, Nat.reduceAdd, Bool.false_eq_true, Int.reduceToNat]
  exact ⟨rfl, fun hw' => hk _ _ hw' (H.le_new hw1 (H.le_trans hl1 hl2) _) (Nat.le_trans (Nat.le_succ _) hl2.1) (H.rows_new _ _)⟩
theorem routeT_comm {t : Tb} {n m : Int} : routeT t n m = routeT t m n := by
  unfold routeT
  rw [Int.max_comm, Int.min_comm]
  congr 1
  simp only [eq_iff_iff]
  omega
theorem costT_comm {t : Tb} {n m : Nat} : costT t n m = costT t m n := by unfold costT; rw [Nat.max_comm, Nat.min_comm]
section
open Go
def c_divs_New : AC := .seq (.reg [o 1 (.box 23 (.t 0)), o 2 (.mv (.c (.ptr none)))]) (.seq (.reg [o 3 (.ld (some 11) (.t 1)), o 4 (.call 51 [.t 3]), o 5 (.bld [.ptr none] [(0, 1, .t 4)]), o 6 (.box 66 (.t 5)), mv 2 6]) .ret)
theorem in_divs_New : Ent 23 7 c_divs_New [.t 2] := ent Tryz.func23 rfl rfl rfl (show compile _ 7 _ = _ by kernel_rfl) (show compRes _ 7 _ = _ by kernel_rfl)
def c_divs_Engine_Long : AC := .seq (.reg [o 6 (.mv (.c (.sl none 0 0 none))), o 7 (.mv (.c (.sl none 0 0 none))), o 8 (.mv (i64 0))]) (.seq (.reg [mv 21 1, o 22 (.call 52 [.t 21]), mv 23 2, o 24 (.call 52 [.t 23]), mv 9 22, mv 10 24]) (.seq (.seq (.reg [mv 25 10, o 26 (.bin .eql (.t 25) (i64 0))]) (.cond (.t 26) (.seq (.reg [o 6 (.mv (.c (.sl none 0 0 none))), o 7 (.mv (.c (.sl none 0 0 none))), o 8 (.mv (i64 2))]) .ret) .skip)) (.seq (.seq (.reg [mv 27 9, mv 28 10, bn 29 .lss 27 28]) (.cond (.t 29) (.seq (.reg [mv 30 1, o 31 (.call 53 [.t 30]), o 6 (.mv (.c (.sl none 0 0 none))), mv 7 31, o 8 (.mv (i64 0))]) .ret) .skip)) (.seq (.reg [mv 32 0, o 33 (.nn (.t 32)), o 34 (.fld 0 (.t 33)), o 35 (.ld none (.t 34)), o 36 (.nn (.t 35)), o 37 (.fld 0 (.t 36)), o 38 (.ld none (.t 37)), o 39 (.nn (.t 38)), o 40 (.fld 0 (.t 39)), o 41 (.ld none (.t 40)), o 42 (.nn (.t 41)), o 43 (.fld 0 (.t 42)), o 44 (.ld none (.t 43)), o 45 (.nn (.t 44)), o 46 (.fld 0 (.t 45)), o 47 (.ld none (.t 46)), o 48 (.nn (.t 47)), o 49 (.fld 0 (.t 48)), mv 50 9, mv 51 10, bn 52 .sub 50 51, o 53 (.bin .add (.t 52) (i64 1)), mv 54 10, o 55 (.bin .add (.t 54) (i64 1)), bn 56 .mul 53 55, o 57 (.call 54 [.t 49, .t 56])]) (.seq (.seq (.reg [mv 58 10, o 59 (.bin .eql (.t 58) (i64 1))]) (.cond (.t 59) (.seq (.reg [mv 61 1, mv 62 2, o 63 (.idx 1 (.t 62) (i64 0)), o 64 (.ld none (.t 63)), o 65 (.call 55 [.t 61, .t 64]), mv 60 65, o 66 (.ext (.t 60) 0), o 67 (.ext (.t 60) 1), o 68 (.ext (.t 60) 2), mv 11 66, mv 12 67, mv 13 68]) (.seq (.reg [mv 69 11, mv 70 12, o 71 (.call 56 [.t 70]), mv 6 69, mv 7 71, o 8 (.mv (i64 0))]) .ret)) .skip)) (.seq (.reg [mv 72 2, mv 73 10, o 74 (.bin .sub (.t 73) (i64 1)), o 75 (.idx 1 (.t 72) (.t 74)), o 76 (.ld none (.t 75)), o 77 (.call 57 [.t 76]), mv 14 77]) (.seq (.reg [mv 78 2, mv 79 14, o 80 (.call 58 [.t 78, .t 79]), mv 15 80]) (.seq (.reg [mv 81 9, o 82 (.bin .add (.t 81) (i64 1)), o 83 (.mk 93 1 8 [.int .u64 0] (.t 82) (.t 82)), mv 16 83]) (.seq (.reg [mv 84 16, mv 85 1, mv 86 14, o 87 (.call 58 [.t 85, .t 86]), o 88 (.cpy 1 (.t 84) (.t 87))]) (.seq (.reg [mv 90 15, mv 91 10, o 92 (.bin .sub (.t 91) (i64 1)), o 93 (.idx 1 (.t 90) (.t 92)), o 94 (.ld none (.t 93)), mv 95 15, mv 96 10, o 97 (.bin .sub (.t 96) (i64 2)), o 98 (.idx 1 (.t 95) (.t 97)), o 99 (.ld none (.t 98)), o 100 (.call 59 [.t 94, .t 99]), mv 89 100, o 101 (.ext (.t 89) 0), o 102 (.ext (.t 89) 1), mv 17 101, mv 18 102]) (.seq (.reg [mv 103 9, mv 104 10, bn 105 .sub 103 104, o 106 (.bin .add (.t 105) (i64 1)), o 107 (.mk 93 1 8 [.int .u64 0] (.t 106) (.t 106)), mv 19 107]) (.seq (.seq (.reg [mv 108 9, mv 109 10, bn 110 .sub 108 109, mv 20 110]) (.block 0 (.loop (.seq (.seq (.reg [mv 111 20, o 112 (.bin .geq (.t 111) (i64 0))]) (.cond (.t 112) .skip (.exit 0))) (.seq (.block 1 (.reg [mv 115 19, mv 116 20, mv 117 16, mv 118 20, mv 119 20, mv 120 10, bn 121 .add 119 120, o 122 (.bin .add (.t 121) (i64 1)), o 123 (.slc 1 (.t 117) (some (.t 118)) (some (.t 122))), mv 124 15, mv 125 17, o 126 (.call 60 [.t 123, .t 124, .t 125]), o 127 (.idx 1 (.t 115) (.t 116)), od (.st 1 (.t 127) (.t 126))])) (.reg [mv 113 20, o 114 (.bin .sub (.t 113) (i64 1)), mv 20 114])))))) (.seq (.reg [mv 128 19, o 129 (.call 53 [.t 128]), mv 130 16, mv 131 14, o 132 (.call 61 [.t 130, .t 131]), mv 6 129, mv 7 132, o 8 (.mv (i64 0))]) .ret)))))))))))))
theorem in_divs_Engine_Long : Ent 26 133 c_divs_Engine_Long [.t 6, .t 7, .t 8] := ent Tryz.func26 rfl rfl rfl (show compile _ 133 _ = _ by kernel_rfl) (show compRes _ 133 _ = _ by kernel_rfl)
def c_divs_digit : AC := .seq (.reg [o 6 (.mv (u64 0))]) (.seq (.reg [mv 20 1, o 21 (.len false (.t 20)), mv 7 21]) (.seq (.reg [mv 23 0, mv 24 7, o 25 (.idx 1 (.t 23) (.t 24)), o 26 (.ld none (.t 25)), mv 27 0, mv 28 7, o 29 (.bin .sub (.t 28) (i64 1)), o 30 (.idx 1 (.t 27) (.t 29)), o 31 (.ld none (.t 30)), mv 32 0, mv 33 7, o 34 (.bin .sub (.t 33) (i64 2)), o 35 (.idx 1 (.t 32) (.t 34)), o 36 (.ld none (.t 35)), mv 37 1, mv 38 7, o 39 (.bin .sub (.t 38) (i64 1)), o 40 (.idx 1 (.t 37) (.t 39)), o 41 (.ld none (.t 40)), mv 42 1, mv 43 7, o 44 (.bin .sub (.t 43) (i64 2)), o 45 (.idx 1 (.t 42) (.t 44)), o 46 (.ld none (.t 45)), mv 47 2, o 48 (.call 85 [.t 26, .t 31, .t 36, .t 41, .t 46, .t 47]), mv 22 48, o 49 (.ext (.t 22) 0), o 50 (.ext (.t 22) 1), o 51 (.ext (.t 22) 2), o 52 (.ext (.t 22) 3), mv 8 49, mv 9 50, mv 10 51, mv 11 52]) (.seq (.seq (.reg [mv 53 11, o 54 (.un .not (.t 53))]) (.cond (.t 54) (.reg [o 8 (.mv (u64 18446744073709551615))]) .skip)) (.seq (.reg [o 12 (.mv (u64 0))]) (.seq (.seq (.reg [o 13 (.mv (i64 0))]) (.block 0 (.loop (.seq (.seq (.reg [mv 55 13, mv 56 7, bn 57 .lss 55 56]) (.cond (.t 57) .skip (.exit 0))) (.seq (.block 1 (.seq (.reg [mv 61 8, mv 62 1, mv 63 13, o 64 (.idx 1 (.t 62) (.t 63)), o 65 (.ld none (.t 64)), o 66 (.call 84 [.t 61, .t 65]), mv 60 66, o 67 (.ext (.t 60) 0), o 68 (.ext (.t 60) 1), mv 14 67, mv 15 68]) (.seq (.reg [mv 70 15, mv 71 12, o 72 (.call 86 [.t 70, .t 71, u64 0]), mv 69 72, o 73 (.ext (.t 69) 0), o 74 (.ext (.t 69) 1), mv 15 73, mv 16 74]) (.seq (.reg [mv 75 14, mv 76 16, bn 77 .add 75 76, mv 14 77]) (.seq (.reg [mv 79 0, mv 80 13, mv 81 0, mv 82 13, o 83 (.idx 1 (.t 81) (.t 82)), o 84 (.ld none (.t 83)), mv 85 15, o 86 (.call 87 [.t 84, .t 85, u64 0]), mv 78 86, o 87 (.ext (.t 78) 0), o 88 (.ext (.t 78) 1), o 89 (.idx 1 (.t 79) (.t 80)), od (.st 1 (.t 89) (.t 87)), mv 16 88]) (.reg [mv 90 14, mv 91 16, bn 92 .add 90 91, mv 12 92])))))) (.reg [mv 58 13, o 59 (.bin .add (.t 58) (i64 1)), mv 13 59])))))) (.seq (.reg [mv 94 0, mv 95 7, o 96 (.idx 1 (.t 94) (.t 95)), o 97 (.ld none (.t 96)), mv 98 12, o 99 (.call 87 [.t 97, .t 98, u64 0]), mv 93 99, o 100 (.ext (.t 93) 0), o 101 (.ext (.t 93) 1), mv 17 100, mv 18 101]) (.seq (.reg [mv 102 0, mv 103 7, mv 104 17, o 105 (.idx 1 (.t 102) (.t 103)), od (.st 1 (.t 105) (.t 104))]) (.seq (.block 2 (.loop (.seq (.seq (.reg [mv 106 18, o 107 (.bin .neq (.t 106) (u64 0))]) (.cond (.t 107) .skip (.exit 2))) (.block 3 (.seq (.reg [mv 108 8, o 109 (.bin .sub (.t 108) (u64 1)), mv 8 109]) (.seq (.reg [o 12 (.mv (u64 0))]) (.seq (.seq (.reg [o 19 (.mv (i64 0))]) (.block 4 (.loop (.seq (.seq (.reg [mv 110 19, mv 111 7, bn 112 .lss 110 111]) (.cond (.t 112) .skip (.exit 4))) (.seq (.block 5 (.reg [mv 116 0, mv 117 19, mv 118 0, mv 119 19, o 120 (.idx 1 (.t 118) (.t 119)), o 121 (.ld none (.t 120)), mv 122 1, mv 123 19, o 124 (.idx 1 (.t 122) (.t 123)), o 125 (.ld none (.t 124)), mv 126 12, o 127 (.call 86 [.t 121, .t 125, .t 126]), mv 115 127, o 128 (.ext (.t 115) 0), o 129 (.ext (.t 115) 1), o 130 (.idx 1 (.t 116) (.t 117)), od (.st 1 (.t 130) (.t 128)), mv 12 129])) (.reg [mv 113 19, o 114 (.bin .add (.t 113) (i64 1)), mv 19 114])))))) (.seq (.reg [mv 132 0, mv 133 7, mv 134 0, mv 135 7, o 136 (.idx 1 (.t 134) (.t 135)), o 137 (.ld none (.t 136)), mv 138 12, o 139 (.call 86 [.t 137, u64 0, .t 138]), mv 131 139, o 140 (.ext (.t 131) 0), o 141 (.ext (.t 131) 1), o 142 (.idx 1 (.t 132) (.t 133)), od (.st 1 (.t 142) (.t 140)), mv 12 141]) (.reg [mv 143 18, mv 144 12, bn 145 .sub 143 144, mv 18 145]))))))))) (.seq (.reg [mv 146 8, mv 6 146]) .ret)))))))))
theorem in_divs_digit : Ent 60 147 c_divs_digit [.t 6] := ent Tryz.func60 rfl rfl rfl (show compile _ 147 _ = _ by kernel_rfl) (show compRes _ 147 _ = _ by kernel_rfl)
def c_law13_DivsBack : AC := .seq (.reg [o 4 (.box 23 (.t 0)), o 8 (.mv (.c (.bool false)))]) (.seq (.reg [mv 17 1, o 18 (.call 22 [.t 17, i64 30]), mv 19 2, o 20 (.call 22 [.t 19, i64 30]), mv 21 3, o 22 (.call 22 [.t 21, i64 30]), mv 1 18, mv 2 20, mv 3 22]) (.seq (.reg [o 23 (.ld (some 11) (.t 4)), o 24 (.call 23 [.t 23]), mv 9 24]) (.seq (.seq (.reg [mv 25 9, o 26 (.peq false (.t 25) (.c (.ptr none)))]) (.cond (.t 26) (.seq (.reg [o 8 (.mv (.c (.bool false)))]) .ret) .skip)) (.seq (.seq (.reg [mv 27 2, o 28 (.call 24 [.t 27]), o 29 (.bin .eql (.t 28) (i64 0))]) (.cond (.t 29) (.seq (.reg [o 30 (.call 25 []), mv 8 30]) .ret) .skip)) (.seq (.reg [mv 32 9, mv 33 3, mv 34 2, o 35 (.call 26 [.t 32, .t 33, .t 34]), mv 31 35, o 36 (.ext (.t 31) 0), o 37 (.ext (.t 31) 1), o 38 (.ext (.t 31) 2), mv 10 36, mv 11 37, mv 12 38]) (.seq (.reg [mv 39 9, o 40 (.nn (.t 39)), o 41 (.fld 0 (.t 40)), o 42 (.ld none (.t 41)), mv 43 1, mv 44 2, o 45 (.call 30 [.t 42, .t 43, .t 44]), o 46 (.call 29 [.t 45]), mv 47 11, o 48 (.call 29 [.t 47]), o 49 (.call 28 [.t 46, .t 48]), o 50 (.call 27 [.t 49]), mv 13 50]) (.seq (.reg [mv 52 9, mv 53 13, mv 54 2, o 55 (.call 26 [.t 52, .t 53, .t 54]), mv 51 55, o 56 (.ext (.t 51) 0), o 57 (.ext (.t 51) 1), o 58 (.ext (.t 51) 2), mv 14 56, mv 15 57, mv 16 58]) (.seq (.reg [mv 59 12, o 60 (.bin .eql (.t 59) (i64 0)), mv 61 60, og 62 61 true (.mv (.t 16)), og 63 61 true (.bin .eql (.t 62) (i64 0)), o 64 (.pick (.t 61) (.t 63) (.c (.bool false))), mv 65 64, og 66 65 true (.mv (.t 1)), og 67 65 true (.call 29 [.t 66]), og 68 65 true (.mv (.t 14)), og 69 65 true (.call 31 [.t 67, .t 68]), o 70 (.pick (.t 65) (.t 69) (.c (.bool false))), mv 71 70, og 72 71 true (.mv (.t 15)), og 73 71 true (.mv (.t 11)), og 74 71 true (.call 32 [.t 72, .t 73]), o 75 (.pick (.t 71) (.t 74) (.c (.bool false))), mv 76 75, og 77 76 true (.call 25 []), o 78 (.pick (.t 76) (.t 77) (.c (.bool false))), mv 8 78]) .ret))))))))
theorem in_law13_DivsBack : Ent 5 79 c_law13_DivsBack [.t 8] := ent Tryz.func5 rfl rfl rfl (show compile _ 79 _ = _ by kernel_rfl) (show compRes _ 79 _ = _ by kernel_rfl)
def c_law13_words : AC := .seq (.reg [o 2 (.mv (i64 0))]) (.seq (.reg [mv 3 0, o 4 (.call 52 [.t 3]), mv 2 4]) .ret)
theorem in_law13_words : Ent 24 5 c_law13_words [.t 2] := ent Tryz.func24 rfl rfl rfl (show compile _ 5 _ = _ by kernel_rfl) (show compRes _ 5 _ = _ by kernel_rfl)
def c_law13_wakes : AC := .seq (.reg [o 0 (.mv (.c (.bool false)))]) (.seq (.reg [o 5 (.bld [.int .i64 0, .int .i64 0, .int .i64 0, .int .i64 0, .int .i64 0, .int .i64 0, .int .i64 0, .int .i64 0, .int .i64 0, .int .i64 0, .int .i64 0] []), o 6 (.call 23 [.t 5]), mv 1 6]) (.seq (.seq (.reg [mv 7 1, o 8 (.peq false (.t 7) (.c (.ptr none)))]) (.cond (.t 8) (.seq (.reg [o 0 (.mv (.c (.bool false)))]) .ret) .skip)) (.seq (.reg [mv 10 1, o 11 (.bsl 93 1 2 [.int .u64 0] [(0, u64 0), (1, u64 1)]), o 12 (.bsl 93 1 1 [.int .u64 0] [(0, u64 3)]), o 13 (.call 26 [.t 10, .t 11, .t 12]), mv 9 13, o 14 (.ext (.t 9) 0), o 15 (.ext (.t 9) 1), o 16 (.ext (.t 9) 2), mv 2 14, mv 3 15, mv 4 16]) (.seq (.reg [mv 17 4, o 18 (.bin .eql (.t 17) (i64 0)), mv 19 18, og 20 19 true (.mv (.t 2)), og 21 19 true (.len false (.t 20)), og 22 19 true (.bin .eql (.t 21) (i64 1)), o 23 (.pick (.t 19) (.t 22) (.c (.bool false))), mv 24 23, og 25 24 true (.mv (.t 3)), og 26 24 true (.bsl 93 1 1 [.int .u64 0] [(0, u64 1)]), og 27 24 true (.call 32 [.t 25, .t 26]), o 28 (.pick (.t 24) (.t 27) (.c (.bool false))), mv 0 28]) .ret))))
theorem in_law13_wakes : Ent 25 29 c_law13_wakes [.t 0] := ent Tryz.func25 rfl rfl rfl (show compile _ 29 _ = _ by kernel_rfl) (show compRes _ 29 _ = _ by kernel_rfl)
def c_law13_from : AC := .seq (.reg [o 2 (.mv (.c (.sl none 0 0 none)))]) (.seq (.reg [mv 3 0, o 4 (.call 50 [.t 3]), mv 2 4]) .ret)
theorem in_law13_from : Ent 29 5 c_law13_from [.t 2] := ent Tryz.func29 rfl rfl rfl (show compile _ 5 _ = _ by kernel_rfl) (show compRes _ 5 _ = _ by kernel_rfl)
def c_mul_Engine_Mul : AC := .seq (.reg [o 6 (.mv (.c (.sl none 0 0 none)))]) (.seq (.reg [mv 7 0, mv 8 1, o 9 (.call 64 [.t 8]), mv 10 2, o 11 (.call 64 [.t 10]), o 12 (.call 63 [.t 7, .t 9, .t 11]), mv 6 12]) .ret)
theorem in_mul_Engine_Mul : Ent 30 13 c_mul_Engine_Mul [.t 6] := ent Tryz.func30 rfl rfl rfl (show compile _ 13 _ = _ by kernel_rfl) (show compRes _ 13 _ = _ by kernel_rfl)
def c_mul_New : AC := .seq (.reg [o 1 (.box 23 (.t 0)), o 2 (.mv (.c (.ptr none)))]) (.seq (.reg [o 3 (.ld (some 11) (.t 1)), o 4 (.call 78 [.t 3]), o 5 (.bld [.ptr none] [(0, 1, .t 4)]), o 6 (.box 98 (.t 5)), mv 2 6]) .ret)
theorem in_mul_New : Ent 51 7 c_mul_New [.t 2] := ent Tryz.func51 rfl rfl rfl (show compile _ 7 _ = _ by kernel_rfl) (show compRes _ 7 _ = _ by kernel_rfl)
def c_mul_Engine_times : AC := .seq (.reg [o 6 (.mv (.c (.sl none 0 0 none)))]) (.seq (.seq (.reg [mv 9 1, o 10 (.len false (.t 9)), o 11 (.bin .gtr (.t 10) (i64 16384)), mv 12 11, og 13 12 false (.mv (.t 2)), og 14 12 false (.len false (.t 13)), og 15 12 false (.bin .gtr (.t 14) (i64 16384)), o 16 (.pick (.t 12) (.c (.bool true)) (.t 15))]) (.cond (.t 16) (.seq (.reg [mv 17 0, mv 18 1, mv 19 2, o 20 (.call 88 [.t 17, .t 18, .t 19]), mv 6 20]) .ret) .skip)) (.seq (.reg [mv 22 0, mv 23 0, o 24 (.nn (.t 23)), o 25 (.fld 0 (.t 24)), o 26 (.ld none (.t 25)), o 27 (.nn (.t 26)), o 28 (.fld 0 (.t 27)), o 29 (.ld none (.t 28)), o 30 (.nn (.t 29)), o 31 (.fld 0 (.t 30)), o 32 (.ld none (.t 31)), o 33 (.nn (.t 32)), o 34 (.fld 0 (.t 33)), o 35 (.ld none (.t 34)), mv 36 1, o 37 (.len false (.t 36)), mv 38 2, o 39 (.len false (.t 38)), o 40 (.call 90 [.t 35, .t 37, .t 39]), mv 41 1, mv 42 2, o 43 (.call 89 [.t 22, .t 40, .t 41, .t 42]), mv 21 43, o 44 (.ext (.t 21) 0), o 45 (.ext (.t 21) 1), mv 7 44, mv 8 45]) (.seq (.seq (.reg [mv 46 8, o 47 (.un .not (.t 46))]) (.cond (.t 47) (.seq (.reg [mv 48 0, o 49 (.nn (.t 48)), o 50 (.fld 0 (.t 49)), o 51 (.ld none (.t 50)), o 52 (.nn (.t 51)), o 53 (.fld 0 (.t 52)), o 54 (.ld none (.t 53)), o 55 (.nn (.t 54)), o 56 (.fld 0 (.t 55)), o 57 (.ld none (.t 56)), mv 58 1, mv 59 2, o 60 (.call 91 [.t 57, .t 58, .t 59]), mv 6 60]) .ret) .skip)) (.seq (.reg [mv 61 7, mv 6 61]) .ret))))
theorem in_mul_Engine_times : Ent 63 62 c_mul_Engine_times [.t 6] := ent Tryz.func63 rfl rfl rfl (show compile _ 62 _ = _ by kernel_rfl) (show compRes _ 62 _ = _ by kernel_rfl)
def c_mul_words : AC := .seq (.reg [o 2 (.mv (.c (.sl none 0 0 none)))]) (.seq (.reg [mv 3 0, mv 4 0, o 5 (.call 52 [.t 4]), o 6 (.slc 1 (.t 3) none (some (.t 5))), mv 2 6]) .ret)
theorem in_mul_words : Ent 64 7 c_mul_words [.t 2] := ent Tryz.func64 rfl rfl rfl (show compile _ 7 _ = _ by kernel_rfl) (show compRes _ 7 _ = _ by kernel_rfl)
def c_mul_Engine_gone : AC := .seq (.reg [o 8 (.mv (.c (.sl none 0 0 none))), o 9 (.mv (.c (.bool false)))]) (.seq (.seq (.reg [mv 10 1]) (.block 0 (.seq (.reg [o 12 (.bin .eql (.t 10) (i64 0)), mv 11 12]) (.cond (.t 11) (.seq (.reg [o 8 (.mv (.c (.sl none 0 0 none))), o 9 (.mv (.c (.bool true)))]) .ret) (.seq (.reg [o 14 (.bin .eql (.t 10) (i64 1)), mv 13 14]) (.cond (.t 13) (.seq (.reg [mv 15 0, o 16 (.nn (.t 15)), o 17 (.fld 0 (.t 16)), o 18 (.ld none (.t 17)), o 19 (.nn (.t 18)), o 20 (.fld 0 (.t 19)), o 21 (.ld none (.t 20)), o 22 (.nn (.t 21)), o 23 (.fld 0 (.t 22)), o 24 (.ld none (.t 23)), mv 25 2, mv 26 3, o 27 (.call 91 [.t 24, .t 25, .t 26]), mv 8 27, o 9 (.mv (.c (.bool true)))]) .ret) (.seq (.reg [o 29 (.bin .eql (.t 10) (i64 2)), mv 28 29]) (.cond (.t 28) (.seq (.reg [mv 30 0, mv 31 2, mv 32 3, o 33 (.call 99 [.t 30, .t 31, .t 32]), mv 8 33, o 9 (.mv (.c (.bool true)))]) .ret) (.seq (.reg [o 35 (.bin .eql (.t 10) (i64 3)), mv 34 35]) (.cond (.t 34) (.seq (.reg [mv 36 0, o 37 (.nn (.t 36)), o 38 (.fld 0 (.t 37)), o 39 (.ld none (.t 38)), o 40 (.nn (.t 39)), o 41 (.fld 0 (.t 40)), o 42 (.ld none (.t 41)), mv 43 2, mv 44 3, mv 45 0, o 46 (.mkf 63 [.t 45] []), o 47 (.call 100 [.t 42, .t 43, .t 44, .t 46]), o 48 (.ext (.t 47) 0), o 49 (.ext (.t 47) 1), mv 8 48, mv 9 49]) .ret) (.seq (.reg [o 51 (.bin .eql (.t 10) (i64 4)), mv 50 51]) (.cond (.t 50) (.seq (.reg [mv 52 0, o 53 (.nn (.t 52)), o 54 (.fld 0 (.t 53)), o 55 (.ld none (.t 54)), mv 56 2, mv 57 3, mv 58 0, o 59 (.mkf 63 [.t 58] []), o 60 (.call 101 [.t 55, .t 56, .t 57, .t 59]), o 61 (.ext (.t 60) 0), o 62 (.ext (.t 60) 1), mv 8 61, mv 9 62]) .ret) (.seq (.reg [o 64 (.bin .eql (.t 10) (i64 5)), mv 63 64]) (.cond (.t 63) (.seq (.reg [mv 65 0, o 66 (.nn (.t 65)), o 67 (.fld 0 (.t 66)), o 68 (.ld none (.t 67)), o 69 (.nn (.t 68)), o 70 (.fld 0 (.t 69)), o 71 (.ld none (.t 70)), o 72 (.nn (.t 71)), o 73 (.fld 0 (.t 72)), o 74 (.ld none (.t 73)), o 75 (.nn (.t 74)), o 76 (.fld 0 (.t 75)), o 77 (.ld none (.t 76)), o 78 (.nn (.t 77)), o 79 (.fld 0 (.t 78)), mv 80 2, mv 81 3, o 82 (.call 102 [.t 79, .t 80, .t 81]), o 83 (.ext (.t 82) 0), o 84 (.ext (.t 82) 1), mv 8 83, mv 9 84]) .ret) .skip)))))))))))))) (.seq (.reg [o 8 (.mv (.c (.sl none 0 0 none))), o 9 (.mv (.c (.bool false)))]) .ret))
theorem in_mul_Engine_gone : Ent 89 85 c_mul_Engine_gone [.t 8, .t 9] := ent Tryz.func89 rfl rfl rfl (show compile _ 85 _ = _ by kernel_rfl) (show compRes _ 85 _ = _ by kernel_rfl)
def c_mul_Engine_pieces : AC := .seq (.reg [o 8 (.mv (.c (.sl none 0 0 none)))]) (.seq (.seq (.reg [mv 11 1, o 12 (.len false (.t 11)), mv 13 2, o 14 (.len false (.t 13)), bn 15 .lss 12 14]) (.cond (.t 15) (.reg [mv 16 2, mv 17 1, mv 1 16, mv 2 17]) .skip)) (.seq (.reg [o 9 (.mv (.c (.sl none 0 0 none)))]) (.seq (.seq (.reg [o 10 (.mv (i64 0))]) (.block 0 (.loop (.seq (.seq (.reg [mv 18 10, mv 19 1, o 20 (.len false (.t 19)), bn 21 .lss 18 20]) (.cond (.t 21) .skip (.exit 0))) (.seq (.block 1 (.reg [mv 25 9, mv 26 0, mv 27 1, mv 28 10, mv 29 1, o 30 (.len false (.t 29)), mv 31 10, mv 32 3, bn 33 .add 31 32, o 34 (.mnx false (.t 30) [.t 33]), o 35 (.slc 1 (.t 27) (some (.t 28)) (some (.t 34))), o 36 (.app 93 1 8 (.c (.sl none 0 0 none)) (.t 35)), mv 37 2, o 38 (.call 63 [.t 26, .t 36, .t 37]), o 39 (.bsl 37 1 1 [.sl none 0 0 none] [(0, .t 38)]), o 40 (.app 37 1 24 (.t 25) (.t 39)), mv 9 40])) (.reg [mv 22 10, mv 23 3, bn 24 .add 22 23, mv 10 24])))))) (.seq (.reg [mv 41 3, mv 42 9, o 43 (.call 110 [.t 41, .t 42]), mv 8 43]) .ret))))
theorem in_mul_Engine_pieces : Ent 98 44 c_mul_Engine_pieces [.t 8] := ent Tryz.func98 rfl rfl rfl (show compile _ 44 _ = _ by kernel_rfl) (show compRes _ 44 _ = _ by kernel_rfl)
def c_mul_Engine_block : AC := .seq (.reg [o 6 (.mv (.c (.sl none 0 0 none)))]) (.seq (.reg [mv 8 0, o 9 (.nn (.t 8)), o 10 (.fld 0 (.t 9)), o 11 (.ld none (.t 10)), o 12 (.nn (.t 11)), o 13 (.fld 0 (.t 12)), o 14 (.ld none (.t 13)), o 15 (.nn (.t 14)), o 16 (.fld 0 (.t 15)), o 17 (.ld none (.t 16)), o 18 (.nn (.t 17)), o 19 (.fld 0 (.t 18)), o 20 (.ld none (.t 19)), o 21 (.nn (.t 20)), o 22 (.fld 0 (.t 21)), o 23 (.call 111 [.t 22])]) (.seq (.reg [mv 24 0, mv 25 1, mv 26 2, mv 27 1, o 28 (.len false (.t 27)), mv 29 2, o 30 (.len false (.t 29)), o 31 (.mnx false (.t 28) [.t 30]), o 32 (.call 98 [.t 24, .t 25, .t 26, .t 31]), mv 7 32]) (.seq (.reg [mv 33 0, o 34 (.nn (.t 33)), o 35 (.fld 0 (.t 34)), o 36 (.ld none (.t 35)), o 37 (.nn (.t 36)), o 38 (.fld 0 (.t 37)), o 39 (.ld none (.t 38)), o 40 (.nn (.t 39)), o 41 (.fld 0 (.t 40)), o 42 (.ld none (.t 41)), o 43 (.nn (.t 42)), o 44 (.fld 0 (.t 43)), o 45 (.ld none (.t 44)), o 46 (.nn (.t 45)), o 47 (.fld 0 (.t 46)), o 48 (.call 112 [.t 47])]) (.seq (.reg [mv 49 7, mv 6 49]) .ret))))
theorem in_mul_Engine_block : Ent 99 50 c_mul_Engine_block [.t 6] := ent Tryz.func99 rfl rfl rfl (show compile _ 50 _ = _ by kernel_rfl) (show compRes _ 50 _ = _ by kernel_rfl)
def c_toom_New : AC := .seq (.reg [o 1 (.box 23 (.t 0)), o 2 (.mv (.c (.ptr none)))]) (.seq (.reg [o 3 (.ld (some 11) (.t 1)), o 4 (.call 96 [.t 3]), o 5 (.bld [.ptr none] [(0, 1, .t 4)]), o 6 (.box 101 (.t 5)), mv 2 6]) .ret)
theorem in_toom_New : Ent 78 7 c_toom_New [.t 2] := ent Tryz.func78 rfl rfl rfl (show compile _ 7 _ = _ by kernel_rfl) (show compRes _ 7 _ = _ by kernel_rfl)
def c_toom_Engine_Toom : AC := .seq (.reg [o 8 (.mv (.c (.sl none 0 0 none))), o 9 (.mv (.c (.bool false)))]) (.seq (.seq (.reg [mv 28 1, o 29 (.len false (.t 28)), mv 30 2, o 31 (.len false (.t 30)), bn 32 .lss 29 31]) (.cond (.t 32) (.reg [mv 33 2, mv 34 1, mv 1 33, mv 2 34]) .skip)) (.seq (.reg [mv 35 1, o 36 (.len false (.t 35)), mv 37 2, o 38 (.len false (.t 37)), mv 10 36, mv 11 38]) (.seq (.reg [mv 39 10, o 40 (.bin .add (.t 39) (i64 2)), o 41 (.bin .quo (.t 40) (i64 3)), mv 12 41]) (.seq (.seq (.reg [mv 42 11, mv 43 12, o 44 (.bin .mul (i64 2) (.t 43)), bn 45 .leq 42 44]) (.cond (.t 45) (.seq (.reg [o 8 (.mv (.c (.sl none 0 0 none))), o 9 (.mv (.c (.bool false)))]) .ret) .skip)) (.seq (.reg [mv 46 0, o 47 (.nn (.t 46)), o 48 (.fld 0 (.t 47)), o 49 (.ld none (.t 48)), o 50 (.nn (.t 49)), o 51 (.fld 0 (.t 50)), o 52 (.ld none (.t 51)), o 53 (.nn (.t 52)), o 54 (.fld 0 (.t 53)), o 55 (.ld none (.t 54)), o 56 (.nn (.t 55)), o 57 (.fld 0 (.t 56)), o 58 (.call 111 [.t 57])]) (.seq (.reg [mv 60 1, mv 61 12, o 62 (.call 115 [.t 60, .t 61]), mv 59 62, o 63 (.ext (.t 59) 0), o 64 (.ext (.t 59) 1), o 65 (.ext (.t 59) 2), o 66 (.ext (.t 59) 3), o 67 (.ext (.t 59) 4), o 13 (.alloc 39 [.sl none 0 0 none, .bool false]), o 14 (.alloc 39 [.sl none 0 0 none, .bool false]), o 15 (.alloc 39 [.sl none 0 0 none, .bool false]), o 16 (.alloc 39 [.sl none 0 0 none, .bool false]), o 17 (.alloc 39 [.sl none 0 0 none, .bool false]), od (.st 2 (.t 13) (.t 63)), od (.st 2 (.t 14) (.t 64)), od (.st 2 (.t 15) (.t 65)), od (.st 2 (.t 16) (.t 66)), od (.st 2 (.t 17) (.t 67))]) (.seq (.reg [mv 69 2, mv 70 12, o 71 (.call 115 [.t 69, .t 70]), mv 68 71, o 72 (.ext (.t 68) 0), o 73 (.ext (.t 68) 1), o 74 (.ext (.t 68) 2), o 75 (.ext (.t 68) 3), o 76 (.ext (.t 68) 4), o 18 (.alloc 39 [.sl none 0 0 none, .bool false]), o 19 (.alloc 39 [.sl none 0 0 none, .bool false]), o 20 (.alloc 39 [.sl none 0 0 none, .bool false]), o 21 (.alloc 39 [.sl none 0 0 none, .bool false]), o 22 (.alloc 39 [.sl none 0 0 none, .bool false]), od (.st 2 (.t 18) (.t 72)), od (.st 2 (.t 19) (.t 73)), od (.st 2 (.t 20) (.t 74)), od (.st 2 (.t 21) (.t 75)), od (.st 2 (.t 22) (.t 76))]) (.seq (.reg [mv 77 3, o 78 (.fld 0 (.t 13)), o 79 (.ld none (.t 78)), mv 80 12, o 82 (.fld 0 (.t 18)), o 83 (.ld none (.t 82)), mv 84 12, ⟨some 81, none, .call 116 [.t 79, .t 80], [(some 83, none, .ld none (.t 82))]⟩, o 85 (.call 116 [.t 83, .t 84]), o 86 (.callV (.t 77) [.t 81, .t 85]), mv 23 86]) (.seq (.reg [mv 87 3, o 88 (.fld 0 (.t 14)), o 89 (.ld none (.t 88)), mv 90 12, o 91 (.bin .add (.t 90) (i64 1)), o 93 (.fld 0 (.t 19)), o 94 (.ld none (.t 93)), mv 95 12, o 96 (.bin .add (.t 95) (i64 1)), ⟨some 92, none, .call 116 [.t 89, .t 91], [(some 94, none, .ld none (.t 93))]⟩, o 97 (.call 116 [.t 94, .t 96]), o 98 (.callV (.t 87) [.t 92, .t 97]), mv 24 98]) (.seq (.reg [mv 99 3, o 100 (.fld 0 (.t 15)), o 101 (.ld none (.t 100)), mv 102 12, o 103 (.bin .add (.t 102) (i64 1)), o 105 (.fld 0 (.t 20)), o 106 (.ld none (.t 105)), mv 107 12, o 108 (.bin .add (.t 107) (i64 1)), ⟨some 104, none, .call 116 [.t 101, .t 103], [(some 106, none, .ld none (.t 105))]⟩, o 109 (.call 116 [.t 106, .t 108]), o 110 (.callV (.t 99) [.t 104, .t 109]), mv 25 110]) (.seq (.reg [mv 111 3, o 112 (.fld 0 (.t 16)), o 113 (.ld none (.t 112)), mv 114 12, o 115 (.bin .add (.t 114) (i64 1)), o 117 (.fld 0 (.t 21)), o 118 (.ld none (.t 117)), mv 119 12, o 120 (.bin .add (.t 119) (i64 1)), ⟨some 116, none, .call 116 [.t 113, .t 115], [(some 118, none, .ld none (.t 117))]⟩, o 121 (.call 116 [.t 118, .t 120]), o 122 (.callV (.t 111) [.t 116, .t 121]), mv 26 122]) (.seq (.reg [mv 123 3, o 124 (.fld 0 (.t 17)), o 125 (.ld none (.t 124)), mv 126 10, mv 127 12, o 128 (.bin .mul (i64 2) (.t 127)), bn 129 .sub 126 128, o 131 (.fld 0 (.t 22)), o 132 (.ld none (.t 131)), mv 133 11, mv 134 12, o 135 (.bin .mul (i64 2) (.t 134)), bn 136 .sub 133 135, ⟨some 130, none, .call 116 [.t 125, .t 129], [(some 132, none, .ld none (.t 131))]⟩, o 137 (.call 116 [.t 132, .t 136]), o 138 (.callV (.t 123) [.t 130, .t 137]), mv 27 138]) (.seq (.reg [mv 139 0, o 140 (.nn (.t 139)), o 141 (.fld 0 (.t 140)), o 142 (.ld none (.t 141)), o 143 (.nn (.t 142)), o 144 (.fld 0 (.t 143)), o 145 (.ld none (.t 144)), o 146 (.nn (.t 145)), o 147 (.fld 0 (.t 146)), o 148 (.ld none (.t 147)), o 149 (.nn (.t 148)), o 150 (.fld 0 (.t 149)), o 151 (.call 112 [.t 150])]) (.seq (.reg [mv 152 12, mv 153 23, mv 154 24, mv 155 25, mv 156 26, mv 157 27, o 158 (.fld 1 (.t 15)), o 159 (.ld none (.t 158)), o 160 (.fld 1 (.t 20)), o 161 (.ld none (.t 160)), o 162 (.beq true (.t 159) (.t 161)), o 163 (.call 117 [.t 152, .t 153, .t 154, .t 155, .t 156, .t 157, .t 162]), mv 8 163, o 9 (.mv (.c (.bool true)))]) .ret))))))))))))))
theorem in_toom_Engine_Toom : Ent 101 164 c_toom_Engine_Toom [.t 8, .t 9] := ent Tryz.func101 rfl rfl rfl (show compile _ 164 _ = _ by kernel_rfl) (show compRes _ 164 _ = _ by kernel_rfl)
def c_toom_Points : AC := .seq (.reg [o 4 (.alloc 39 [.sl none 0 0 none, .bool false]), o 5 (.alloc 39 [.sl none 0 0 none, .bool false]), o 6 (.alloc 39 [.sl none 0 0 none, .bool false]), o 7 (.alloc 39 [.sl none 0 0 none, .bool false]), o 8 (.alloc 39 [.sl none 0 0 none, .bool false])]) (.seq (.reg [mv 13 1, o 14 (.mnx false (.t 13) [i64 16384]), o 15 (.mnx true (i64 1) [.t 14]), mv 1 15]) (.seq (.reg [mv 16 0, o 17 (.call 53 [.t 16]), mv 0 17]) (.seq (.reg [mv 18 0, mv 19 1, o 20 (.call 127 [.t 18, i64 0, .t 19]), mv 21 0, mv 22 1, mv 23 1, o 24 (.bin .mul (i64 2) (.t 23)), o 25 (.call 127 [.t 21, .t 22, .t 24]), mv 26 0, mv 27 1, o 28 (.bin .mul (i64 2) (.t 27)), mv 29 0, o 30 (.len false (.t 29)), o 31 (.call 127 [.t 26, .t 28, .t 30]), mv 9 20, mv 10 25, mv 11 31]) (.seq (.reg [mv 32 9, mv 33 11, o 34 (.call 74 [.t 32, .t 33]), mv 12 34]) (.seq (.reg [mv 35 9, o 36 (.call 53 [.t 35]), o 37 (.fld 0 (.t 4)), od (.st 1 (.t 37) (.t 36))]) (.seq (.reg [mv 38 12, mv 39 10, o 40 (.call 74 [.t 38, .t 39]), o 41 (.fld 0 (.t 5)), od (.st 1 (.t 41) (.t 40))]) (.seq (.reg [mv 42 12, mv 43 10, o 44 (.call 128 [.t 42, .t 43]), od (.st 2 (.t 6) (.t 44))]) (.seq (.reg [mv 45 9, mv 46 10, o 47 (.call 58 [.t 46, i64 1]), mv 48 11, o 49 (.call 58 [.t 48, i64 2]), o 50 (.bsl 37 1 3 [.sl none 0 0 none] [(0, .t 45), (1, .t 47), (2, .t 49)]), o 51 (.call 129 [.t 50]), o 52 (.fld 0 (.t 7)), od (.st 1 (.t 52) (.t 51))]) (.seq (.reg [mv 53 11, o 54 (.call 53 [.t 53]), o 55 (.fld 0 (.t 8)), od (.st 1 (.t 55) (.t 54))]) (.seq (.reg [o 56 (.ld (some 2) (.t 4)), o 57 (.ld (some 2) (.t 5)), o 58 (.ld (some 2) (.t 6)), o 59 (.ld (some 2) (.t 7)), o 60 (.ld (some 2) (.t 8)), ⟨none, none, .st 2 (.t 4) (.t 56), [(some 57, none, .ld (some 2) (.t 5)), (some 58, none, .ld (some 2) (.t 6)), (some 59, none, .ld (some 2) (.t 7)), (some 60, none, .ld (some 2) (.t 8))]⟩, ⟨none, none, .st 2 (.t 5) (.t 57), [(some 58, none, .ld (some 2) (.t 6)), (some 59, none, .ld (some 2) (.t 7)), (some 60, none, .ld (some 2) (.t 8))]⟩, ⟨none, none, .st 2 (.t 6) (.t 58), [(some 59, none, .ld (some 2) (.t 7)), (some 60, none, .ld (some 2) (.t 8))]⟩, ⟨none, none, .st 2 (.t 7) (.t 59), [(some 60, none, .ld (some 2) (.t 8))]⟩, od (.st 2 (.t 8) (.t 60))]) .ret))))))))))
theorem in_toom_Points : Ent 115 61 c_toom_Points [.c 4 (some 2), .c 5 (some 2), .c 6 (some 2), .c 7 (some 2), .c 8 (some 2)] := ent Tryz.func115 rfl rfl rfl (show compile _ 61 _ = _ by kernel_rfl) (show compRes _ 61 _ = _ by kernel_rfl)
def c_toom_wide : AC := .seq (.reg [o 4 (.mv (.c (.sl none 0 0 none)))]) (.seq (.reg [mv 6 1, o 7 (.mk 93 1 8 [.int .u64 0] (.t 6) (.t 6)), mv 5 7]) (.seq (.reg [mv 8 5, mv 9 0, mv 10 0, o 11 (.call 52 [.t 10]), o 12 (.slc 1 (.t 9) none (some (.t 11))), o 13 (.cpy 1 (.t 8) (.t 12))]) (.seq (.reg [mv 14 5, mv 4 14]) .ret)))
theorem in_toom_wide : Ent 116 15 c_toom_wide [.t 4] := ent Tryz.func116 rfl rfl rfl (show compile _ 15 _ = _ by kernel_rfl) (show compRes _ 15 _ = _ by kernel_rfl)
def c_toom_joined : AC := .seq (.reg [o 14 (.mv (.c (.sl none 0 0 none)))]) (.seq (.reg [mv 22 2, mv 23 3, o 24 (.call 74 [.t 22, .t 23]), mv 25 2, mv 26 3, o 27 (.call 130 [.t 25, .t 26]), mv 15 24, mv 16 27]) (.seq (.seq (.reg [mv 28 6]) (.cond (.t 28) (.reg [mv 29 16, mv 30 15, mv 15 29, mv 16 30]) .skip)) (.seq (.reg [mv 31 15, o 32 (.call 61 [.t 31, i64 1]), mv 33 16, o 34 (.call 61 [.t 33, i64 1]), mv 15 32, mv 16 34]) (.seq (.reg [mv 35 15, mv 36 1, mv 37 5, o 38 (.bsl 37 1 2 [.sl none 0 0 none] [(0, .t 36), (1, .t 37)]), o 39 (.call 131 [.t 35, .t 38]), mv 17 39]) (.seq (.reg [mv 40 4, mv 41 1, mv 42 17, o 43 (.call 58 [.t 42, i64 2]), mv 44 5, o 45 (.call 58 [.t 44, i64 4]), o 46 (.bsl 37 1 3 [.sl none 0 0 none] [(0, .t 41), (1, .t 43), (2, .t 45)]), o 47 (.call 131 [.t 40, .t 46]), o 48 (.call 61 [.t 47, i64 1]), mv 18 48]) (.seq (.reg [mv 50 18, mv 51 16, o 52 (.bsl 37 1 1 [.sl none 0 0 none] [(0, .t 51)]), o 53 (.call 131 [.t 50, .t 52]), o 54 (.call 132 [.t 53]), mv 49 54, o 55 (.ext (.t 49) 0), o 56 (.ext (.t 49) 1), mv 19 55, mv 20 56]) (.seq (.reg [mv 57 16, mv 58 19, o 59 (.bsl 37 1 1 [.sl none 0 0 none] [(0, .t 58)]), o 60 (.call 131 [.t 57, .t 59]), mv 21 60]) (.seq (.reg [mv 61 0, mv 62 1, mv 63 21, mv 64 17, mv 65 19, mv 66 5, o 67 (.bsl 37 1 5 [.sl none 0 0 none] [(0, .t 62), (1, .t 63), (2, .t 64), (3, .t 65), (4, .t 66)]), o 68 (.call 110 [.t 61, .t 67]), mv 14 68]) .ret))))))))
theorem in_toom_joined : Ent 117 69 c_toom_joined [.t 14] := ent Tryz.func117 rfl rfl rfl (show compile _ 69 _ = _ by kernel_rfl) (show compRes _ 69 _ = _ by kernel_rfl)
def c_toom_part : AC := .seq (.reg [o 6 (.mv (.c (.sl none 0 0 none)))]) (.seq (.seq (.reg [mv 7 1, mv 8 0, o 9 (.len false (.t 8)), bn 10 .geq 7 9]) (.cond (.t 10) (.seq (.reg [o 6 (.mv (.c (.sl none 0 0 none)))]) .ret) .skip)) (.seq (.reg [mv 11 0, mv 12 1, mv 13 2, mv 14 0, o 15 (.len false (.t 14)), o 16 (.mnx false (.t 13) [.t 15]), o 17 (.slc 1 (.t 11) (some (.t 12)) (some (.t 16))), mv 6 17]) .ret))
theorem in_toom_part : Ent 127 18 c_toom_part [.t 6] := ent Tryz.func127 rfl rfl rfl (show compile _ 18 _ = _ by kernel_rfl) (show compRes _ 18 _ = _ by kernel_rfl)
def c_toom_less : AC := .seq (.reg [o 4 (.alloc 39 [.sl none 0 0 none, .bool false])]) (.seq (.seq (.reg [mv 10 0, mv 11 1, o 12 (.call 75 [.t 10, .t 11]), mv 9 12, o 13 (.ext (.t 9) 0), o 14 (.ext (.t 9) 1), mv 5 13, mv 6 14]) (.seq (.reg [mv 15 6]) (.cond (.t 15) (.seq (.reg [mv 16 5, o 17 (.bld [.sl none 0 0 none, .bool false] [(0, 1, .t 16)]), od (.st 2 (.t 4) (.t 17))]) .ret) .skip))) (.seq (.reg [mv 19 1, mv 20 0, o 21 (.call 75 [.t 19, .t 20]), mv 18 21, o 22 (.ext (.t 18) 0), o 23 (.ext (.t 18) 1), mv 7 22, mv 8 23]) (.seq (.reg [mv 24 7, o 25 (.bld [.sl none 0 0 none, .bool false] [(0, 1, .t 24), (1, 1, .c (.bool true))]), od (.st 2 (.t 4) (.t 25))]) .ret)))
theorem in_toom_less : Ent 128 26 c_toom_less [.c 4 (some 2)] := ent Tryz.func128 rfl rfl rfl (show compile _ 26 _ = _ by kernel_rfl) (show compRes _ 26 _ = _ by kernel_rfl)
def c_toom_sub2 : AC := .seq (.reg [o 4 (.mv (.c (.sl none 0 0 none)))]) (.seq (.reg [mv 8 0, mv 9 1, o 10 (.call 75 [.t 8, .t 9]), mv 7 10, o 11 (.ext (.t 7) 0), o 12 (.ext (.t 7) 1), mv 5 11, mv 6 12]) (.seq (.reg [mv 13 5, mv 4 13]) .ret))
theorem in_toom_sub2 : Ent 130 14 c_toom_sub2 [.t 4] := ent Tryz.func130 rfl rfl rfl (show compile _ 14 _ = _ by kernel_rfl) (show compRes _ 14 _ = _ by kernel_rfl)
def c_toom_sub : AC := .seq (.reg [o 4 (.mv (.c (.sl none 0 0 none)))]) (.seq (.reg [mv 8 0, mv 9 1, o 10 (.call 129 [.t 9]), o 11 (.call 75 [.t 8, .t 10]), mv 7 11, o 12 (.ext (.t 7) 0), o 13 (.ext (.t 7) 1), mv 5 12, mv 6 13]) (.seq (.reg [mv 14 5, mv 4 14]) .ret))
theorem in_toom_sub : Ent 131 15 c_toom_sub [.t 4] := ent Tryz.func131 rfl rfl rfl (show compile _ 15 _ = _ by kernel_rfl) (show compRes _ 15 _ = _ by kernel_rfl)
def c_toom_Third : AC := .seq (.reg [o 2 (.mv (.c (.sl none 0 0 none))), o 3 (.mv (.c (.bool false)))]) (.seq (.reg [mv 12 0, o 13 (.call 53 [.t 12]), mv 0 13]) (.seq (.reg [o 4 (.mv (u64 0))]) (.seq (.seq (.reg [mv 14 0, o 15 (.len false (.t 14)), o 16 (.mv (i64 0))]) (.block 0 (.loop (.seq (.reg [bn 17 .lss 16 15]) (.seq (.cond (.t 17) .skip (.exit 0)) (.seq (.block 1 (.seq (.reg [mv 18 16, o 19 (.idx 1 (.t 14) (.t 16)), o 20 (.ld none (.t 19)), mv 5 18, mv 6 20]) (.seq (.reg [mv 22 6, mv 23 4, o 24 (.call 87 [.t 22, .t 23, u64 0]), mv 21 24, o 25 (.ext (.t 21) 0), o 26 (.ext (.t 21) 1), mv 7 25, mv 8 26]) (.seq (.reg [mv 27 7, o 28 (.bin .mul (.t 27) (u64 12297829382473034411)), mv 9 28]) (.seq (.reg [mv 29 0, mv 30 5, mv 31 9, o 32 (.idx 1 (.t 29) (.t 30)), od (.st 1 (.t 32) (.t 31))]) (.seq (.reg [mv 34 9, o 35 (.call 84 [.t 34, u64 3]), mv 33 35, o 36 (.ext (.t 33) 0), o 37 (.ext (.t 33) 1), mv 10 36, mv 11 37]) (.reg [mv 38 10, mv 39 8, bn 40 .add 38 39, mv 4 40]))))))) (.reg [o 41 (.bin .add (.t 16) (i64 1)), mv 16 41]))))))) (.seq (.seq (.reg [mv 42 4, o 43 (.bin .neq (.t 42) (u64 0))]) (.cond (.t 43) (.seq (.reg [o 2 (.mv (.c (.sl none 0 0 none))), o 3 (.mv (.c (.bool false)))]) .ret) .skip)) (.seq (.reg [mv 44 0, o 45 (.call 53 [.t 44]), mv 2 45, o 3 (.mv (.c (.bool true)))]) .ret)))))
theorem in_toom_Third : Ent 132 46 c_toom_Third [.t 2, .t 3] := ent Tryz.func132 rfl rfl rfl (show compile _ 46 _ = _ by kernel_rfl) (show compRes _ 46 _ = _ by kernel_rfl)
def c_kara_New : AC := .seq (.reg [o 1 (.box 23 (.t 0)), o 2 (.mv (.c (.ptr none)))]) (.seq (.reg [o 3 (.ld (some 11) (.t 1)), o 4 (.call 109 [.t 3]), o 5 (.bld [.ptr none] [(0, 1, .t 4)]), o 6 (.box 104 (.t 5)), mv 2 6]) .ret)
theorem in_kara_New : Ent 96 7 c_kara_New [.t 2] := ent Tryz.func96 rfl rfl rfl (show compile _ 7 _ = _ by kernel_rfl) (show compRes _ 7 _ = _ by kernel_rfl)
def c_kara_Engine_Kara : AC := .seq (.reg [o 8 (.mv (.c (.sl none 0 0 none))), o 9 (.mv (.c (.bool false)))]) (.seq (.seq (.reg [mv 24 1, o 25 (.len false (.t 24)), mv 26 2, o 27 (.len false (.t 26)), bn 28 .lss 25 27]) (.cond (.t 28) (.reg [mv 29 2, mv 30 1, mv 1 29, mv 2 30]) .skip)) (.seq (.reg [mv 31 1, o 32 (.len false (.t 31)), mv 33 2, o 34 (.len false (.t 33)), mv 10 32, mv 11 34]) (.seq (.reg [mv 35 10, o 36 (.bin .add (.t 35) (i64 1)), o 37 (.bin .quo (.t 36) (i64 2)), mv 12 37]) (.seq (.seq (.reg [mv 38 11, mv 39 12, bn 40 .leq 38 39]) (.cond (.t 40) (.seq (.reg [o 8 (.mv (.c (.sl none 0 0 none))), o 9 (.mv (.c (.bool false)))]) .ret) .skip)) (.seq (.reg [mv 41 0, o 42 (.nn (.t 41)), o 43 (.fld 0 (.t 42)), o 44 (.ld none (.t 43)), o 45 (.nn (.t 44)), o 46 (.fld 0 (.t 45)), o 47 (.ld none (.t 46)), o 48 (.nn (.t 47)), o 49 (.fld 0 (.t 48)), o 50 (.call 111 [.t 49])]) (.seq (.reg [mv 51 1, mv 52 12, o 53 (.call 113 [.t 51, i64 0, .t 52]), mv 54 1, mv 55 12, mv 56 10, mv 57 12, bn 58 .sub 56 57, o 59 (.call 113 [.t 54, .t 55, .t 58]), mv 13 53, mv 14 59]) (.seq (.reg [mv 60 2, mv 61 12, o 62 (.call 113 [.t 60, i64 0, .t 61]), mv 63 2, mv 64 12, mv 65 11, mv 66 12, bn 67 .sub 65 66, o 68 (.call 113 [.t 63, .t 64, .t 67]), mv 15 62, mv 16 68]) (.seq (.reg [mv 69 13, mv 70 14, o 71 (.call 74 [.t 69, .t 70]), mv 72 12, o 73 (.bin .add (.t 72) (i64 1)), o 74 (.call 114 [.t 71, .t 73]), mv 75 15, mv 76 16, o 77 (.call 74 [.t 75, .t 76]), mv 78 12, o 79 (.bin .add (.t 78) (i64 1)), o 80 (.call 114 [.t 77, .t 79]), mv 17 74, mv 18 80]) (.seq (.reg [mv 81 3, mv 82 13, mv 83 15, o 84 (.callV (.t 81) [.t 82, .t 83]), mv 85 3, mv 86 14, mv 87 16, o 88 (.callV (.t 85) [.t 86, .t 87]), mv 19 84, mv 20 88]) (.seq (.reg [mv 89 3, mv 90 17, mv 91 18, o 92 (.callV (.t 89) [.t 90, .t 91]), mv 21 92]) (.seq (.reg [mv 93 0, o 94 (.nn (.t 93)), o 95 (.fld 0 (.t 94)), o 96 (.ld none (.t 95)), o 97 (.nn (.t 96)), o 98 (.fld 0 (.t 97)), o 99 (.ld none (.t 98)), o 100 (.nn (.t 99)), o 101 (.fld 0 (.t 100)), o 102 (.call 112 [.t 101])]) (.seq (.reg [mv 104 21, mv 105 19, mv 106 20, o 107 (.call 74 [.t 105, .t 106]), o 108 (.call 75 [.t 104, .t 107]), mv 103 108, o 109 (.ext (.t 103) 0), o 110 (.ext (.t 103) 1), mv 22 109, mv 23 110]) (.seq (.reg [mv 111 12, mv 112 19, mv 113 22, mv 114 20, o 115 (.bsl 37 1 3 [.sl none 0 0 none] [(0, .t 112), (1, .t 113), (2, .t 114)]), o 116 (.call 110 [.t 111, .t 115]), mv 8 116, o 9 (.mv (.c (.bool true)))]) .ret)))))))))))))
theorem in_kara_Engine_Kara : Ent 100 117 c_kara_Engine_Kara [.t 8, .t 9] := ent Tryz.func100 rfl rfl rfl (show compile _ 117 _ = _ by kernel_rfl) (show compRes _ 117 _ = _ by kernel_rfl)
def c_kara_piece : AC := .seq (.reg [o 6 (.mv (.c (.sl none 0 0 none)))]) (.seq (.reg [mv 8 2, o 9 (.mk 93 1 8 [.int .u64 0] (.t 8) (.t 8)), mv 7 9]) (.seq (.seq (.reg [mv 10 1, mv 11 0, o 12 (.len false (.t 11)), bn 13 .lss 10 12]) (.cond (.t 13) (.reg [mv 14 7, mv 15 0, mv 16 1, mv 17 0, o 18 (.len false (.t 17)), mv 19 1, mv 20 2, bn 21 .add 19 20, o 22 (.mnx false (.t 18) [.t 21]), o 23 (.slc 1 (.t 15) (some (.t 16)) (some (.t 22))), o 24 (.cpy 1 (.t 14) (.t 23))]) .skip)) (.seq (.reg [mv 25 7, mv 6 25]) .ret)))
theorem in_kara_piece : Ent 113 26 c_kara_piece [.t 6] := ent Tryz.func113 rfl rfl rfl (show compile _ 26 _ = _ by kernel_rfl) (show compRes _ 26 _ = _ by kernel_rfl)
def c_kara_wide : AC := .seq (.reg [o 4 (.mv (.c (.sl none 0 0 none)))]) (.seq (.reg [mv 5 0, mv 6 1, o 7 (.call 113 [.t 5, i64 0, .t 6]), mv 4 7]) .ret)
theorem in_kara_wide : Ent 114 8 c_kara_wide [.t 4] := ent Tryz.func114 rfl rfl rfl (show compile _ 8 _ = _ by kernel_rfl) (show compRes _ 8 _ = _ by kernel_rfl)
def c_school_Engine_Mul : AC := .seq (.reg [o 6 (.mv (.c (.sl none 0 0 none)))]) (.seq (.reg [mv 17 0, o 18 (.nn (.t 17)), o 19 (.fld 0 (.t 18)), o 20 (.ld none (.t 19)), o 21 (.nn (.t 20)), o 22 (.fld 0 (.t 21)), mv 23 1, o 24 (.len false (.t 23)), mv 25 2, o 26 (.len false (.t 25)), bn 27 .mul 24 26, o 28 (.call 54 [.t 22, .t 27])]) (.seq (.reg [mv 29 1, o 30 (.len false (.t 29)), mv 31 2, o 32 (.len false (.t 31)), bn 33 .add 30 32, o 34 (.mk 93 1 8 [.int .u64 0] (.t 33) (.t 33)), mv 7 34]) (.seq (.seq (.reg [mv 35 1, o 36 (.len false (.t 35)), o 37 (.mv (i64 0))]) (.block 0 (.loop (.seq (.reg [bn 38 .lss 37 36]) (.seq (.cond (.t 38) .skip (.exit 0)) (.seq (.block 1 (.seq (.reg [mv 39 37, o 40 (.idx 1 (.t 35) (.t 37)), o 41 (.ld none (.t 40)), mv 8 39, mv 9 41]) (.seq (.reg [o 10 (.mv (u64 0))]) (.seq (.seq (.reg [mv 42 2, o 43 (.len false (.t 42)), o 44 (.mv (i64 0))]) (.block 2 (.loop (.seq (.reg [bn 45 .lss 44 43]) (.seq (.cond (.t 45) .skip (.exit 2)) (.seq (.block 3 (.seq (.reg [mv 46 44, o 47 (.idx 1 (.t 42) (.t 44)), o 48 (.ld none (.t 47)), mv 11 46, mv 12 48]) (.seq (.reg [mv 50 9, mv 51 12, o 52 (.call 84 [.t 50, .t 51]), mv 49 52, o 53 (.ext (.t 49) 0), o 54 (.ext (.t 49) 1), mv 13 53, mv 14 54]) (.seq (.reg [mv 56 14, mv 57 10, o 58 (.call 86 [.t 56, .t 57, u64 0]), mv 55 58, o 59 (.ext (.t 55) 0), o 60 (.ext (.t 55) 1), mv 15 59, mv 16 60]) (.seq (.reg [mv 61 13, mv 62 16, bn 63 .add 61 62, mv 13 63]) (.seq (.reg [mv 65 7, mv 66 8, mv 67 11, bn 68 .add 66 67, mv 69 7, mv 70 8, mv 71 11, bn 72 .add 70 71, o 73 (.idx 1 (.t 69) (.t 72)), o 74 (.ld none (.t 73)), mv 75 15, o 76 (.call 86 [.t 74, .t 75, u64 0]), mv 64 76, o 77 (.ext (.t 64) 0), o 78 (.ext (.t 64) 1), o 79 (.idx 1 (.t 65) (.t 68)), od (.st 1 (.t 79) (.t 77)), mv 16 78]) (.reg [mv 80 13, mv 81 16, bn 82 .add 80 81, mv 10 82]))))))) (.reg [o 83 (.bin .add (.t 44) (i64 1)), mv 44 83]))))))) (.reg [mv 84 7, mv 85 8, mv 86 2, o 87 (.len false (.t 86)), bn 88 .add 85 87, mv 89 10, o 90 (.idx 1 (.t 84) (.t 88)), od (.st 1 (.t 90) (.t 89))]))))) (.reg [o 91 (.bin .add (.t 37) (i64 1)), mv 37 91]))))))) (.seq (.reg [mv 92 7, o 93 (.call 53 [.t 92]), mv 6 93]) .ret))))
theorem in_school_Engine_Mul : Ent 91 94 c_school_Engine_Mul [.t 6] := ent Tryz.func91 rfl rfl rfl (show compile _ 94 _ = _ by kernel_rfl) (show compRes _ 94 _ = _ by kernel_rfl)
def c_school_New : AC := .seq (.reg [o 1 (.box 23 (.t 0)), o 2 (.mv (.c (.ptr none)))]) (.seq (.reg [o 3 (.ld (some 11) (.t 1)), o 4 (.call 126 [.t 3]), o 5 (.bld [.ptr none] [(0, 1, .t 4)]), o 6 (.box 107 (.t 5)), mv 2 6]) .ret)
theorem in_school_New : Ent 109 7 c_school_New [.t 2] := ent Tryz.func109 rfl rfl rfl (show compile _ 7 _ = _ by kernel_rfl) (show compRes _ 7 _ = _ by kernel_rfl)
end
def H.lee (u : Nat) (h h' : H) : Prop := h.next ≤ h'.next ∧ ∀ i r, i ≠ u → h.rows i = some r → h'.rows i = some r
theorem H.le.lee {u : Nat} {h h' : H} (hl : h.le h') : H.lee u h h' := ⟨hl.1, fun i r _ hr => hl.2 i r hr⟩
theorem H.lee.trans {u : Nat} {a b c : H} (h : H.lee u a b) (k : H.lee u b c) : H.lee u a c := ⟨Nat.le_trans h.1 k.1, fun i r hi hr => k.2 i r hi (h.2 i r hi hr)⟩
theorem H.lee_refl (u : Nat) (h : H) : H.lee u h h := (H.le_refl h).lee
theorem H.lee_set {u : Nat} {h : H} (r : Row) : H.lee u h (h.set u r) := ⟨Nat.le_refl _, fun i q hi hr => by rw [H.rows_set_ne hi]; exact hr⟩
theorem IsW.monoE {u : Nat} {k : IntKind} {h h' : H} {v : AV} {xs : List Int} {ru : Row} (hu : h.rows u = some ru) (ho : ru.own ≠ none) (hz : ru.esz ≠ 1) (hv : IsW k h v xs) (hl : H.lee u h h') : IsW k h' v xs := by
  obtain ⟨id, off, c, rfl, h1⟩ := hv
  refine ⟨id, off, c, rfl, ?_⟩
  rcases h1 with h1 | ⟨i, r, rfl, hr, hor, h3, h4⟩
  · exact .inl h1
  · refine .inr ⟨i, r, rfl, hl.2 i r ?_ hr, hor, h3, h4⟩
    rintro rfl
    rw [hu] at hr
    injection hr with hr
    subst hr
    rcases hor with h | h
    · exact ho h
    · exact hz h
def wr (m : Nat) : Int := IntKind.i64.wrap (m : Int)
theorem wr_small {m : Nat} (h : m < 9223372036854775808) : wr m = (m : Int) := wI (by omega) (by omega)
theorem wr_add {m n : Nat} : IntKind.i64.wrap (wr m + (n : Int)) = wr (m + n) := by
  unfold wr
  rw [IntKind.wrap_i64, IntKind.wrap_i64, IntKind.wrap_i64]
  omega
def tuneRow (m nw dp : Nat) (t : Tb) : Row := ⟨some 111, 14, [.int .i64 (wr m), .int .i64 (nw : Int), .int .i64 (dp : Int)] ++ t.cells⟩
def Tune (h : H) (u m nw dp : Nat) (t : Tb) : Prop := h.rows u = some (tuneRow m nw dp t)
def Eng : Nat → H → Nat → Nat → Prop
  | 0, _, e, u => e = u
  | d + 1, h, e, u => ∃ r e', h.rows e = some r ∧ r.cells = [.ptr (some (e', 0))] ∧ Eng d h e' u
theorem Eng.mono {h h' : H} {u : Nat} : ∀ {d e : Nat}, Eng d h e u → h.le h' → Eng d h' e u
  | 0, _, he, _ => he
  | _ + 1, _, ⟨r, e', h1, h2, h3⟩, hl => ⟨r, e', hl.2 _ _ h1, h2, h3.mono hl⟩
theorem Eng.monoE {h h' : H} {u m nw dp : Nat} {t : Tb} (ht : Tune h u m nw dp t) (hl : H.lee u h h') : ∀ {d e : Nat}, Eng d h e u → Eng d h' e u
  | 0, _, he => he
  | _ + 1, e, ⟨r, e', h1, h2, h3⟩ => ⟨r, e', hl.2 _ _ (by
      rintro rfl
      rw [ht] at h1
      injection h1 with h1
      rw [← h1] at h2
      have := congrArg List.length h2
      simp [tuneRow, Tb.cells] at this) h1, h2, Eng.monoE ht hl h3⟩
theorem Tune.mono {h h' : H} {u m nw dp : Nat} {t : Tb} (ht : Tune h u m nw dp t) (hl : h.le h') : Tune h' u m nw dp t := hl.2 _ _ ht
theorem IsN.monoE {h h' : H} {u m nw dp : Nat} {t : Tb} {v : AV} {xs : List Nat} (ht : Tune h u m nw dp t) (hv : IsN h v xs) (hl : H.lee u h h') : IsN h' v xs := IsW.monoE ht (by simp [tuneRow]) (by simp [tuneRow]) hv hl
theorem Nn.monoE {h h' : H} {u m nw dp : Nat} {t : Tb} {v : AV} {x : Nat} (ht : Tune h u m nw dp t) (hv : Nn h v x) (hl : H.lee u h h') : Nn h' v x := by
  obtain ⟨xs, h1, h2⟩ := hv
  exact ⟨xs, h1.monoE ht hl, h2⟩
theorem IsG.monoE {b : Nat} {h h' : H} {u : Nat} {v : AV} {xs : List Nat} (hub : u < b) (hv : IsG b h v xs) (hl : H.lee u h h') : IsG b h' v xs := by
  obtain ⟨id, c, rfl, h1⟩ := hv
  refine ⟨id, c, rfl, ?_⟩
  rcases h1 with h1 | ⟨i, r, rfl, hb, hr, h2⟩
  · exact .inl h1
  · exact .inr ⟨i, r, rfl, hb, hl.2 i r (by omega) hr, h2⟩
theorem Nf.monoE {b : Nat} {h h' : H} {u : Nat} {v : AV} {x : Nat} (hub : u < b) (hv : Nf b h v x) (hl : H.lee u h h') : Nf b h' v x := by
  obtain ⟨xs, h1, h2⟩ := hv
  exact ⟨xs, h1.monoE hub hl, h2⟩
theorem Spend_calls {u m nw dp n : Nat} {t : Tb} {h : H} {K : AV → H → Prop} (ht : Tune h u m nw dp t)
    (hk : ∀ h', h'.wf → H.lee u h h' → h'.next = h.next → Tune h' u (m + n) nw dp t → K (.int .i64 (wr (m + n))) h') : ACalls Tryz.prog 54 [.ptr (some (u, 0)), .int .i64 (n : Int)] h K := by
  refine in_meter_Meter_Spend (by simp) fun hw => ?_
  unfold c_meter_Meter_Spend
  have hul := H.row_lt hw ht
  have hg : h.get u 0 = some (.int .i64 (wr m)) := by rw [H.get_of ht]; rfl
  rcases Nat.eq_zero_or_pos n with h0 | h0
  · subst h0
    simp only [go_sem, ↓reduceIte, Nat.reduceEqDiff, Nat.reduceAdd, Bool.false_eq_true, Int.reduceToNat, show decide ((0 : Int) < ((0 : Nat) : Int)) = false from rfl, hg]
    exact fun _ => hk h hw (H.lee_refl u h) rfl ht
  · have hr : h.rows u = some (tuneRow m nw dp t) := ht
    simp only [go_sem, ↓reduceIte, Nat.reduceEqDiff, Nat.reduceAdd, Bool.false_eq_true, Int.reduceToNat, show decide ((0 : Int) < (n : Int)) = true from decide_eq_true (by omega), hg, wr_add (m := m) (n := n), hr]
    refine ⟨by simp [tuneRow], by simp [tuneRow], ?_⟩
    have hp : ({ tuneRow m nw dp t with cells := putAt (tuneRow m nw dp t).cells 0 [AV.int .i64 (wr (m + n))] } : Row) = tuneRow (m + n) nw dp t := by
      simp [tuneRow, putAt]
    rw [hp]
    have hg2 : (h.set u (tuneRow (m + n) nw dp t)).get u 0 = some (.int .i64 (wr (m + n))) := by rw [H.get_of (H.rows_set _ _ _)]; rfl
    simp only [go_sem, ↓reduceIte, Nat.reduceEqDiff, Nat.reduceAdd, Bool.false_eq_true, Int.reduceToNat, hg2]
    exact fun hw' => hk _ hw' (H.lee_set _) rfl (H.rows_set _ _ _)
theorem tune_zero {t : Tb} : tuneRow 0 0 0 t = ⟨some 111, 14, tuneCells t⟩ := by
  have e : wr 0 = 0 := wr_small (by omega)
  simp [tuneRow, tuneCells, e]
theorem tNew_calls {t : Tb} {h : H} {K : AV → H → Prop} (hk : ∀ id h', h'.wf → h.le h' → h.next ≤ id → Tune h' id 0 0 0 (clampT t) → K (.ptr (some (id, 0))) h') : ACalls Tryz.prog 126 [t.av] h K :=
  New_calls fun id h' hw' hl' hn hr => hk id h' hw' hl' hn (by unfold Tune; rw [tune_zero]; exact hr)
theorem bldp {p : Option (Nat × Nat)} : abuild [AV.ptr none] [(0, 1, AV.ptr p)] = some [AV.ptr p] := by simp [abuild, putAt, AV.held, AV.cells]
theorem sNew_calls {t : Tb} {h : H} {K : AV → H → Prop} (hk : ∀ e u h', h'.wf → h.le h' → h.next ≤ u → u < e → Eng 1 h' e u → Tune h' u 0 0 0 (clampT t) → K (.ptr (some (e, 0))) h') : ACalls Tryz.prog 109 [t.av] h K := by
  refine in_school_New (by simp) fun hw => ?_
  unfold c_school_New
  have hl1 := H.le_new hw (H.le_refl h) ⟨some 23, 11, t.cells⟩
  have hn1 : h.next < (h.new ⟨some 23, 11, t.cells⟩).next := Nat.lt_succ_self _
  simp only [go_sem, ↓reduceIte, Nat.reduceEqDiff, Nat.reduceAdd, Bool.false_eq_true, Int.reduceToNat, av_held, av_cells, cells_len, true_and, gsT (H.rows_new h _)]
  refine tNew_calls fun u h1 hw1 hl2 hn2  ht => ?_
  simp only [go_sem, ↓reduceIte, Nat.reduceEqDiff, Nat.reduceAdd, Bool.false_eq_true, Int.reduceToNat, bldp]
  simp only [AV.held, AV.cells, true_and, go_sem, ↓reduceIte, Nat.reduceEqDiff, Nat.reduceAdd, Bool.false_eq_true, Int.reduceToNat]
  have hl3 := H.le_new hw1 (H.le_refl h1) ⟨some 107, 1, [AV.ptr (some (u, 0))]⟩
  exact fun hw' => hk _ u _ hw' (H.le_trans hl1 (H.le_trans hl2 hl3)) (by omega) (H.row_lt hw1 ht) ⟨_, u, H.rows_new _ _, rfl, rfl⟩ (ht.mono hl3)
theorem kNew_calls {t : Tb} {h : H} {K : AV → H → Prop} (hk : ∀ e u h', h'.wf → h.le h' → h.next ≤ u → u < e → Eng 2 h' e u → Tune h' u 0 0 0 (clampT t) → K (.ptr (some (e, 0))) h') : ACalls Tryz.prog 96 [t.av] h K := by
  refine in_kara_New (by simp) fun hw => ?_
  unfold c_kara_New
  have hl1 := H.le_new hw (H.le_refl h) ⟨some 23, 11, t.cells⟩
  have hn1 : h.next < (h.new ⟨some 23, 11, t.cells⟩).next := Nat.lt_succ_self _
  simp only [go_sem, ↓reduceIte, Nat.reduceEqDiff, Nat.reduceAdd, Bool.false_eq_true, Int.reduceToNat, av_held, av_cells, cells_len, true_and, gsT (H.rows_new h _)]
  refine sNew_calls fun e u h1 hw1 hl2 hn2 _ he ht => ?_
  simp only [go_sem, ↓reduceIte, Nat.reduceEqDiff, Nat.reduceAdd, Bool.false_eq_true, Int.reduceToNat, bldp]
  simp only [AV.held, AV.cells, true_and, go_sem, ↓reduceIte, Nat.reduceEqDiff, Nat.reduceAdd, Bool.false_eq_true, Int.reduceToNat]
  have hl3 := H.le_new hw1 (H.le_refl h1) ⟨some 104, 1, [AV.ptr (some (e, 0))]⟩
  exact fun hw' => hk _ u _ hw' (H.le_trans hl1 (H.le_trans hl2 hl3)) (by omega) (H.row_lt hw1 ht) ⟨_, e, H.rows_new _ _, rfl, he.mono hl3⟩ (ht.mono hl3)
theorem toNew_calls {t : Tb} {h : H} {K : AV → H → Prop} (hk : ∀ e u h', h'.wf → h.le h' → h.next ≤ u → u < e → Eng 3 h' e u → Tune h' u 0 0 0 (clampT t) → K (.ptr (some (e, 0))) h') : ACalls Tryz.prog 78 [t.av] h K := by
  refine in_toom_New (by simp) fun hw => ?_
  unfold c_toom_New
  have hl1 := H.le_new hw (H.le_refl h) ⟨some 23, 11, t.cells⟩
  have hn1 : h.next < (h.new ⟨some 23, 11, t.cells⟩).next := Nat.lt_succ_self _
  simp only [go_sem, ↓reduceIte, Nat.reduceEqDiff, Nat.reduceAdd, Bool.false_eq_true, Int.reduceToNat, av_held, av_cells, cells_len, true_and, gsT (H.rows_new h _)]
  refine kNew_calls fun e u h1 hw1 hl2 hn2 _ he ht => ?_
  simp only [go_sem, ↓reduceIte, Nat.reduceEqDiff, Nat.reduceAdd, Bool.false_eq_true, Int.reduceToNat, bldp]
  simp only [AV.held, AV.cells, true_and, go_sem, ↓reduceIte, Nat.reduceEqDiff, Nat.reduceAdd, Bool.false_eq_true, Int.reduceToNat]
  have hl3 := H.le_new hw1 (H.le_refl h1) ⟨some 101, 1, [AV.ptr (some (e, 0))]⟩
  exact fun hw' => hk _ u _ hw' (H.le_trans hl1 (H.le_trans hl2 hl3)) (by omega) (H.row_lt hw1 ht) ⟨_, e, H.rows_new _ _, rfl, he.mono hl3⟩ (ht.mono hl3)
theorem mNew_calls {t : Tb} {h : H} {K : AV → H → Prop} (hk : ∀ e u h', h'.wf → h.le h' → h.next ≤ u → u < e → Eng 4 h' e u → Tune h' u 0 0 0 (clampT t) → K (.ptr (some (e, 0))) h') : ACalls Tryz.prog 51 [t.av] h K := by
  refine in_mul_New (by simp) fun hw => ?_
  unfold c_mul_New
  have hl1 := H.le_new hw (H.le_refl h) ⟨some 23, 11, t.cells⟩
  have hn1 : h.next < (h.new ⟨some 23, 11, t.cells⟩).next := Nat.lt_succ_self _
  simp only [go_sem, ↓reduceIte, Nat.reduceEqDiff, Nat.reduceAdd, Bool.false_eq_true, Int.reduceToNat, av_held, av_cells, cells_len, true_and, gsT (H.rows_new h _)]
  refine toNew_calls fun e u h1 hw1 hl2 hn2 _ he ht => ?_
  simp only [go_sem, ↓reduceIte, Nat.reduceEqDiff, Nat.reduceAdd, Bool.false_eq_true, Int.reduceToNat, bldp]
  simp only [AV.held, AV.cells, true_and, go_sem, ↓reduceIte, Nat.reduceEqDiff, Nat.reduceAdd, Bool.false_eq_true, Int.reduceToNat]
  have hl3 := H.le_new hw1 (H.le_refl h1) ⟨some 98, 1, [AV.ptr (some (e, 0))]⟩
  exact fun hw' => hk _ u _ hw' (H.le_trans hl1 (H.le_trans hl2 hl3)) (by omega) (H.row_lt hw1 ht) ⟨_, e, H.rows_new _ _, rfl, he.mono hl3⟩ (ht.mono hl3)
theorem dNew_calls {t : Tb} {h : H} {K : AV → H → Prop} (hk : ∀ e u h', h'.wf → h.le h' → h.next ≤ u → u < e → Eng 5 h' e u → Tune h' u 0 0 0 (clampT t) → K (.ptr (some (e, 0))) h') : ACalls Tryz.prog 23 [t.av] h K := by
  refine in_divs_New (by simp) fun hw => ?_
  unfold c_divs_New
  have hl1 := H.le_new hw (H.le_refl h) ⟨some 23, 11, t.cells⟩
  have hn1 : h.next < (h.new ⟨some 23, 11, t.cells⟩).next := Nat.lt_succ_self _
  simp only [go_sem, ↓reduceIte, Nat.reduceEqDiff, Nat.reduceAdd, Bool.false_eq_true, Int.reduceToNat, av_held, av_cells, cells_len, true_and, gsT (H.rows_new h _)]
  refine mNew_calls fun e u h1 hw1 hl2 hn2 _ he ht => ?_
  simp only [go_sem, ↓reduceIte, Nat.reduceEqDiff, Nat.reduceAdd, Bool.false_eq_true, Int.reduceToNat, bldp]
  simp only [AV.held, AV.cells, true_and, go_sem, ↓reduceIte, Nat.reduceEqDiff, Nat.reduceAdd, Bool.false_eq_true, Int.reduceToNat]
  have hl3 := H.le_new hw1 (H.le_refl h1) ⟨some 66, 1, [AV.ptr (some (e, 0))]⟩
  exact fun hw' => hk _ u _ hw' (H.le_trans hl1 (H.le_trans hl2 hl3)) (by omega) (H.row_lt hw1 ht) ⟨_, e, H.rows_new _ _, rfl, he.mono hl3⟩ (ht.mono hl3)
theorem comU {x : Nat} (hx : x < 18446744073709551616) : bCom .u64 (x : Int) = ((18446744073709551615 - x : Nat) : Int) := by
  have e1 : (BitVec.ofInt 64 18446744073709551615 ^^^ BitVec.ofInt 64 (x : Int)).toNat = 18446744073709551615 - x := by
    rw [show BitVec.ofInt 64 18446744073709551615 = BitVec.allOnes 64 from by decide, BitVec.allOnes_xor, BitVec.toNat_not, BitVec.toNat_ofInt]
    show 18446744073709551615 - ((x : Int) % 18446744073709551616).toNat = _
    omega
  show IntKind.u64.wrap (((BitVec.ofInt 64 18446744073709551615 ^^^ BitVec.ofInt 64 (x : Int)).toNat : Nat) : Int) = _
  rw [e1]
  exact wUn (by omega)
theorem Inverse_calls {d : Nat} {h : H} {K : AV → H → Prop} (hd : d < 18446744073709551616)
    (hk1 : d < 9223372036854775808 → K (.tup [.int .u64 0, .bool false]) h)
    (hk2 : 9223372036854775808 ≤ d → K (.tup [.int .u64 (((18446744073709551615 - d) * 18446744073709551616 + 18446744073709551615) / d : Nat), .bool true]) h) : ACalls Tryz.prog 83 [.int .u64 (d : Int)] h K := by
  refine in_word_Inverse (by simp) fun hw => ?_
  unfold c_word_Inverse
  simp only [go_sem, ↓reduceIte, Nat.reduceEqDiff, Nat.reduceAdd, Bool.false_eq_true, Int.reduceToNat]
  refine cond_split (fun hc => ?_) (fun hc => ?_)
  · simp only [go_sem, ↓reduceIte, Nat.reduceEqDiff, Nat.reduceAdd, Bool.false_eq_true, Int.reduceToNat]
    exact fun _ => hk1 (by simp at hc; omega)
  · have hge : 9223372036854775808 ≤ d := by simp at hc; omega
    simp only [go_sem, ↓reduceIte, Nat.reduceEqDiff, Nat.reduceAdd, Bool.false_eq_true, Int.reduceToNat, comU hd]
    refine Div64_calls (lo := 18446744073709551615) (by omega) (by omega) hd ?_
    simp only [go_sem, ↓reduceIte, Nat.reduceEqDiff, Nat.reduceAdd, Bool.false_eq_true, Int.reduceToNat]
    exact fun _ => hk2 hge
theorem Big.w1 {x : Nat} (h : x < 18446744073709551616) : Big x := lt_big64 (k := 1) (by omega) (by omega)
theorem Big.w2 {x : Nat} (h : x < 340282366920938463463374607431768211456) : Big x := lt_big64 (k := 2) (by omega) (by omega)
theorem Big.w3 {x : Nat} (h : x < 6277101735386680763835789423207666416102355444464034512896) : Big x := lt_big64 (k := 3) (by omega) (by omega)
theorem addUm {a b : Nat} : IntKind.u64.wrap ((a : Int) + (b : Int)) = (((a + b) % 18446744073709551616 : Nat) : Int) := by rw [wUm]; omega
def IsInv (d v : Nat) : Prop := v < 18446744073709551616 ∧ ∃ k : Nat, k ≤ d ∧ 1 ≤ k ∧ (18446744073709551616 + v) * d + k = 340282366920938463463374607431768211456
theorem inv_of {d : Nat} (hd : d < 18446744073709551616) (h2 : 9223372036854775808 ≤ d) : IsInv d (((18446744073709551615 - d) * 18446744073709551616 + 18446744073709551615) / d) := by
  have h1 := Nat.div_add_mod ((18446744073709551615 - d) * 18446744073709551616 + 18446744073709551615) d
  have h3 := Nat.mod_lt ((18446744073709551615 - d) * 18446744073709551616 + 18446744073709551615) (show 0 < d by omega)
  have hv : ((18446744073709551615 - d) * 18446744073709551616 + 18446744073709551615) / d < 18446744073709551616 := by
    rw [Nat.div_lt_iff_lt_mul (by omega)]
    omega
  generalize ((18446744073709551615 - d) * 18446744073709551616 + 18446744073709551615) / d = v at *
  generalize ((18446744073709551615 - d) * 18446744073709551616 + 18446744073709551615) % d = m at *
  refine ⟨hv, m + 1, by omega, by omega, ?_⟩
  rw [Nat.add_mul, Nat.mul_comm v d]
  generalize d * v = t at *
  omega
def IsInv2 (d1 d0 v : Nat) : Prop := v < 18446744073709551616 ∧ ∃ k : Nat, 1 ≤ k ∧ k ≤ d1 * 18446744073709551616 + d0 ∧ (18446744073709551616 + v) * (d1 * 18446744073709551616 + d0) + k = 6277101735386680763835789423207666416102355444464034512896
theorem dec_mul {v d : Nat} (hv : 1 ≤ v) : (18446744073709551616 + (v - 1)) * d + d = (18446744073709551616 + v) * d := by
  rw [← Nat.succ_mul]
  congr 1
  omega
structure Inv1 (d1 d0 v p k : Nat) : Prop where
  hv : v < 18446744073709551616
  eq : (18446744073709551616 + v) * d1 + k = 340282366920938463463374607431768211456
  lo : d0 < k
  hi : k ≤ d1 + d0
  hp : p + k = 18446744073709551616 + d0
theorem inv2_value {d1 d0 v p k : Nat} (i : Inv1 d1 d0 v p k) : (6277101735386680763835789423207666416102355444464034512896 : Int) - (18446744073709551616 + v) * (d1 * 18446744073709551616 + d0) = 18446744073709551616 * ((k : Int) - d0) - v * d0 := by
  have h := i.eq
  have h2 : ((18446744073709551616 : Int) + v) * d1 + k = 340282366920938463463374607431768211456 := by
    have := congrArg (fun n : Nat => (n : Int)) h
    simpa using this
  have h3 : ((18446744073709551616 : Int) + v) * (d1 * 18446744073709551616 + d0) = 18446744073709551616 * (((18446744073709551616 : Int) + v) * d1) + 18446744073709551616 * d0 + v * d0 := by grind
  rw [h3]
  generalize ((18446744073709551616 : Int) + v) * d1 = t at *
  generalize (v : Int) * d0 = s at *
  omega
theorem inv2_keep {d1 d0 v p k : Nat} (i : Inv1 d1 d0 v p k) (hc : v * d0 / 18446744073709551616 + d0 < k) : IsInv2 d1 d0 v := by
  have h := inv2_value i
  have e := Nat.div_add_mod (v * d0) 18446744073709551616
  have e2 : v * d0 % 18446744073709551616 < 18446744073709551616 := Nat.mod_lt _ (by decide)
  have a := i.lo
  have b := i.hi
  refine ⟨i.hv, 18446744073709551616 * (k - d0) - v * d0, ?_, ?_, ?_⟩
  · generalize v * d0 = t at *; omega
  · generalize v * d0 = t at *; omega
  · have h2 : (((18446744073709551616 + v) * (d1 * 18446744073709551616 + d0) : Nat) : Int) = ((18446744073709551616 : Int) + v) * (d1 * 18446744073709551616 + d0) := by simp
    have h3 : ((v : Int) * d0) = ((v * d0 : Nat) : Int) := by simp
    rw [← h2, h3] at h
    generalize (18446744073709551616 + v) * (d1 * 18446744073709551616 + d0) = s at *
    generalize v * d0 = t at *
    omega
theorem inv2_one {d1 d0 v p k : Nat} (i : Inv1 d1 d0 v p k) (hd1 : d1 < 18446744073709551616) (hd0 : d0 < 18446744073709551616) (hc : k ≤ v * d0 / 18446744073709551616 + d0) (h2 : v * d0 < 18446744073709551616 * (k - d0) + (d1 * 18446744073709551616 + d0)) : 1 ≤ v ∧ IsInv2 d1 d0 (v - 1) := by
  have h := inv2_value i
  have e := Nat.div_add_mod (v * d0) 18446744073709551616
  have a := i.lo
  have b := i.hi
  have hv : 1 ≤ v := by
    rcases Nat.eq_zero_or_pos v with h0 | h0
    · subst h0; simp at hc; omega
    · exact h0
  have hvb := i.hv
  refine ⟨hv, by omega, 18446744073709551616 * (k - d0) + (d1 * 18446744073709551616 + d0) - v * d0, ?_, ?_, ?_⟩
  · omega
  · generalize v * d0 = t at *; omega
  · have h4 := dec_mul (d := d1 * 18446744073709551616 + d0) hv
    have h2 : (((18446744073709551616 + v) * (d1 * 18446744073709551616 + d0) : Nat) : Int) = ((18446744073709551616 : Int) + v) * (d1 * 18446744073709551616 + d0) := by simp
    have h3 : ((v : Int) * d0) = ((v * d0 : Nat) : Int) := by simp
    rw [← h2, h3, ← h4] at h
    generalize (18446744073709551616 + (v - 1)) * (d1 * 18446744073709551616 + d0) = s at *
    generalize v * d0 = t at *
    omega
theorem inv2_two {d1 d0 v p k : Nat} (i : Inv1 d1 d0 v p k) (hd1 : d1 < 18446744073709551616) (h63 : 9223372036854775808 ≤ d1) (hd0 : d0 < 18446744073709551616) (h2 : 18446744073709551616 * (k - d0) + (d1 * 18446744073709551616 + d0) ≤ v * d0) : 2 ≤ v ∧ IsInv2 d1 d0 (v - 2) := by
  have h := inv2_value i
  have a := i.lo
  have b := i.hi
  have hvb := i.hv
  have hv : 2 ≤ v := by
    rcases Nat.lt_or_ge v 2 with h0 | h0
    · have : v * d0 ≤ 1 * d0 := Nat.mul_le_mul_right d0 (by omega)
      omega
    · exact h0
  have hmax : v * d0 ≤ 18446744073709551615 * 18446744073709551615 := Nat.mul_le_mul (by omega) (by omega)
  refine ⟨hv, by omega, 18446744073709551616 * (k - d0) + 2 * (d1 * 18446744073709551616 + d0) - v * d0, ?_, ?_, ?_⟩
  · generalize v * d0 = t at *; omega
  · generalize v * d0 = t at *; omega
  · have h4 := dec_mul (v := v) (d := d1 * 18446744073709551616 + d0) (by omega)
    have h5 := dec_mul (v := v - 1) (d := d1 * 18446744073709551616 + d0) (by omega)
    rw [show v - 1 - 1 = v - 2 from by omega] at h5
    have h2 : (((18446744073709551616 + v) * (d1 * 18446744073709551616 + d0) : Nat) : Int) = ((18446744073709551616 : Int) + v) * (d1 * 18446744073709551616 + d0) := by simp
    have h3 : ((v : Int) * d0) = ((v * d0 : Nat) : Int) := by simp
    rw [← h2, h3, ← h4, ← h5] at h
    generalize (18446744073709551616 + (v - 2)) * (d1 * 18446744073709551616 + d0) = s at *
    generalize v * d0 = t at *
    omega
theorem Inverse2_calls {d1 d0 : Nat} {h : H} {K : AV → H → Prop} (hd1 : d1 < 18446744073709551616) (hd0 : d0 < 18446744073709551616)
    (hk1 : d1 < 9223372036854775808 → K (.tup [.int .u64 0, .bool false]) h)
    (hk2 : 9223372036854775808 ≤ d1 → ∀ v : Nat, IsInv2 d1 d0 v → K (.tup [.int .u64 (v : Int), .bool true]) h) : ACalls Tryz.prog 59 [.int .u64 (d1 : Int), .int .u64 (d0 : Int)] h K := by
  refine in_word_Inverse2 (by simp) fun hw => ?_
  unfold c_word_Inverse2
  simp only [go_sem, ↓reduceIte, Nat.reduceEqDiff, Nat.reduceAdd, Bool.false_eq_true, Int.reduceToNat]
  refine Inverse_calls hd1 (fun hc => ?_) (fun hc => ?_)
  · simp only [go_sem, ↓reduceIte, Nat.reduceEqDiff, Nat.reduceAdd, Bool.false_eq_true, Int.reduceToNat, Bool.not_false]
    exact fun _ => hk1 hc
  obtain ⟨hv, k, hk0, hk1, hk4⟩ := inv_of hd1 hc
  obtain ⟨v, hv0⟩ : ∃ v, v = ((18446744073709551615 - d1) * 18446744073709551616 + 18446744073709551615) / d1 := ⟨_, rfl⟩
  rw [← hv0] at hv hk4
  rw [← hv0]
  clear hv0
  have ht : v * d1 + 18446744073709551616 * d1 + k = 340282366920938463463374607431768211456 := by rw [← hk4, Nat.add_mul]; omega
  have hv1 : 1 ≤ v := by
    rcases Nat.eq_zero_or_pos v with h0 | h0
    · subst h0; omega
    · exact h0
  have hp : IntKind.u64.wrap (IntKind.u64.wrap ((d1 : Int) * (v : Int)) + (d0 : Int)) = ((if k ≤ d0 then d0 - k else 18446744073709551616 + d0 - k : Nat) : Int) := by
    rw [← Int.natCast_mul, Nat.mul_comm d1 v, wUm, wUm]
    generalize v * d1 = t at *
    split <;> omega
  simp only [go_sem, ↓reduceIte, Nat.reduceEqDiff, Nat.reduceAdd, Bool.false_eq_true, Int.reduceToNat, Bool.not_true, hp]
  refine cond_cut (fun ρ' h' => h' = h ∧ ρ' 0 = .int .u64 (d1 : Int) ∧ ρ' 1 = .int .u64 (d0 : Int) ∧ ∃ v p k : Nat, ρ' 6 = .int .u64 (v : Int) ∧ ρ' 8 = .int .u64 (p : Int) ∧ Inv1 d1 d0 v p k) ?_ ?_
  · refine cond_split (fun hc1 => ?_) (fun hc1 => ?_)
    · have hkd : k ≤ d0 := by
        rcases Nat.lt_or_ge d0 k with h0 | h0
        · rw [if_neg (by omega)] at hc1; simp at hc1; omega
        · exact h0
      rw [if_pos hkd]
      have s1 := subN1 (a := v) hv1 (by omega)
      have m1 := dec_mul (v := v) (d := d1) hv1
      simp only [go_sem, ↓reduceIte, Nat.reduceEqDiff, Nat.reduceAdd, Bool.false_eq_true, Int.reduceToNat, s1]
      refine cond_cut (fun ρ' h' => h' = h ∧ ρ' 0 = .int .u64 (d1 : Int) ∧ ρ' 1 = .int .u64 (d0 : Int) ∧ ∃ v p k : Nat, ρ' 6 = .int .u64 (v : Int) ∧ ρ' 8 = .int .u64 (p : Int) ∧ v < 18446744073709551616 ∧ (18446744073709551616 + v) * d1 + k = 340282366920938463463374607431768211456 ∧ d0 < k ∧ k ≤ d1 + d0 ∧ p + k = d1 + d0 ∧ p < 18446744073709551616) ?_ ?_
      · refine cond_split (fun hc2 => ?_) (fun hc2 => ?_)
        · have hc2 : d1 ≤ d0 - k := by simp at hc2; omega
          have hv2 : 2 ≤ v := by
            rcases Nat.lt_or_ge v 2 with h0 | h0
            · have : v = 1 := by omega
              subst this
              omega
            · exact h0
          have s2 := subN1 (a := v - 1) (by omega) (by omega)
          have m2 := dec_mul (v := v - 1) (d := d1) (by omega)
          have s3 := subN (a := d0 - k) (b := d1) hc2 (by omega)
          simp only [go_sem, ↓reduceIte, Nat.reduceEqDiff, Nat.reduceAdd, Bool.false_eq_true, Int.reduceToNat, s2, s3]
          exact ⟨by first | rfl | trivial | assumption, by first | rfl | trivial | assumption, by first | rfl | trivial | assumption, v - 1 - 1, d0 - k - d1, k + d1 + d1, rfl, rfl, by omega, by omega, by omega, by omega, by omega, by omega⟩
        · have hc2 : d0 - k < d1 := by simp at hc2; omega
          simp only [go_sem, ↓reduceIte, Nat.reduceEqDiff, Nat.reduceAdd, Bool.false_eq_true, Int.reduceToNat]
          exact ⟨by first | rfl | trivial | assumption, by first | rfl | trivial | assumption, by first | rfl | trivial | assumption, v - 1, d0 - k, k + d1, rfl, rfl, by omega, by omega, by omega, by omega, by omega, by omega⟩
      · rintro ρ h' ⟨rfl, g0, g1, v', p', k', g6, g8, f1, f2, f3, f4, f5, f6⟩
        have s3 : IntKind.u64.wrap ((p' : Int) - (d1 : Int)) = ((18446744073709551616 + d0 - k' : Nat) : Int) := by rw [wUm]; omega
        simp only [go_sem, ↓reduceIte, Nat.reduceEqDiff, Nat.reduceAdd, Bool.false_eq_true, Int.reduceToNat, g0, g1, g6, g8, s3]
        exact ⟨by first | rfl | trivial | assumption, by first | rfl | trivial | assumption, by first | rfl | trivial | assumption, v', 18446744073709551616 + d0 - k', k', by first | rfl | trivial | assumption, rfl, ⟨f1, f2, f3, f4, by omega⟩⟩
    · have hkd : d0 < k := by
        rcases Nat.lt_or_ge d0 k with h0 | h0
        · exact h0
        · rw [if_pos (by omega)] at hc1; simp at hc1; omega
      rw [if_neg (by omega)]
      simp only [go_sem, ↓reduceIte, Nat.reduceEqDiff, Nat.reduceAdd, Bool.false_eq_true, Int.reduceToNat]
      exact ⟨by first | rfl | trivial | assumption, by first | rfl | trivial | assumption, by first | rfl | trivial | assumption, v, 18446744073709551616 + d0 - k, k, rfl, rfl, ⟨hv, hk4, hkd, by omega, by omega⟩⟩
  clear hk4 ht hp hv hk0 hk1 hv1
  rintro ρ h' ⟨rfl, g0, g1, v', p', k', g6, g8, i⟩
  simp only [go_sem, ↓reduceIte, Nat.reduceEqDiff, Nat.reduceAdd, Bool.false_eq_true, Int.reduceToNat, g0, g1, g6, g8]
  refine Mul64_calls i.hv hd0 ?_
  have iv := i.hv
  have ilo := i.lo
  have ihi := i.hi
  have ip := i.hp
  have e := Nat.div_add_mod (v' * d0) 18446744073709551616
  have e2 : v' * d0 % 18446744073709551616 < 18446744073709551616 := Nat.mod_lt _ (by decide)
  have hmax : v' * d0 ≤ 18446744073709551615 * 18446744073709551615 := Nat.mul_le_mul (by omega) (by omega)
  have w1 := addUm (a := p') (b := v' * d0 / 18446744073709551616)
  simp only [go_sem, ↓reduceIte, Nat.reduceEqDiff, Nat.reduceAdd, Bool.false_eq_true, Int.reduceToNat, g0, g1, g6, g8, w1]
  refine cond_split (fun hc1 => ?_) (fun hc1 => ?_)
  · have hc1 : k' ≤ v' * d0 / 18446744073709551616 + d0 := by simp at hc1; omega
    have hpp : (p' + v' * d0 / 18446744073709551616) % 18446744073709551616 = v' * d0 / 18446744073709551616 + d0 - k' := by omega
    have hone : v' * d0 < 18446744073709551616 * (k' - d0) + (d1 * 18446744073709551616 + d0) → 1 ≤ v' ∧ IsInv2 d1 d0 (v' - 1) := inv2_one i hd1 hd0 hc1
    have htwo : 18446744073709551616 * (k' - d0) + (d1 * 18446744073709551616 + d0) ≤ v' * d0 → 2 ≤ v' ∧ IsInv2 d1 d0 (v' - 2) := inv2_two i hd1 hc hd0
    have hv1 : 1 ≤ v' := by
      rcases Nat.lt_or_ge (v' * d0) (18446744073709551616 * (k' - d0) + (d1 * 18446744073709551616 + d0)) with h0 | h0
      · exact (hone h0).1
      · have := (htwo h0).1; omega
    have s1 := subN1 (a := v') hv1 (by omega)
    rw [hpp]
    obtain ⟨P, hP⟩ : ∃ P, P = v' * d0 / 18446744073709551616 + d0 - k' := ⟨_, rfl⟩
    rw [← hP]
    have less : (P < d1 ∨ (P = d1 ∧ v' * d0 % 18446744073709551616 < d0)) → ∀ Q : Prop, (IsInv2 d1 d0 (v' - 1) → Q) → Q := fun hh Q hQ => hQ (hone (by omega)).2
    have more : (d1 < P ∨ (P = d1 ∧ d0 ≤ v' * d0 % 18446744073709551616)) → ∀ Q : Prop, (2 ≤ v' → IsInv2 d1 d0 (v' - 2) → Q) → Q := fun hh Q hQ => hQ (htwo (by omega)).1 (htwo (by omega)).2
    rcases Nat.lt_trichotomy P d1 with c1 | c1 | c1
    · have t1 := ltF (a := d1) (b := P) (by omega)
      have t2 : ((P : Int) == (d1 : Int)) = false := by simp; omega
      simp only [go_sem, ↓reduceIte, Nat.reduceEqDiff, Nat.reduceAdd, Bool.false_eq_true, Int.reduceToNat, g0, g1, g6, g8, s1, t1, t2]
      exact fun _ => less (.inl c1) _ fun hh => hk2 hc _ hh
    · have t1 := ltF (a := d1) (b := P) (by omega)
      have t2 : ((P : Int) == (d1 : Int)) = true := by simp; omega
      simp only [go_sem, ↓reduceIte, Nat.reduceEqDiff, Nat.reduceAdd, Bool.false_eq_true, Int.reduceToNat, g0, g1, g6, g8, s1, t1, t2]
      refine cond_split (fun c2 => ?_) (fun c2 => ?_)
      · refine more (.inr ⟨c1, by simp at c2; omega⟩) _ fun h2 hh => ?_
        have s2 := subN1 (a := v' - 1) (by omega) (by omega)
        simp only [go_sem, ↓reduceIte, Nat.reduceEqDiff, Nat.reduceAdd, Bool.false_eq_true, Int.reduceToNat, s2]
        exact fun _ => hk2 hc _ hh
      · refine less (.inr ⟨c1, by simp at c2; omega⟩) _ fun hh => ?_
        simp only [go_sem, ↓reduceIte, Nat.reduceEqDiff, Nat.reduceAdd, Bool.false_eq_true, Int.reduceToNat]
        exact fun _ => hk2 hc _ hh
    · have t1 := ltT (a := d1) (b := P) c1
      refine more (.inl c1) _ fun h2 hh => ?_
      have s2 := subN1 (a := v' - 1) (by omega) (by omega)
      simp only [go_sem, ↓reduceIte, Nat.reduceEqDiff, Nat.reduceAdd, Bool.false_eq_true, Int.reduceToNat, g0, g1, g6, g8, s1, t1, s2]
      exact fun _ => hk2 hc _ hh
  · have hc1 : v' * d0 / 18446744073709551616 + d0 < k' := by simp at hc1; omega
    simp only [go_sem, ↓reduceIte, Nat.reduceEqDiff, Nat.reduceAdd, Bool.false_eq_true, Int.reduceToNat, g0, g1, g6, g8]
    exact fun _ => hk2 hc _ (inv2_keep i hc1)
theorem mg3_bounds {B v D k a2 a1 a0 q1 q0 r : Int} (h1 : (B + v) * D + k = B * B * B) (h2 : (B + v) * a2 + a1 = q1 * B + q0) (h3 : r = a2 * B * B + a1 * B + a0 - (q1 + 1) * D) (hk0 : 0 ≤ k) (hk : k ≤ D) (hD : D < B * B) (hDB : B ≤ D) (hB : 0 < B) (hv : 0 ≤ v)
    (ha2 : 0 ≤ a2) (ha1 : 0 ≤ a1) (ha1B : a1 < B) (ha0 : 0 ≤ a0) (ha0B : a0 < B) (hx : a2 * B + a1 < D) (hq0 : 0 ≤ q0) (hq0B : q0 < B) : -D ≤ r ∧ q0 * B ≤ B * B + r ∧ (r < B * B - D ∨ r < q0 * B) := by
  have key : B * r = a2 * k + a1 * (B * B - D) + a0 * B + q0 * D - B * D := by grind
  have p1 : 0 ≤ a2 * k := Int.mul_nonneg ha2 hk0
  have p2 : 0 ≤ a1 * (B * B - D) := Int.mul_nonneg ha1 (by omega)
  have p3 : 0 ≤ a0 * B := Int.mul_nonneg ha0 (by omega)
  have p4 : 0 ≤ q0 * D := Int.mul_nonneg hq0 (by omega)
  refine ⟨?_, ?_, ?_⟩
  · have e : B * (-D) ≤ B * r := by rw [key]; grind
    exact Int.le_of_mul_le_mul_left e hB
  · have e0 : (B - q0) * D ≤ (B - q0) * (B * B) := Int.mul_le_mul_of_nonneg_left (by omega) (by omega)
    have e : B * (q0 * B - B * B) ≤ B * r := by rw [key]; grind
    have := Int.le_of_mul_le_mul_left e hB
    omega
  · rcases Int.lt_or_le r (B * B - D) with c1 | c1
    · exact .inl c1
    · refine .inr ?_
      rcases Int.lt_or_le r (q0 * B) with c2 | c2
      · exact c2
      · exfalso
        have hvD : v * D = B * B * B - B * D - k := by grind
        have key2 : B * B * r = (a2 * B + a1) * k + a1 * (v * D) + a0 * (B * B) + q0 * B * D - B * B * D := by
          have : B * B * r = B * (B * r) := by grind
          rw [this, key, hvD]
          grind
        have b1 : (a2 * B + a1) * k ≤ (D - 1) * k := Int.mul_le_mul_of_nonneg_right (by omega) hk0
        have b2 : a1 * (v * D) ≤ (B - 1) * (v * D) := Int.mul_le_mul_of_nonneg_right (by omega) (Int.mul_nonneg hv (by omega))
        have b3 : a0 * (B * B) ≤ (B - 1) * (B * B) := Int.mul_le_mul_of_nonneg_right (by omega) (by omega)
        have b4 : (D - B) * k ≤ (D - B) * D := Int.mul_le_mul_of_nonneg_left hk (by omega)
        have b5 : (B * B - D) * (B * B - D) ≤ (B * B - D) * r := Int.mul_le_mul_of_nonneg_left c1 (by omega)
        have b6 : D * (q0 * B) ≤ D * r := Int.mul_le_mul_of_nonneg_left c2 (by omega)
        have b7 : 0 < B * B := Int.mul_pos hB hB
        rw [hvD] at b2 key2
        have e1 : B * B * r = (B * B - D) * r + D * r := by grind
        have e2 : (D - 1) * k + (B - 1) * (B * B * B - B * D - k) + (B - 1) * (B * B) = (D - B) * k + (B - 1) * (B * B * B - B * D) + (B - 1) * (B * B) := by grind
        have e3 : (D - B) * D + (B - 1) * (B * B * B - B * D) + (B - 1) * (B * B) + q0 * B * D - B * B * D + B * B = (B * B - D) * (B * B - D) + D * (q0 * B) := by grind
        omega
end Ab
end Go.Proofs.YtnmnkocibjdhjaaGreatDoor
