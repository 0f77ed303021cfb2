/- Joined texts: D1 E1 E2 E3 E4 E5 F1 F2 F3 F4. No condition. -/
import Derived.Test.YtnmnkocibjdhjaaZ4
import Derived.Laws.BitsLemmas
import Derived.Laws.Bits64
import Derived.Laws.Externs
import Derived.Lib.Mul64
namespace Go.Proofs.Ytnmnkocibjdhjaa
namespace Ab
open Go Go.RowKit

theorem wI {n : Int} (h1 : -9223372036854775808 ≤ n) (h2 : n < 9223372036854775808) : IntKind.i64.wrap n = n := by rw [IntKind.wrap_i64]; omega
theorem wU {n : Int} (h1 : 0 ≤ n) (h2 : n < 18446744073709551616) : IntKind.u64.wrap n = n := by rw [IntKind.wrap_u64]; omega
theorem wUm {n : Int} : IntKind.u64.wrap n = n % 18446744073709551616 := IntKind.wrap_u64 n
theorem tmodN {a : Nat} {b : Nat} : ((a : Int)).tmod (b : Int) = ((a % b : Nat) : Int) := by rw [Int.tmod_eq_emod_of_nonneg (by omega)]; rfl
theorem tdivN {a : Nat} {b : Nat} : ((a : Int)).tdiv (b : Int) = ((a / b : Nat) : Int) := by rw [Int.tdiv_eq_ediv_of_nonneg (by omega)]; rfl
theorem tmodL {a : Nat} {b : Nat} [NeZero b] : ((a : Int)).tmod (OfNat.ofNat b : Int) = ((a % b : Nat) : Int) := tmodN
theorem tdivL {a : Nat} {b : Nat} [NeZero b] : ((a : Int)).tdiv (OfNat.ofNat b : Int) = ((a / b : Nat) : Int) := tdivN
theorem bandN {a b : Nat} (ha : a < 18446744073709551616) (hb : b < 18446744073709551616) : IntKind.u64.wrap ((BitVec.ofInt IntKind.u64.bits (a : Int) &&& BitVec.ofInt IntKind.u64.bits (b : Int)).toNat : Int) = ((a &&& b : Nat) : Int) := by
  have e1 : (BitVec.ofInt IntKind.u64.bits (a : Int) &&& BitVec.ofInt IntKind.u64.bits (b : Int)).toNat = a &&& b := by
    rw [BitVec.toNat_and, BitVec.toNat_ofInt, BitVec.toNat_ofInt]
    show ((a : Int) % 18446744073709551616).toNat &&& ((b : Int) % 18446744073709551616).toNat = _
    rw [show ((a : Int) % 18446744073709551616).toNat = a from by omega, show ((b : Int) % 18446744073709551616).toNat = b from by omega]
  rw [e1]
  exact wU (by omega) (by have := Nat.and_lt_two_pow (n := 64) a (y := b) (by omega); omega)
theorem borN {a b : Nat} (ha : a < 18446744073709551616) (hb : b < 18446744073709551616) : IntKind.u64.wrap ((BitVec.ofInt IntKind.u64.bits (a : Int) ||| BitVec.ofInt IntKind.u64.bits (b : Int)).toNat : Int) = ((a ||| b : Nat) : Int) := by
  have e1 : (BitVec.ofInt IntKind.u64.bits (a : Int) ||| BitVec.ofInt IntKind.u64.bits (b : Int)).toNat = a ||| b := by
    rw [BitVec.toNat_or, BitVec.toNat_ofInt, BitVec.toNat_ofInt]
    show ((a : Int) % 18446744073709551616).toNat ||| ((b : Int) % 18446744073709551616).toNat = _
    rw [show ((a : Int) % 18446744073709551616).toNat = a from by omega, show ((b : Int) % 18446744073709551616).toNat = b from by omega]
  rw [e1]
  exact wU (by omega) (by have := Nat.or_lt_two_pow (n := 64) (x := a) (y := b) (by omega) (by omega); omega)

/-- The number that digits say, the lowest first. -/
def val (B : Nat) : List Nat → Nat
  | [] => 0
  | x :: xs => x + B * val B xs
theorem val_append (B : Nat) (xs ys : List Nat) : val B (xs ++ ys) = val B xs + B ^ xs.length * val B ys := by
  induction xs with
  | nil => simp [val]
  | cons x xs ih =>
    simp only [List.cons_append, val, ih, List.length_cons, Nat.pow_succ, Nat.mul_add]
    rw [Nat.mul_comm (B ^ xs.length) B, Nat.mul_assoc, Nat.add_assoc]
theorem val_snoc (B : Nat) (xs : List Nat) (y : Nat) : val B (xs ++ [y]) = val B xs + B ^ xs.length * y := by simp [val_append, val]
theorem val_zero (B : Nat) (xs : List Nat) (h : ∀ x ∈ xs, x = 0) : val B xs = 0 := by
  induction xs with
  | nil => rfl
  | cons x xs ih => simp [val, h x (by simp), ih (fun y hy => h y (by simp [hy]))]
theorem val_cut (B : Nat) (xs : List Nat) (k : Nat) (h : k ≤ xs.length) : val B xs = val B (xs.take k) + B ^ k * val B (xs.drop k) := by
  rw [← List.take_append_drop k xs, val_append]
  simp [Nat.min_eq_left h]
theorem val_take (B : Nat) (xs : List Nat) (k : Nat) (h : ∀ x ∈ xs.drop k, x = 0) : val B (xs.take k) = val B xs := by
  conv => rhs; rw [← List.take_append_drop k xs, val_append, val_zero B _ h]
  simp
theorem val_take_succ (B : Nat) (xs : List Nat) (k : Nat) (h : k < xs.length) : val B (xs.take (k + 1)) = val B (xs.take k) + B ^ k * xs[k] := by
  rw [List.take_succ_eq_append_getElem h, val_snoc]
  simp [Nat.min_eq_left (Nat.le_of_lt h)]
theorem val_lt (B : Nat) (_ : 0 < B) (xs : List Nat) (h : ∀ x ∈ xs, x < B) : val B xs < B ^ xs.length := by
  induction xs with
  | nil => simp [val]
  | cons x xs ih =>
    have h1 := h x (by simp)
    have h2 := ih (fun y hy => h y (by simp [hy]))
    simp only [val, List.length_cons, Nat.pow_succ]
    rw [Nat.mul_comm _ B]
    calc x + B * val B xs < B + B * val B xs := by omega
      _ = B * (val B xs + 1) := by rw [Nat.mul_add]; omega
      _ ≤ B * B ^ xs.length := Nat.mul_le_mul_left _ h2
theorem val_lt_take (B : Nat) (hB : 0 < B) (xs : List Nat) (h : ∀ x ∈ xs, x < B) (k : Nat) : val B (xs.take k) < B ^ k := by
  have h1 := val_lt B hB (xs.take k) (fun x hx => h x (List.mem_of_mem_take hx))
  refine Nat.lt_of_lt_of_le h1 (Nat.pow_le_pow_right hB ?_)
  simp; omega
/-- The same number has the same digits. -/
theorem val_inj (B : Nat) (hB : 0 < B) : ∀ (xs ys : List Nat), xs.length = ys.length → (∀ x ∈ xs, x < B) → (∀ x ∈ ys, x < B) → val B xs = val B ys → xs = ys
  | [], [], _, _, _, _ => rfl
  | [], _ :: _, h, _, _, _ => by simp at h
  | _ :: _, [], h, _, _, _ => by simp at h
  | x :: xs, y :: ys, h, h1, h2, h3 => by
    simp only [val] at h3
    have hx := h1 x (by simp)
    have hy := h2 y (by simp)
    have e1 : x = y := by
      have := congrArg (· % B) h3
      simpa [Nat.add_mul_mod_self_left, Nat.mod_eq_of_lt hx, Nat.mod_eq_of_lt hy] using this
    subst e1
    have e2 : val B xs = val B ys := Nat.eq_of_mul_eq_mul_left hB (by omega)
    rw [val_inj B hB xs ys (by simpa using h) (fun z hz => h1 z (by simp [hz])) (fun z hz => h2 z (by simp [hz])) e2]

/-- A slice that reads asx these naturals. -/
def IsN (h : H) (v : AV) (xs : List Nat) : Prop := IsW .u64 h v (xs.map fun n : Nat => (n : Int))
theorem IsN.mono {h h' : H} {v : AV} {xs : List Nat} (hv : IsN h v xs) (hl : h.le h') : IsN h' v xs := IsW.mono hv hl
theorem IsN.form {h : H} {v : AV} {xs : List Nat} (hv : IsN h v xs) : ∃ id off c, v = .sl id off xs.length c := by
  obtain ⟨id, off, c, e⟩ := IsW.form hv
  exact ⟨id, off, c, by simpa using e⟩
theorem IsN.at {h : H} {id : Option Nat} {off n : Nat} {c : Option Nat} {xs : List Nat} (hv : IsN h (.sl id off n c) xs) {j : Nat} (hj : j < xs.length) : ∃ i, id = some i ∧ n = xs.length ∧ h.get i (off + j) = some (.int .u64 (xs[j] : Nat)) := by
  obtain ⟨i, e1, e2, e3⟩ := IsW.at hv (j := j) (by simpa using hj)
  exact ⟨i, e1, by simpa using e2, by simpa using e3⟩
theorem IsN.row {h : H} {id : Option Nat} {off n : Nat} {c : Option Nat} {xs : List Nat} (hv : IsN h (.sl id off n c) xs) : ∀ i, id = some i → ∃ r, h.rows i = some r ∧ (r.own = none ∨ r.esz = 1) := IsW.row hv
theorem IsN.cut {h : H} {id : Option Nat} {off n : Nat} {c c' : Option Nat} {xs : List Nat} (hv : IsN h (.sl id off n c) xs) {a b : Nat} (hab : a ≤ b) (hb : b ≤ xs.length) : IsN h (.sl id (off + a) (b - a) c') ((xs.take b).drop a) := by
  have := IsW.cut (c' := c') hv hab (by simpa using hb)
  unfold IsN
  rw [List.map_drop, List.map_take]
  exact this
theorem IsN.take {h : H} {id : Option Nat} {off n : Nat} {c c' : Option Nat} {xs : List Nat} (hv : IsN h (.sl id off n c) xs) {b : Nat} (hb : b ≤ xs.length) : IsN h (.sl id off b c') (xs.take b) := by
  have := IsN.cut (c' := c') hv (Nat.zero_le b) hb
  simpa using this
theorem IsN.nil (h : H) (c : Option Nat) : IsN h (.sl none 0 0 c) [] := IsW.nil _ _ _
def IsG (b : Nat) (h : H) (v : AV) (xs : List Nat) : Prop := IsF 23 .u64 b h v (xs.map fun n : Nat => (n : Int))

/-- A slice that reads asx this number: digits to the base B, none on top that is nought. -/
def Num (B : Nat) (h : H) (v : AV) (n : Nat) : Prop := ∃ xs, IsN h v xs ∧ (∀ x ∈ xs, x < B) ∧ (∀ x, xs.getLast? = some x → x ≠ 0) ∧ val B xs = n
theorem Num.mono {B : Nat} {h h' : H} {v : AV} {n : Nat} (hv : Num B h v n) (hl : h.le h') : Num B h' v n := by
  obtain ⟨xs, h1, h2⟩ := hv
  exact ⟨xs, h1.mono hl, h2⟩
/-- How many digits a number has. -/
theorem val_ge (B : Nat) (xs : List Nat) (h : ∀ x, xs.getLast? = some x → x ≠ 0) (h0 : xs ≠ []) : B ^ (xs.length - 1) ≤ val B xs := by
  rcases List.eq_nil_or_concat xs with rfl | ⟨ys, y, rfl⟩
  · exact absurd rfl h0
  · have hy := h y (by simp)
    rw [List.concat_eq_append, val_snoc]
    simp only [List.length_append, List.length_cons, List.length_nil]
    have : B ^ ys.length * 1 ≤ B ^ ys.length * y := Nat.mul_le_mul_left _ (by omega)
    simp only [Nat.mul_one] at this
    show B ^ (ys.length + 1 - 1) ≤ _
    rw [Nat.add_sub_cancel]
    omega
theorem digits_le (B : Nat) (hB : 1 < B) {xs : List Nat} (h : ∀ x, xs.getLast? = some x → x ≠ 0) {k : Nat} (hk : val B xs < B ^ k) : xs.length ≤ k := by
  by_cases h0 : xs = []
  · subst h0; simp
  · have h1 := val_ge B xs h h0
    have h2 : B ^ (xs.length - 1) < B ^ k := by omega
    have h3 := (Nat.pow_lt_pow_iff_right hB).1 h2
    omega
theorem digits_lt_iff (B : Nat) (hB : 1 < B) {xs ys : List Nat} (hx : ∀ x ∈ xs, x < B) (h : ∀ x, ys.getLast? = some x → x ≠ 0) (hl : xs.length < ys.length) : val B xs < val B ys := by
  have h1 := val_lt B (by omega) xs hx
  have h2 := val_ge B ys h (by intro e; subst e; simp at hl)
  have h3 : B ^ xs.length ≤ B ^ (ys.length - 1) := Nat.pow_le_pow_right (by omega) (by omega)
  omega
/-- A literal. -/
theorem IsN.lit {h : H} {l : List AV} (ys : List Nat) (t : TypeId) {n : Nat} (hn : n = ys.length) (hl : l = W .u64 (ys.map fun n : Nat => (n : Int))) : IsN (h.new ⟨some t, 1, l⟩) (.sl (some h.next) 0 n (some n)) ys := by
  subst hl
  have := IsW.lit (t := t) (k := .u64) (h := h) (ys.map fun n : Nat => (n : Int))
  subst hn
  simpa [IsN] using this
theorem IsG.isN {b : Nat} {h : H} {v : AV} {xs : List Nat} (hv : IsG b h v xs) : IsN h v xs := IsF.isW hv
theorem IsG.mono {b : Nat} {h h' : H} {v : AV} {xs : List Nat} (hv : IsG b h v xs) (hl : h.le h') : IsG b h' v xs := IsF.mono hv hl
theorem H.le_old {a h h' : H} (ha : a.wf) (k : a.le h) (hn : h.next ≤ h'.next) (ho : ∀ i r, i < a.next → h.rows i = some r → h'.rows i = some r) : a.le h' :=
  ⟨Nat.le_trans k.1 hn, fun i r e => ho i r (H.row_lt ha e) (k.2 i r e)⟩
/-- append, onto a row made since a. -/
theorem app_num {a h : H} {K : AV → H → Prop} {s x : AV} {xs ys : List Nat} (ha : a.wf) (hw : h.wf) (hah : a.le h) (hs : IsG a.next h s xs) (hx : IsN h x ys) (hl : xs.length + ys.length ≤ 17592186044416)
    (hk : ∀ v h', h'.wf → a.le h' → IsG a.next h' v (xs ++ ys) → K v h') : appK 23 1 8 s x h K := by
  refine app_own hw hs hx hah.1 ?_ ?_ (fun v h' w' hv hn ho => hk v h' w' (H.le_old ha hah hn ho) ?_)
  · simp; omega
  · simp; omega
  · simpa [IsG] using hv
theorem app_lit {a h : H} {K : AV → H → Prop} {s : AV} {xs : List Nat} {l : List AV} {n : Nat} (ys : List Nat) (ha : a.wf) (hw : h.wf) (hah : a.le h) (hs : IsG a.next h s xs) (hn : n = ys.length) (hy : l = W .u64 (ys.map fun n : Nat => (n : Int))) (hl : xs.length + ys.length ≤ 17592186044416)
    (hk : ∀ v h', h'.wf → a.le h' → IsG a.next h' v (xs ++ ys) → K v h') : appK 23 1 8 s (.sl (some h.next) 0 n (some n)) (h.new ⟨some 23, 1, l⟩) K :=
  app_num ha (H.wf_new hw _) (H.le_new hw hah _) (hs.mono (H.le_new hw (H.le_refl h) _)) (IsN.lit ys _ hn hy) hl hk
theorem IsG.made {b : Nat} {h : H} (hb : b ≤ h.next) (n : Nat) : IsG b (h.new ⟨some 23, 1, zs [AV.int .u64 0] n⟩) (.sl (some h.next) 0 n (some n)) (List.replicate n 0) := by
  have := IsF.made (t := 23) (k := .u64) hb n
  simpa [IsG] using this
theorem IsG.made0 {b : Nat} {h : H} (hb : b ≤ h.next) (n : Nat) : IsG b (h.new ⟨some 23, 1, zs [AV.int .u64 0] n⟩) (.sl (some h.next) 0 0 (some n)) [] := IsF.made0 hb n
theorem IsG.put {b : Nat} {h : H} {id : Option Nat} {n : Nat} {c : Option Nat} {xs : List Nat} (hw : h.wf) (hv : IsG b h (.sl id 0 n c) xs) {j : Nat} (hj : j < xs.length) : ∃ i r, id = some i ∧ b ≤ i ∧ i < h.next ∧ h.rows i = some r ∧ r.own ≠ none ∧ j + 1 ≤ r.cells.length ∧
    ∀ x : Nat, IsG b (h.set i { r with cells := putAt r.cells j [AV.int .u64 x] }) (.sl id 0 n c) (xs.set j x) := by
  obtain ⟨i, r, h1, h2, h3, h4, h5, h6, h7⟩ := IsF.put hw hv (j := j) (by simpa using hj)
  refine ⟨i, r, h1, h2, h3, h4, h5, h6, fun x => ?_⟩
  have := h7 x
  unfold IsG
  rw [List.map_set]
  exact this
theorem IsG.form {b : Nat} {h : H} {v : AV} {xs : List Nat} (hv : IsG b h v xs) : ∃ id c, v = .sl id 0 xs.length c := by
  obtain ⟨id, c, e, _⟩ := hv
  exact ⟨id, c, by simpa using e⟩
end Ab
end Go.Proofs.Ytnmnkocibjdhjaa
namespace Go.Proofs.Ytnmnkocibjdhjaa
namespace Ab
open Go Go.RowKit
set_option linter.unusedSimpArgs false
set_option linter.unusedVariables false
attribute [local go_sem ↓] x_mv x_pick x_bin x_beq x_peq x_seq x_cat x_aeq x_idxS x_un x_cvI x_idx x_idxA x_fld x_ld x_st x_nn x_prt x_slc x_mk x_bsl x_bld x_box x_alloc x_len x_capo x_mnx x_app x_cpy x_mkf x_ext x_call x_callV x_bad s_none s_some s_nil s_cons s_chks w_skip w_reg tP_fin tP_no tP_alt w_seq w_cond w_block w_exit w_ret t_normal t_exit t_ret b_normal b_ret b_exit n_normal n_exit n_ret p_normal p_ret f_nil f_t f_c k_ops k_chk k_fin
attribute [local go_sem] e_t e_c e_f u_some u_none u_at env_at k_v k_pick k_add k_sub k_mul k_quo k_rem k_and k_or k_xor k_shl k_shr k_eql k_neq k_lss k_leq k_gtr k_geq k_beq k_peqn k_peqs k_neg k_not k_com k_cvI k_idxS k_idx k_idxA k_idxG k_ldG k_gld k_seq k_cat k_aeq k_eqs k_fld k_ld1 k_ldn k_get k_gets k_sti k_stb k_stp k_sts k_stf k_sta k_put k_nn k_prt1 k_prtn k_slc_a k_slc_b k_slc_c k_mk k_agg k_bsl k_box k_len k_lenS k_cap k_max k_min k_ext k_callV k_true k_false k_gtt k_gtf k_gft k_gsk k_gff k_lit1i k_lit2i k_lit3i k_c0 k_c1 k_ck List.getElem?_cons_zero List.getElem?_cons_succ List.getElem?_nil Option.getD_some Option.getD_none tupOf List.map_cons List.map_nil Option.map_some Option.map_none List.nil_append List.cons_append List.append_nil Nat.mul_one Int.toNat_natCast Nat.zero_add
theorem norm_calls {v : AV} {xs : List Nat} {h : H} {K : AV → H → Prop} (hv : IsN h v xs) (hlen : xs.length < 4611686018427387904)
    (hk : ∀ r k, k ≤ xs.length → IsN h r (xs.take k) → (∀ x ∈ xs.drop k, x = 0) → (∀ x, (xs.take k).getLast? = some x → x ≠ 0) → K r h) : ACalls Try.prog 84 [v] h K := by
  obtain ⟨id, off, c, rfl⟩ := hv.form
  refine in_ref02_norm (by simp) fun hw => ?_
  unfold c_ref02_norm
  simp only [go_sem, ↓reduceIte, Nat.reduceEqDiff, Nat.reduceAdd, Bool.false_eq_true, Int.reduceToNat]
  refine ⟨fun n ρ h' => h' = h ∧ ρ 0 = .sl id off xs.length c ∧ ρ 3 = .int .i64 (n : Int) ∧ n ≤ xs.length ∧ (∀ x ∈ xs.drop n, x = 0), xs.length, ⟨rfl, rfl, rfl, Nat.le_refl _, by simp⟩, ?_⟩
  rintro k ρ h' ⟨rfl, h0, h3, hk1, hz⟩
  have fin : (∀ x, (xs.take k).getLast? = some x → x ≠ 0) → K (.sl id off k c) h' := fun hl => hk _ k hk1 (hv.take hk1) hz hl
  rcases Nat.eq_zero_or_pos k with rfl | hp
  · have hd : decide ((0 : Int) < ((0 : Nat) : Int)) = false := by decide
    simp only [go_sem, ↓reduceIte, Nat.reduceEqDiff, Nat.reduceAdd, Bool.false_eq_true, Int.reduceToNat, h0, h3, hd]
    refine ⟨by omega, by omega, hv.row, ?_⟩
    intro _
    exact fin (by simp)
  · have hd : decide ((0 : Int) < (k : Int)) = true := by simp; omega
    obtain ⟨i, rfl, _, hg⟩ := hv.at (j := k - 1) (by omega)
    have hw1 : IntKind.i64.wrap ((k : Int) - 1) = ((k - 1 : Nat) : Int) := by rw [wI] <;> omega
    simp only [go_sem, ↓reduceIte, Nat.reduceEqDiff, Nat.reduceAdd, Bool.false_eq_true, Int.reduceToNat, h0, h3, hd, hw1]
    refine ⟨by omega, by omega, ?_⟩
    simp only [go_sem, ↓reduceIte, Nat.reduceEqDiff, Nat.reduceAdd, Bool.false_eq_true, Int.reduceToNat, Int.toNat_natCast, Nat.mul_one, hg]
    by_cases hx : xs[k - 1] = 0
    · have he : (((xs[k - 1] : Nat) : Int) == 0) = true := by simp [hx]
      simp only [go_sem, ↓reduceIte, Nat.reduceEqDiff, Nat.reduceAdd, Bool.false_eq_true, Int.reduceToNat, h0, h3, he, hw1]
      refine ⟨k - 1, by omega, by simp, by simp, by simp, by omega, fun x hm => ?_⟩
      rw [List.drop_eq_getElem_cons (by omega)] at hm
      rcases List.mem_cons.1 hm with rfl | hm
      · exact hx
      · exact hz x (by rwa [show k - 1 + 1 = k from by omega] at hm)
    · have he : (((xs[k - 1] : Nat) : Int) == 0) = false := by simp; omega
      simp only [go_sem, ↓reduceIte, Nat.reduceEqDiff, Nat.reduceAdd, Bool.false_eq_true, Int.reduceToNat, h0, h3, he]
      refine ⟨by omega, by omega, hv.row, ?_⟩
      intro _
      refine fin fun x hl => ?_
      rw [List.getLast?_eq_getElem?, List.length_take, Nat.min_eq_left hk1, List.getElem?_take, if_pos (by omega), List.getElem?_eq_getElem (by omega)] at hl
      injection hl with hl
      omega
end Ab
end Go.Proofs.Ytnmnkocibjdhjaa
namespace Go.Proofs.Ytnmnkocibjdhjaa
namespace Ab
open Go Go.RowKit
set_option linter.unusedSimpArgs false
set_option linter.unusedVariables false
attribute [local go_sem ↓] x_mv x_pick x_bin x_beq x_peq x_seq x_cat x_aeq x_idxS x_un x_cvI x_idx x_idxA x_fld x_ld x_st x_nn x_prt x_slc x_mk x_bsl x_bld x_box x_alloc x_len x_capo x_mnx x_app x_cpy x_mkf x_ext x_call x_callV x_bad s_none s_some s_nil s_cons s_chks w_skip w_reg tP_fin tP_no tP_alt w_seq w_cond w_block w_exit w_ret t_normal t_exit t_ret b_normal b_ret b_exit n_normal n_exit n_ret p_normal p_ret f_nil f_t f_c k_ops k_chk k_fin
attribute [local go_sem] e_t e_c e_f u_some u_none u_at env_at k_v k_pick k_add k_sub k_mul k_quo k_rem k_and k_or k_xor k_shl k_shr k_eql k_neq k_lss k_leq k_gtr k_geq k_beq k_peqn k_peqs k_neg k_not k_com k_cvI k_idxS k_idx k_idxA k_idxG k_ldG k_gld k_seq k_cat k_aeq k_eqs k_fld k_ld1 k_ldn k_get k_gets k_sti k_stb k_stp k_sts k_stf k_sta k_put k_nn k_prt1 k_prtn k_slc_a k_slc_b k_slc_c k_mk k_agg k_bsl k_box k_len k_lenS k_cap k_max k_min k_ext k_callV k_true k_false k_gtt k_gtf k_gft k_gsk k_gff k_lit1i k_lit2i k_lit3i k_c0 k_c1 k_ck List.getElem?_cons_zero List.getElem?_cons_succ List.getElem?_nil Option.getD_some Option.getD_none tupOf List.map_cons List.map_nil Option.map_some Option.map_none List.nil_append List.cons_append List.append_nil Nat.mul_one Int.toNat_natCast Nat.zero_add
theorem rem32 {x : Nat} : ((x : Int)).tmod 4294967296 = ((x % 4294967296 : Nat) : Int) := tmodN (b := 4294967296)
theorem quo32 {x : Nat} (hx : x < 18446744073709551616) : IntKind.u64.wrap (((x : Int)).tdiv 4294967296) = ((x / 4294967296 : Nat) : Int) := by
  rw [show ((x : Int)).tdiv 4294967296 = ((x / 4294967296 : Nat) : Int) from tdivN (b := 4294967296)]
  rw [wU] <;> omega
theorem incI {i : Nat} (hi : i < 9223372036854775807) : IntKind.i64.wrap ((i : Int) + 1) = ((i + 1 : Nat) : Int) := by rw [wI] <;> omega
theorem decI {i : Nat} (hi : 0 < i) (hi2 : i < 9223372036854775807) : IntKind.i64.wrap ((i : Int) - 1) = ((i - 1 : Nat) : Int) := by rw [wI] <;> omega
theorem addU {a b : Nat} (h : a + b < 18446744073709551616) : IntKind.u64.wrap ((a : Int) + (b : Int)) = ((a + b : Nat) : Int) := by rw [wU] <;> omega
theorem mulU {a b : Nat} (h : a * b < 18446744073709551616) : IntKind.u64.wrap ((a : Int) * (b : Int)) = ((a * b : Nat) : Int) := by
  rw [← Int.natCast_mul, wU] <;> omega
theorem ltT {a b : Nat} (h : a < b) : decide ((a : Int) < (b : Int)) = true := by simp; omega
theorem ltF {a b : Nat} (h : b ≤ a) : decide ((a : Int) < (b : Int)) = false := by simp; omega
theorem norm_num {v : AV} {xs : List Nat} {h : H} {K : AV → H → Prop} (hv : IsN h v xs) (hd : ∀ x ∈ xs, x < 4294967296) (hlen : xs.length < 4611686018427387904)
    (hk : ∀ r, Num 4294967296 h r (val 4294967296 xs) → K r h) : ACalls Try.prog 84 [v] h K :=
  norm_calls hv hlen fun r k _ hr hz ht => hk r ⟨xs.take k, hr, fun x hx => hd x (List.mem_of_mem_take hx), ht, val_take 4294967296 xs k hz⟩
theorem From_calls {v : AV} {ws : List Nat} {h : H} {K : AV → H → Prop} (hv : IsN h v ws) (hd : ∀ x ∈ ws, x < 18446744073709551616) (hlen : ws.length ≤ 1099511627776)
    (hk : ∀ r h', h'.wf → h.le h' → Num 4294967296 h' r (val 18446744073709551616 ws) → K r h') : ACalls Try.prog 85 [v] h K := by
  obtain ⟨id, off, c, rfl⟩ := hv.form
  refine in_ref02_From (by simp) fun hw => ?_
  unfold c_ref02_From
  have hw0 : IntKind.i64.wrap (2 * (ws.length : Int)) = ((2 * ws.length : Nat) : Int) := by rw [wI] <;> omega
  simp only [go_sem, ↓reduceIte, Nat.reduceEqDiff, Nat.reduceAdd, Bool.false_eq_true, Int.reduceToNat, hw0]
  refine ⟨by omega, by omega, by omega, ?_⟩
  refine ⟨fun n ρ h' => h'.wf ∧ h.le h' ∧ ρ 0 = .sl id off ws.length c ∧ ∃ i out s, n = ws.length - i ∧ i ≤ ws.length ∧ ρ 4 = .int .i64 (i : Nat) ∧ ρ 3 = s ∧ IsG h.next h' s out ∧ (∀ x ∈ out, x < 4294967296) ∧ out.length = 2 * i ∧ val 4294967296 out = val 18446744073709551616 (ws.take i), ws.length,
    ⟨H.wf_new hw _, H.le_new hw (H.le_refl h) _, rfl, 0, [], _, by omega, by omega, rfl, rfl, IsG.made0 (Nat.le_refl _) _, by simp, rfl, rfl⟩, ?_⟩
  rintro n ρ h' ⟨hw', hle, h0, i, out, s, rfl, hi, h4, h3, hs, hod, hol, hov⟩
  rcases Nat.lt_or_ge i ws.length with hlt | hge
  · have hc : decide ((i : Int) < (ws.length : Int)) = true := by simp; omega
    obtain ⟨j, rfl, _, hg⟩ := (hv.mono hle).at hlt
    have hwd := hd _ (List.getElem_mem hlt)
    generalize hx : ws[i] = x at hg hwd
    have e2 := quo32 hwd
    simp only [go_sem, ↓reduceIte, Nat.reduceEqDiff, Nat.reduceAdd, Bool.false_eq_true, Int.reduceToNat, h0, h3, h4, hc]
    refine ⟨by omega, by omega, ?_⟩
    simp only [go_sem, ↓reduceIte, Nat.reduceEqDiff, Nat.reduceAdd, Bool.false_eq_true, Int.reduceToNat, h0, h4, hg]
    refine ⟨by omega, by omega, by omega, ?_⟩
    simp only [go_sem, ↓reduceIte, Nat.reduceEqDiff, Nat.reduceAdd, Bool.false_eq_true, Int.reduceToNat, hg, rem32, e2]
    refine ⟨by omega, ?_⟩
    refine app_lit [x % 4294967296, x / 4294967296] hw hw' hle hs rfl rfl (by simp; omega) fun v' h2 hw2 hle2 hv2 => ?_
    have e3 : IntKind.i64.wrap ((i : Int) + 1) = ((i + 1 : Nat) : Int) := by rw [wI] <;> omega
    simp only [go_sem, ↓reduceIte, Nat.reduceEqDiff, Nat.reduceAdd, Bool.false_eq_true, Int.reduceToNat, h0, h4, e3]
    refine ⟨_, ?_, hw2, hle2, by trivial, i + 1, _, v', rfl, by omega, rfl, rfl, hv2, ?_, by simp; omega, ?_⟩
    · omega
    · intro y hy
      rcases List.mem_append.1 hy with hy | hy
      · exact hod y hy
      · simp only [List.mem_cons, List.not_mem_nil, or_false] at hy
        omega
    · rw [val_append, hov, hol, val_take_succ 18446744073709551616 ws i hlt, hx, show 4294967296 ^ (2 * i) = 18446744073709551616 ^ i from by rw [Nat.pow_mul]]
      simp only [val]
      congr 2
      omega
  · have hc : decide ((i : Int) < (ws.length : Int)) = false := by simp; omega
    simp only [go_sem, ↓reduceIte, Nat.reduceEqDiff, Nat.reduceAdd, Bool.false_eq_true, Int.reduceToNat, h0, h3, h4, hc]
    refine norm_num hs.isN hod (by omega) fun r hr => ?_
    simp only [go_sem, ↓reduceIte, Nat.reduceEqDiff, Nat.reduceAdd, Bool.false_eq_true, Int.reduceToNat]
    intro _
    refine hk r h' hw' hle ?_
    rw [hov, List.take_of_length_le hge] at hr
    exact hr
theorem Small_calls {x : Nat} {h : H} {K : AV → H → Prop} (hx : x < 18446744073709551616)
    (hk : ∀ r h', h'.wf → h.le h' → Num 4294967296 h' r x → K r h') : ACalls Try.prog 51 [.int .u64 (x : Int)] h K := by
  refine in_ref02_Small (by simp) fun hw => ?_
  unfold c_ref02_Small
  simp only [go_sem, ↓reduceIte, Nat.reduceEqDiff, Nat.reduceAdd, Bool.false_eq_true, Int.reduceToNat]
  refine From_calls (IsN.lit [x] _ rfl rfl) (by simpa using hx) (by simp) fun r h' hw' hle hr => ?_
  simp only [go_sem, ↓reduceIte, Nat.reduceEqDiff, Nat.reduceAdd, Bool.false_eq_true, Int.reduceToNat]
  intro _
  refine hk r h' hw' (H.le_trans (H.le_new hw (H.le_refl h) _) hle) ?_
  simpa [val] using hr
end Ab
end Go.Proofs.Ytnmnkocibjdhjaa
namespace Go.Proofs.Ytnmnkocibjdhjaa
namespace Ab
open Go Go.RowKit
set_option linter.unusedSimpArgs false
set_option linter.unusedVariables false
attribute [local go_sem ↓] x_mv x_pick x_bin x_beq x_peq x_seq x_cat x_aeq x_idxS x_un x_cvI x_idx x_idxA x_fld x_ld x_st x_nn x_prt x_slc x_mk x_bsl x_bld x_box x_alloc x_len x_capo x_mnx x_app x_cpy x_mkf x_ext x_call x_callV x_bad s_none s_some s_nil s_cons s_chks w_skip w_reg tP_fin tP_no tP_alt w_seq w_cond w_block w_exit w_ret t_normal t_exit t_ret b_normal b_ret b_exit n_normal n_exit n_ret p_normal p_ret f_nil f_t f_c k_ops k_chk k_fin
attribute [local go_sem] e_t e_c e_f u_some u_none u_at env_at k_v k_pick k_add k_sub k_mul k_quo k_rem k_and k_or k_xor k_shl k_shr k_eql k_neq k_lss k_leq k_gtr k_geq k_beq k_peqn k_peqs k_neg k_not k_com k_cvI k_idxS k_idx k_idxA k_idxG k_ldG k_gld k_seq k_cat k_aeq k_eqs k_fld k_ld1 k_ldn k_get k_gets k_sti k_stb k_stp k_sts k_stf k_sta k_put k_nn k_prt1 k_prtn k_slc_a k_slc_b k_slc_c k_mk k_agg k_bsl k_box k_len k_lenS k_cap k_max k_min k_ext k_callV k_true k_false k_gtt k_gtf k_gft k_gsk k_gff k_lit1i k_lit2i k_lit3i k_c0 k_c1 k_ck List.getElem?_cons_zero List.getElem?_cons_succ List.getElem?_nil Option.getD_some Option.getD_none tupOf List.map_cons List.map_nil Option.map_some Option.map_none List.nil_append List.cons_append List.append_nil Nat.mul_one Int.toNat_natCast Nat.zero_add
/-- Below every number that the claims do not reach. -/
def bigL : Nat := 1000000
structure Big (x : Nat) : Prop where
  lt : x < 4294967296 ^ bigL
theorem Big.le {x y : Nat} (h : Big y) (hx : x ≤ y) : Big x := ⟨Nat.lt_of_le_of_lt hx h.lt⟩
theorem lt_big {x k : Nat} (h : x < 4294967296 ^ k) (hk : k ≤ 1000000) : Big x := ⟨Nat.lt_of_lt_of_le h (Nat.pow_le_pow_right (by omega) (show k ≤ bigL from hk))⟩
theorem lt_big64 {x k : Nat} (h : x < 18446744073709551616 ^ k) (hk : k ≤ 500000) : Big x := by
  refine lt_big (k := 2 * k) ?_ (by omega)
  rw [Nat.pow_mul]
  exact h
theorem word_big {x : Nat} (h : x < 18446744073709551616) : Big x := lt_big64 (k := 1) (by omega) (by omega)
theorem Num.open {h : H} {v : AV} {x : Nat} (hv : Num 4294967296 h v x) (hx : Big x) : ∃ xs : List Nat, IsN h v xs ∧ (∀ a ∈ xs, a < 4294967296) ∧ (∀ a, xs.getLast? = some a → a ≠ 0) ∧ val 4294967296 xs = x ∧ xs.length ≤ 1000000 := by
  obtain ⟨xs, h1, h2, h3, h4⟩ := hv
  exact ⟨xs, h1, h2, h3, h4, show xs.length ≤ bigL from digits_le 4294967296 (by omega) h3 (by rw [h4]; exact hx.lt)⟩
def cmpI (x y : Nat) : Int := if x < y then -1 else if x = y then 0 else 1
theorem val_split (B : Nat) (xs : List Nat) (k : Nat) (h : k < xs.length) : val B xs = val B (xs.take k) + B ^ k * (xs[k] + B * val B (xs.drop (k + 1))) := by
  rw [val_cut B xs k (Nat.le_of_lt h)]
  rw [List.drop_eq_getElem_cons h]
  rfl
theorem val_lt_at (B : Nat) (hB : 0 < B) {xs ys : List Nat} (hx : ∀ a ∈ xs, a < B) (k : Nat) (h1 : k < xs.length) (h2 : k < ys.length) (hd : xs.drop (k + 1) = ys.drop (k + 1)) (hl : xs[k] < ys[k]) : val B xs < val B ys := by
  rw [val_split B xs k h1, val_split B ys k h2, hd]
  have := val_lt_take B hB xs hx k
  generalize B * val B (ys.drop (k + 1)) = d
  have h3 : B ^ k * (xs[k] + 1 + d) ≤ B ^ k * (ys[k] + d) := Nat.mul_le_mul_left _ (by omega)
  have h4 : B ^ k * (xs[k] + 1 + d) = B ^ k * (xs[k] + d) + B ^ k := by rw [← Nat.mul_succ]; congr 1; omega
  omega
theorem Cmp_calls {v u : AV} {x y : Nat} {h : H} {K : AV → H → Prop} (nv : Num 4294967296 h v x) (nu : Num 4294967296 h u y) (hx : Big x) (hy : Big y)
    (hk : K (.int .i64 (cmpI x y)) h) : ACalls Try.prog 81 [v, u] h K := by
  obtain ⟨xs, hv, hxd, hxt, rfl, hxl⟩ := nv.open hx
  obtain ⟨ys, hu, hyd, hyt, rfl, hyl⟩ := nu.open hy
  obtain ⟨id, off, c, rfl⟩ := hv.form
  obtain ⟨id', off', c', rfl⟩ := hu.form
  refine in_ref02_Cmp (by simp) fun hw => ?_
  unfold c_ref02_Cmp
  simp only [go_sem, ↓reduceIte, Nat.reduceEqDiff, Nat.reduceAdd, Bool.false_eq_true, Int.reduceToNat]
  refine cond_split (fun hc => ?_) (fun hc => ?_)
  · have hne : xs.length ≠ ys.length := by intro e; simp [e] at hc
    simp only [go_sem, ↓reduceIte, Nat.reduceEqDiff, Nat.reduceAdd, Bool.false_eq_true, Int.reduceToNat]
    refine cond_split (fun hc => ?_) (fun hc => ?_)
    · have hlt : xs.length < ys.length := by simp at hc; omega
      simp only [go_sem, ↓reduceIte, Nat.reduceEqDiff, Nat.reduceAdd, Bool.false_eq_true, Int.reduceToNat]
      intro _
      have := digits_lt_iff 4294967296 (by omega) hxd hyt hlt
      simpa [cmpI, this] using hk
    · have hlt : ys.length < xs.length := by simp at hc; omega
      simp only [go_sem, ↓reduceIte, Nat.reduceEqDiff, Nat.reduceAdd, Bool.false_eq_true, Int.reduceToNat]
      intro _
      have := digits_lt_iff 4294967296 (by omega) hyd hxt hlt
      have e : cmpI (val 4294967296 xs) (val 4294967296 ys) = 1 := by unfold cmpI; rw [if_neg (by omega), if_neg (by omega)]
      simpa [e] using hk
  · have heq : xs.length = ys.length := by simp at hc; omega
    simp only [go_sem, ↓reduceIte, Nat.reduceEqDiff, Nat.reduceAdd, Bool.false_eq_true, Int.reduceToNat]
    refine ⟨fun n ρ h' => h' = h ∧ ρ 0 = .sl id off xs.length c ∧ ρ 1 = .sl id' off' ys.length c' ∧ ρ 5 = .int .i64 ((n : Int) - 1) ∧ n ≤ xs.length ∧ xs.drop n = ys.drop n, xs.length,
      ⟨rfl, rfl, rfl, ?_, Nat.le_refl _, by rw [List.drop_length, heq, List.drop_length]⟩, ?_⟩
    · simp only [go_sem, ↓reduceIte, Nat.reduceEqDiff, Nat.reduceAdd, Bool.false_eq_true, Int.reduceToNat]
      rw [wI] <;> omega
    rintro n ρ h' ⟨rfl, h0, h1, h5, hn, hd⟩
    rcases Nat.eq_zero_or_pos n with rfl | hp
    · have hc : decide ((0 : Int) ≤ ((0 : Nat) : Int) - 1) = false := by decide
      simp only [go_sem, ↓reduceIte, Nat.reduceEqDiff, Nat.reduceAdd, Bool.false_eq_true, Int.reduceToNat, h0, h1, h5, hc]
      intro _
      have : xs = ys := by simpa using hd
      subst this
      simpa [cmpI] using hk
    · have hc : decide ((0 : Int) ≤ (n : Int) - 1) = true := by simp; omega
      have e5 : (n : Int) - 1 = ((n - 1 : Nat) : Int) := by omega
      obtain ⟨i, rfl, _, hg⟩ := hv.at (j := n - 1) (by omega)
      obtain ⟨i', rfl, _, hg'⟩ := hu.at (j := n - 1) (by omega)
      rw [e5] at h5 hc
      have hd' : xs.drop (n - 1 + 1) = ys.drop (n - 1 + 1) := by rw [show n - 1 + 1 = n from by omega]; exact hd
      simp only [go_sem, ↓reduceIte, Nat.reduceEqDiff, Nat.reduceAdd, Bool.false_eq_true, Int.reduceToNat, h0, h1, h5, hc]
      refine ⟨by omega, by omega, ?_⟩
      simp only [go_sem, ↓reduceIte, Nat.reduceEqDiff, Nat.reduceAdd, Bool.false_eq_true, Int.reduceToNat, h0, h1, h5, hg]
      refine ⟨by omega, by omega, ?_⟩
      simp only [go_sem, ↓reduceIte, Nat.reduceEqDiff, Nat.reduceAdd, Bool.false_eq_true, Int.reduceToNat, h0, h1, h5, hg, hg']
      refine cond_split (fun hc => ?_) (fun hc => ?_)
      · simp only [go_sem, ↓reduceIte, Nat.reduceEqDiff, Nat.reduceAdd, Bool.false_eq_true, Int.reduceToNat]
        intro _
        have := val_lt_at 4294967296 (by omega) hxd (n - 1) (by omega) (by omega) hd' (by simp at hc; omega)
        simpa [cmpI, this] using hk
      · have hc1 : ys[n - 1] ≤ xs[n - 1] := by simp at hc; omega
        simp only [go_sem, ↓reduceIte, Nat.reduceEqDiff, Nat.reduceAdd, Bool.false_eq_true, Int.reduceToNat, h0, h1, h5, hg, hg']
        refine ⟨by omega, by omega, by omega, by omega, ?_⟩
        refine cond_split (fun hc => ?_) (fun hc => ?_)
        · simp only [go_sem, ↓reduceIte, Nat.reduceEqDiff, Nat.reduceAdd, Bool.false_eq_true, Int.reduceToNat]
          intro _
          have := val_lt_at 4294967296 (by omega) hyd (n - 1) (by omega) (by omega) hd'.symm (by simp at hc; omega)
          have e : cmpI (val 4294967296 xs) (val 4294967296 ys) = 1 := by unfold cmpI; rw [if_neg (by omega), if_neg (by omega)]
          simpa [e] using hk
        · have e : xs[n - 1] = ys[n - 1] := by simp at hc; omega
          have e6 : IntKind.i64.wrap (((n - 1 : Nat) : Int) - 1) = ((n - 1 : Nat) : Int) - 1 := by rw [wI] <;> omega
          simp only [go_sem, ↓reduceIte, Nat.reduceEqDiff, Nat.reduceAdd, Bool.false_eq_true, Int.reduceToNat, h0, h1, h5, e6]
          refine ⟨n - 1, by omega, by trivial, by trivial, by trivial, by first | rfl | trivial | assumption, by omega, ?_⟩
          rw [List.drop_eq_getElem_cons (by omega), List.drop_eq_getElem_cons (l := ys) (by omega), e, hd']
end Ab
end Go.Proofs.Ytnmnkocibjdhjaa
namespace Go.Proofs.Ytnmnkocibjdhjaa
namespace Ab
open Go Go.RowKit
set_option linter.unusedSimpArgs false
set_option linter.unusedVariables false
attribute [local go_sem ↓] x_mv x_pick x_bin x_beq x_peq x_seq x_cat x_aeq x_idxS x_un x_cvI x_idx x_idxA x_fld x_ld x_st x_nn x_prt x_slc x_mk x_bsl x_bld x_box x_alloc x_len x_capo x_mnx x_app x_cpy x_mkf x_ext x_call x_callV x_bad s_none s_some s_nil s_cons s_chks w_skip w_reg tP_fin tP_no tP_alt w_seq w_cond w_block w_exit w_ret t_normal t_exit t_ret b_normal b_ret b_exit n_normal n_exit n_ret p_normal p_ret f_nil f_t f_c k_ops k_chk k_fin
attribute [local go_sem] e_t e_c e_f u_some u_none u_at env_at k_v k_pick k_add k_sub k_mul k_quo k_rem k_and k_or k_xor k_shl k_shr k_eql k_neq k_lss k_leq k_gtr k_geq k_beq k_peqn k_peqs k_neg k_not k_com k_cvI k_idxS k_idx k_idxA k_idxG k_ldG k_gld k_seq k_cat k_aeq k_eqs k_fld k_ld1 k_ldn k_get k_gets k_sti k_stb k_stp k_sts k_stf k_sta k_put k_nn k_prt1 k_prtn k_slc_a k_slc_b k_slc_c k_mk k_agg k_bsl k_box k_len k_lenS k_cap k_max k_min k_ext k_callV k_true k_false k_gtt k_gtf k_gft k_gsk k_gff k_lit1i k_lit2i k_lit3i k_c0 k_c1 k_ck List.getElem?_cons_zero List.getElem?_cons_succ List.getElem?_nil Option.getD_some Option.getD_none tupOf List.map_cons List.map_nil Option.map_some Option.map_none List.nil_append List.cons_append List.append_nil Nat.mul_one Int.toNat_natCast Nat.zero_add
theorem val_take_get (B : Nat) (xs : List Nat) (k : Nat) : val B (xs.take (k + 1)) = val B (xs.take k) + B ^ k * xs.getD k 0 := by
  rcases Nat.lt_or_ge k xs.length with h | h
  · rw [val_take_succ B xs k h, List.getD_eq_getElem?_getD, List.getElem?_eq_getElem h]
    rfl
  · rw [List.take_of_length_le (by omega), List.take_of_length_le h, List.getD_eq_getElem?_getD, List.getElem?_eq_none h]
    simp
theorem digit_snoc {B q s : Nat} (hB : 0 < B) : q * (s % B) + q * B * (s / B) = q * s := by
  rw [Nat.mul_assoc, ← Nat.mul_add, Nat.mod_add_div]
theorem Add_calls {v u : AV} {x y : Nat} {h : H} {K : AV → H → Prop} (nv : Num 4294967296 h v x) (nu : Num 4294967296 h u y) (hx : Big x) (hy : Big y)
    (hk : ∀ r h', h'.wf → h.le h' → Num 4294967296 h' r (x + y) → K r h') : ACalls Try.prog 98 [v, u] h K := by
  obtain ⟨xs, hv, hxd, hxt, rfl, hxl⟩ := nv.open hx
  obtain ⟨ys, hu, hyd, hyt, rfl, hyl⟩ := nu.open hy
  obtain ⟨id, off, c, rfl⟩ := hv.form
  obtain ⟨id', off', c', rfl⟩ := hu.form
  refine in_ref02_Add (by simp) fun hw => ?_
  unfold c_ref02_Add
  have e0 : IntKind.i64.wrap (max (xs.length : Int) (ys.length : Int) + 1) = ((max xs.length ys.length + 1 : Nat) : Int) := by rw [wI] <;> omega
  simp only [go_sem, ↓reduceIte, Nat.reduceEqDiff, Nat.reduceAdd, Bool.false_eq_true, Int.reduceToNat, e0]
  refine ⟨by omega, by omega, by omega, ?_⟩
  generalize hm : max xs.length ys.length = m
  refine ⟨fun n ρ h' => h'.wf ∧ h.le h' ∧ ρ 0 = .sl id off xs.length c ∧ ρ 1 = .sl id' off' ys.length c' ∧ ∃ i out s a, n = m + 1 - i ∧ i ≤ m + 1 ∧ ρ 7 = .int .i64 (i : Nat) ∧ ρ 6 = .int .u64 (a : Nat) ∧ a ≤ 1 ∧ (i = m + 1 → a = 0) ∧ ρ 5 = s ∧ IsG h.next h' s out ∧ (∀ x ∈ out, x < 4294967296) ∧ out.length = i ∧
      val 4294967296 out + 4294967296 ^ i * a = val 4294967296 (xs.take i) + val 4294967296 (ys.take i), m + 1,
    ⟨H.wf_new hw _, H.le_new hw (H.le_refl h) _, rfl, rfl, 0, [], _, 0, by omega, by omega, rfl, rfl, by omega, by omega, rfl, IsG.made0 (Nat.le_refl _) _, by simp, rfl, rfl⟩, ?_⟩
  rintro n ρ h' ⟨hw', hle, h0, h1, i, out, s, a, rfl, hi, h7, h6, ha, hae, h5, hs, hod, hol, hov⟩
  have e7 := incI (i := i) (by omega)
  -- what a round leaves
  have round : ∀ (t : Nat), t = a + xs.getD i 0 + ys.getD i 0 → i ≤ m → (∀ v' h2, h2.wf → h.le h2 → IsG h.next h2 v' (out ++ [t % 4294967296]) → ∃ k, k < m + 1 - i ∧ h2.wf ∧ h.le h2 ∧ True ∧ True ∧ ∃ i' out' s' a', k = m + 1 - i' ∧ i' ≤ m + 1 ∧ AV.int .i64 ((i + 1 : Nat) : Int) = .int .i64 (i' : Nat) ∧ AV.int .u64 ((t / 4294967296 : Nat) : Int) = .int .u64 (a' : Nat) ∧ a' ≤ 1 ∧ (i' = m + 1 → a' = 0) ∧ v' = s' ∧ IsG h.next h2 s' out' ∧ (∀ x ∈ out', x < 4294967296) ∧ out'.length = i' ∧
      val 4294967296 out' + 4294967296 ^ i' * a' = val 4294967296 (xs.take i') + val 4294967296 (ys.take i')) := by
    intro t ht him v' h2 hw2 hle2 hv2
    have hxi : xs.getD i 0 < 4294967296 := by
      rcases Nat.lt_or_ge i xs.length with hh | hh
      · rw [List.getD_eq_getElem?_getD, List.getElem?_eq_getElem hh]; exact hxd _ (List.getElem_mem hh)
      · rw [List.getD_eq_getElem?_getD, List.getElem?_eq_none hh]; decide
    have hyi : ys.getD i 0 < 4294967296 := by
      rcases Nat.lt_or_ge i ys.length with hh | hh
      · rw [List.getD_eq_getElem?_getD, List.getElem?_eq_getElem hh]; exact hyd _ (List.getElem_mem hh)
      · rw [List.getD_eq_getElem?_getD, List.getElem?_eq_none hh]; decide
    refine ⟨m + 1 - (i + 1), by omega, hw2, hle2, True.intro, True.intro, i + 1, _, v', t / 4294967296, rfl, by omega, rfl, rfl, by omega, ?_, rfl, hv2, ?_, by simp; omega, ?_⟩
    · intro e
      have e1 : xs.getD i 0 = 0 := by rw [List.getD_eq_getElem?_getD, List.getElem?_eq_none (by omega)]; rfl
      have e2 : ys.getD i 0 = 0 := by rw [List.getD_eq_getElem?_getD, List.getElem?_eq_none (by omega)]; rfl
      omega
    · intro z hz
      rcases List.mem_append.1 hz with hz | hz
      · exact hod z hz
      · simp only [List.mem_cons, List.not_mem_nil, or_false] at hz
        omega
    · rw [val_snoc, hol, val_take_get, val_take_get, Nat.pow_succ, Nat.add_assoc, digit_snoc (by omega), ht, Nat.mul_add, Nat.mul_add]
      omega
  rcases Nat.lt_or_ge i xs.length with hxi | hxi <;> rcases Nat.lt_or_ge i ys.length with hyi | hyi
  · obtain ⟨j, rfl, _, hg⟩ := (hv.mono hle).at hxi
    have hxb := hxd _ (List.getElem_mem hxi)
    have ex : xs.getD i 0 = xs[i] := by rw [List.getD_eq_getElem?_getD, List.getElem?_eq_getElem hxi]; rfl
    obtain ⟨j', rfl, _, hg'⟩ := (hu.mono hle).at hyi
    have hyb := hyd _ (List.getElem_mem hyi)
    have ey : ys.getD i 0 = ys[i] := by rw [List.getD_eq_getElem?_getD, List.getElem?_eq_getElem hyi]; rfl
    rw [ex, ey] at round
    generalize xs[i] = p at *
    generalize ys[i] = q at *
    have r := round (a + p + q) (by omega) (by omega)
    simp only [go_sem, ↓reduceIte, Nat.reduceEqDiff, Nat.reduceAdd, Bool.false_eq_true, Int.reduceToNat, h0, h1, h5, h6, h7, ltT hxi, ltT hyi, hg, addU (a := a) (b := p) (by omega), hg', addU (a := a + p) (b := q) (by omega), rem32]
    refine ⟨by omega, by omega, by omega, by omega, ?_⟩
    try simp only [go_sem, ↓reduceIte, Nat.reduceEqDiff, Nat.reduceAdd, Bool.false_eq_true, Int.reduceToNat, h0, h1, h5, h6, h7, ltT hxi, ltT hyi, hg, addU (a := a) (b := p) (by omega), hg', addU (a := a + p) (b := q) (by omega), rem32]
    refine ⟨by omega, ?_⟩
    refine app_lit [(a + p + q) % 4294967296] hw hw' hle hs rfl rfl (by simp; omega) fun v' h2 hw2 hle2 hv2 => ?_
    simp only [go_sem, ↓reduceIte, Nat.reduceEqDiff, Nat.reduceAdd, Bool.false_eq_true, Int.reduceToNat, h0, h1, h6, h7, e7, quo32 (x := a + p + q) (by omega)]
    refine ⟨by omega, ?_⟩
    exact r v' h2 hw2 hle2 hv2
  · obtain ⟨j, rfl, _, hg⟩ := (hv.mono hle).at hxi
    have hxb := hxd _ (List.getElem_mem hxi)
    have ex : xs.getD i 0 = xs[i] := by rw [List.getD_eq_getElem?_getD, List.getElem?_eq_getElem hxi]; rfl
    have ey : ys.getD i 0 = 0 := by rw [List.getD_eq_getElem?_getD, List.getElem?_eq_none hyi]; rfl
    rw [ex, ey] at round
    generalize xs[i] = p at *
    have r := round (a + p) (by omega) (by omega)
    simp only [go_sem, ↓reduceIte, Nat.reduceEqDiff, Nat.reduceAdd, Bool.false_eq_true, Int.reduceToNat, h0, h1, h5, h6, h7, ltT hxi, ltF hyi, hg, addU (a := a) (b := p) (by omega), rem32]
    refine ⟨by omega, by omega, ?_⟩
    try simp only [go_sem, ↓reduceIte, Nat.reduceEqDiff, Nat.reduceAdd, Bool.false_eq_true, Int.reduceToNat, h0, h1, h5, h6, h7, ltT hxi, ltF hyi, hg, addU (a := a) (b := p) (by omega), rem32]
    refine ⟨by omega, ?_⟩
    refine app_lit [(a + p) % 4294967296] hw hw' hle hs rfl rfl (by simp; omega) fun v' h2 hw2 hle2 hv2 => ?_
    simp only [go_sem, ↓reduceIte, Nat.reduceEqDiff, Nat.reduceAdd, Bool.false_eq_true, Int.reduceToNat, h0, h1, h6, h7, e7, quo32 (x := a + p) (by omega)]
    refine ⟨by omega, ?_⟩
    exact r v' h2 hw2 hle2 hv2
  · have ex : xs.getD i 0 = 0 := by rw [List.getD_eq_getElem?_getD, List.getElem?_eq_none hxi]; rfl
    obtain ⟨j', rfl, _, hg'⟩ := (hu.mono hle).at hyi
    have hyb := hyd _ (List.getElem_mem hyi)
    have ey : ys.getD i 0 = ys[i] := by rw [List.getD_eq_getElem?_getD, List.getElem?_eq_getElem hyi]; rfl
    rw [ex, ey] at round
    generalize ys[i] = q at *
    have r := round (a + q) (by omega) (by omega)
    simp only [go_sem, ↓reduceIte, Nat.reduceEqDiff, Nat.reduceAdd, Bool.false_eq_true, Int.reduceToNat, h0, h1, h5, h6, h7, ltF hxi, ltT hyi, hg', addU (a := a) (b := q) (by omega), rem32]
    refine ⟨by omega, by omega, ?_⟩
    try simp only [go_sem, ↓reduceIte, Nat.reduceEqDiff, Nat.reduceAdd, Bool.false_eq_true, Int.reduceToNat, h0, h1, h5, h6, h7, ltF hxi, ltT hyi, hg', addU (a := a) (b := q) (by omega), rem32]
    refine ⟨by omega, ?_⟩
    refine app_lit [(a + q) % 4294967296] hw hw' hle hs rfl rfl (by simp; omega) fun v' h2 hw2 hle2 hv2 => ?_
    simp only [go_sem, ↓reduceIte, Nat.reduceEqDiff, Nat.reduceAdd, Bool.false_eq_true, Int.reduceToNat, h0, h1, h6, h7, e7, quo32 (x := a + q) (by omega)]
    refine ⟨by omega, ?_⟩
    exact r v' h2 hw2 hle2 hv2
  · have ex := ltF hxi
    have ey := ltF hyi
    rcases Nat.eq_zero_or_pos a with ha | ha
    · have ha0 : decide ((0 : Int) < (a : Int)) = false := by simp; omega
      simp only [go_sem, ↓reduceIte, Nat.reduceEqDiff, Nat.reduceAdd, Bool.false_eq_true, Int.reduceToNat, h0, h1, h5, h6, h7, ex, ey, ha0]
      refine norm_num hs.isN hod (by omega) fun r hr => ?_
      simp only [go_sem, ↓reduceIte, Nat.reduceEqDiff, Nat.reduceAdd, Bool.false_eq_true, Int.reduceToNat]
      intro _
      refine hk r h' hw' hle ?_
      rw [List.take_of_length_le hxi, List.take_of_length_le hyi, ha] at hov
      simp only [Nat.mul_zero, Nat.add_zero] at hov
      rw [hov] at hr
      exact hr
    · have ex1 := ltF hxi
      have ey1 := ltF hyi
      have ex : xs.getD i 0 = 0 := by rw [List.getD_eq_getElem?_getD, List.getElem?_eq_none hxi]; rfl
      have ey : ys.getD i 0 = 0 := by rw [List.getD_eq_getElem?_getD, List.getElem?_eq_none hyi]; rfl
      rw [ex, ey] at round
      have r := round (a) (by omega) (by omega)
      have ha0 : decide ((0 : Int) < (a : Int)) = true := by simp; omega
      simp only [go_sem, ↓reduceIte, Nat.reduceEqDiff, Nat.reduceAdd, Bool.false_eq_true, Int.reduceToNat, h0, h1, h5, h6, h7, ex1, ey1, rem32, ha0]
      refine ⟨by omega, ?_⟩
      refine app_lit [(a) % 4294967296] hw hw' hle hs rfl rfl (by simp; omega) fun v' h2 hw2 hle2 hv2 => ?_
      simp only [go_sem, ↓reduceIte, Nat.reduceEqDiff, Nat.reduceAdd, Bool.false_eq_true, Int.reduceToNat, h0, h1, h6, h7, e7, quo32 (x := a) (by omega)]
      refine ⟨by omega, ?_⟩
      exact r v' h2 hw2 hle2 hv2
end Ab
end Go.Proofs.Ytnmnkocibjdhjaa
namespace Go.Proofs.Ytnmnkocibjdhjaa
namespace Ab
open Go Go.RowKit
set_option linter.unusedSimpArgs false
set_option linter.unusedVariables false
attribute [local go_sem ↓] x_mv x_pick x_bin x_beq x_peq x_seq x_cat x_aeq x_idxS x_un x_cvI x_idx x_idxA x_fld x_ld x_st x_nn x_prt x_slc x_mk x_bsl x_bld x_box x_alloc x_len x_capo x_mnx x_app x_cpy x_mkf x_ext x_call x_callV x_bad s_none s_some s_nil s_cons s_chks w_skip w_reg tP_fin tP_no tP_alt w_seq w_cond w_block w_exit w_ret t_normal t_exit t_ret b_normal b_ret b_exit n_normal n_exit n_ret p_normal p_ret f_nil f_t f_c k_ops k_chk k_fin
attribute [local go_sem] e_t e_c e_f u_some u_none u_at env_at k_v k_pick k_add k_sub k_mul k_quo k_rem k_and k_or k_xor k_shl k_shr k_eql k_neq k_lss k_leq k_gtr k_geq k_beq k_peqn k_peqs k_neg k_not k_com k_cvI k_idxS k_idx k_idxA k_idxG k_ldG k_gld k_seq k_cat k_aeq k_eqs k_fld k_ld1 k_ldn k_get k_gets k_sti k_stb k_stp k_sts k_stf k_sta k_put k_nn k_prt1 k_prtn k_slc_a k_slc_b k_slc_c k_mk k_agg k_bsl k_box k_len k_lenS k_cap k_max k_min k_ext k_callV k_true k_false k_gtt k_gtf k_gft k_gsk k_gff k_lit1i k_lit2i k_lit3i k_c0 k_c1 k_ck List.getElem?_cons_zero List.getElem?_cons_succ List.getElem?_nil Option.getD_some Option.getD_none tupOf List.map_cons List.map_nil Option.map_some Option.map_none List.nil_append List.cons_append List.append_nil Nat.mul_one Int.toNat_natCast Nat.zero_add
theorem val_set (B : Nat) (xs : List Nat) (k v : Nat) (h : k < xs.length) : val B (xs.set k v) + B ^ k * xs[k] = val B xs + B ^ k * v := by
  have h2 : k < (xs.set k v).length := by simpa using h
  rw [val_split B xs k h, val_split B (xs.set k v) k h2]
  simp only [List.getElem_set_self, List.take_set, List.drop_set, Nat.mul_add]
  rw [if_pos (by omega), List.set_eq_of_length_le (by simp; omega)]
  omega
theorem getD_set {xs : List Nat} {k j v : Nat} : (xs.set k v).getD j 0 = if j = k ∧ k < xs.length then v else xs.getD j 0 := by
  rw [List.getD_eq_getElem?_getD, List.getD_eq_getElem?_getD, List.getElem?_set]
  by_cases h : k = j
  · subst h
    by_cases h2 : k < xs.length
    · simp [h2]
    · simp [h2]
  · rw [if_neg h, if_neg (fun e => h e.1.symm)]
theorem getD_at {xs : List Nat} {k : Nat} (h : k < xs.length) : xs.getD k 0 = xs[k] := by rw [List.getD_eq_getElem?_getD, List.getElem?_eq_getElem h]; rfl
theorem mem_set_lt {B : Nat} {xs : List Nat} {k v : Nat} (h : ∀ x ∈ xs, x < B) (hv : v < B) : ∀ x ∈ xs.set k v, x < B := by
  intro x hx
  rcases List.mem_or_eq_of_mem_set hx with h1 | h1
  · exact h x h1
  · exact h1 ▸ hv
theorem fit32 {o x y c : Nat} (ho : o < 4294967296) (hx : x < 4294967296) (hy : y < 4294967296) (hc : c < 4294967296) : o + x * y + c < 18446744073709551616 ∧ (o + x * y + c) / 4294967296 < 4294967296 := by
  have h1 : x * y ≤ 4294967295 * 4294967295 := Nat.mul_le_mul (by omega) (by omega)
  constructor <;> omega
theorem Mul_calls {v u : AV} {x y : Nat} {h : H} {K : AV → H → Prop} (nv : Num 4294967296 h v x) (nu : Num 4294967296 h u y) (hx : Big x) (hy : Big y)
    (hk : ∀ r h', h'.wf → h.le h' → Num 4294967296 h' r (x * y) → K r h') : ACalls Try.prog 102 [v, u] h K := by
  obtain ⟨xs, hv, hxd, hxt, rfl, hxl⟩ := nv.open hx
  obtain ⟨ys, hu, hyd, hyt, rfl, hyl⟩ := nu.open hy
  obtain ⟨id, off, c, rfl⟩ := hv.form
  obtain ⟨id', off', c', rfl⟩ := hu.form
  refine in_ref02_Mul (by simp) fun hw => ?_
  unfold c_ref02_Mul
  have e0 : IntKind.i64.wrap ((xs.length : Int) + (ys.length : Int)) = ((xs.length + ys.length : Nat) : Int) := by rw [wI] <;> omega
  simp only [go_sem, ↓reduceIte, Nat.reduceEqDiff, Nat.reduceAdd, Bool.false_eq_true, Int.reduceToNat, e0]
  refine ⟨by omega, by omega, by omega, ?_⟩
  refine ⟨fun n ρ h' => h'.wf ∧ h.le h' ∧ ρ 0 = .sl id off xs.length c ∧ ρ 1 = .sl id' off' ys.length c' ∧ ∃ i out o c2, n = xs.length - i ∧ i ≤ xs.length ∧ ρ 6 = .int .i64 (i : Nat) ∧ ρ 5 = .sl o 0 (xs.length + ys.length) c2 ∧ IsG h.next h' (.sl o 0 (xs.length + ys.length) c2) out ∧ (∀ x ∈ out, x < 4294967296) ∧ out.length = xs.length + ys.length ∧
      (∀ k, i + ys.length ≤ k → out.getD k 0 = 0) ∧ val 4294967296 out = val 4294967296 (xs.take i) * val 4294967296 ys, xs.length,
    ⟨H.wf_new hw _, H.le_new hw (H.le_refl h) _, rfl, rfl, 0, List.replicate (xs.length + ys.length) 0, _, _, by omega, by omega, rfl, rfl, IsG.made (Nat.le_refl _) _, ?_, by simp, ?_, ?_⟩, ?_⟩
  · intro z hz
    rw [List.mem_replicate] at hz
    omega
  · intro k _
    simp [List.getD_eq_getElem?_getD, List.getElem?_replicate]
    split <;> rfl
  · rw [val_zero 4294967296 _ (fun z hz => (List.mem_replicate.1 hz).2)]
    simp [val]
  rintro n ρ h' ⟨hw', hle, h0, h1, i, out, o, c2, rfl, hi, h6, h5, hs, hod, hol, hoz, hov⟩
  rcases Nat.lt_or_ge i xs.length with hxi | hxi
  · simp only [go_sem, ↓reduceIte, Nat.reduceEqDiff, Nat.reduceAdd, Bool.false_eq_true, Int.reduceToNat, h0, h1, h5, h6, ltT hxi]
    have hxb := hxd _ (List.getElem_mem hxi)
    refine ⟨fun n ρ h' => h'.wf ∧ h.le h' ∧ ρ 0 = .sl id off xs.length c ∧ ρ 1 = .sl id' off' ys.length c' ∧ ρ 6 = .int .i64 (i : Nat) ∧ ρ 5 = .sl o 0 (xs.length + ys.length) c2 ∧ ∃ j out a, n = ys.length - j ∧ j ≤ ys.length ∧ ρ 8 = .int .i64 (j : Nat) ∧ ρ 7 = .int .u64 (a : Nat) ∧ a < 4294967296 ∧ IsG h.next h' (.sl o 0 (xs.length + ys.length) c2) out ∧ (∀ x ∈ out, x < 4294967296) ∧ out.length = xs.length + ys.length ∧
      (∀ k, i + ys.length ≤ k → out.getD k 0 = 0) ∧ val 4294967296 out + 4294967296 ^ (i + j) * a = val 4294967296 (xs.take i) * val 4294967296 ys + 4294967296 ^ i * (xs[i] * val 4294967296 (ys.take j)), ys.length,
      ⟨hw', hle, by first | rfl | trivial | assumption, by first | rfl | trivial | assumption, by first | rfl | trivial | assumption, by first | rfl | trivial | assumption, 0, out, 0, by omega, by omega, rfl, rfl, by omega, hs, hod, hol, hoz, ?_⟩, ?_⟩
    · rw [hov]; simp [val]
    rintro n ρ h' ⟨hw', hle, h0, h1, h6, h5, j, out, a, rfl, hj, h8, h7, ha, hs, hod, hol, hoz, hov⟩
    have eij : IntKind.i64.wrap ((i : Int) + (j : Int)) = ((i + j : Nat) : Int) := by rw [wI] <;> omega
    rcases Nat.lt_or_ge j ys.length with hyj | hyj
    · have hyb := hyd _ (List.getElem_mem hyj)
      obtain ⟨i1, rfl, _, hg⟩ := (hv.mono hle).at hxi
      obtain ⟨i2, rfl, _, hg'⟩ := (hu.mono hle).at hyj
      have hjo : i + j < out.length := by omega
      obtain ⟨i3, rfl, _, hgo⟩ := hs.isN.at hjo
      obtain ⟨i3', r, e3, hb3, hn3, hr3, ho3, hc3, hput⟩ := hs.put hw' hjo
      injection e3 with e3
      subst e3
      have hob := hod _ (List.getElem_mem hjo)
      have hset := val_set 4294967296 out (i + j)
      rw [Nat.zero_add] at hgo
      obtain ⟨f1, f2⟩ := fit32 hob hxb hyb ha
      have htk := val_take_succ 4294967296 ys j hyj
      have hsz := getD_at hjo
      generalize hx1 : xs[i] = p at *
      generalize hy1 : ys[j] = q at *
      generalize ho1 : out[i + j] = w at *
      simp only [go_sem, ↓reduceIte, Nat.reduceEqDiff, Nat.reduceAdd, Bool.false_eq_true, Int.reduceToNat, h0, h1, h5, h6, h7, h8, ltT hyj, eij, hg, hg', hgo, mulU (a := p) (b := q) (by omega), addU (a := w) (b := p * q) (by omega), addU (a := w + p * q) (b := a) (by omega), rem32, quo32 f1]
      refine ⟨by omega, by omega, by omega, by omega, by omega, by omega, by omega, by omega, by omega, ?_⟩
      have ej := incI (i := j) (by omega)
      simp only [go_sem, ↓reduceIte, Nat.reduceEqDiff, Nat.reduceAdd, Bool.false_eq_true, Int.reduceToNat, hr3, h0, h1, h5, h6, h8, ej, quo32 f1]
      refine ⟨ho3, hc3, by omega, ?_⟩
      refine ⟨ys.length - (j + 1), by omega, H.wf_set hw' hn3 _, H.le_set hw hle hb3 _, by first | rfl | trivial | assumption, by first | rfl | trivial | assumption, by first | rfl | trivial | assumption, by first | rfl | trivial | assumption, j + 1, _, _, rfl, by omega, rfl, rfl, f2, hput _, mem_set_lt hod (by omega), by simp; omega, fun k hk => ?_, ?_⟩
      · rw [getD_set, if_neg (by omega)]
        exact hoz k hk
      · have e1 := hset ((w + p * q + a) % 4294967296) hjo
        rw [ho1] at e1
        have e2 := digit_snoc (B := 4294967296) (q := 4294967296 ^ (i + j)) (s := w + p * q + a) (by omega)
        rw [show i + (j + 1) = i + j + 1 from rfl, Nat.pow_succ, htk]
        rw [Nat.mul_add, Nat.mul_add] at e2
        have e3 : 4294967296 ^ i * (p * (val 4294967296 (ys.take j) + 4294967296 ^ j * q)) = 4294967296 ^ i * (p * val 4294967296 (ys.take j)) + 4294967296 ^ (i + j) * (p * q) := by
          rw [Nat.mul_add, Nat.mul_add, Nat.pow_add, Nat.mul_left_comm p, Nat.mul_assoc]
        rw [e3]
        omega
    · have hjo : i + ys.length < out.length := by omega
      obtain ⟨i3', r, e3, hb3, hn3, hr3, ho3, hc3, hput⟩ := hs.put hw' hjo
      subst e3
      have eil : IntKind.i64.wrap ((i : Int) + (ys.length : Int)) = ((i + ys.length : Nat) : Int) := by rw [wI] <;> omega
      have ei := incI (i := i) (by omega)
      have hj' : j = ys.length := by omega
      subst hj'
      simp only [go_sem, ↓reduceIte, Nat.reduceEqDiff, Nat.reduceAdd, Bool.false_eq_true, Int.reduceToNat, h0, h1, h5, h6, h7, h8, ltF hyj, eil, hr3, ei]
      refine ⟨by omega, by omega, ho3, hc3, ?_⟩
      refine ⟨xs.length - (i + 1), by omega, H.wf_set hw' hn3 _, H.le_set hw hle hb3 _, by first | rfl | trivial | assumption, by first | rfl | trivial | assumption, i + 1, _, _, _, rfl, by omega, rfl, rfl, hput a, mem_set_lt hod ha, by simp; omega, fun k hk => ?_, ?_⟩
      · rw [getD_set, if_neg (by omega)]
        exact hoz k (by omega)
      · have e1 := val_set 4294967296 out (i + ys.length) a hjo
        rw [← getD_at hjo, hoz _ (Nat.le_refl _), Nat.mul_zero, Nat.add_zero, hov, List.take_length] at e1
        rw [e1, val_take_succ 4294967296 xs i hxi, Nat.add_mul, Nat.mul_assoc]
  · simp only [go_sem, ↓reduceIte, Nat.reduceEqDiff, Nat.reduceAdd, Bool.false_eq_true, Int.reduceToNat, h0, h1, h5, h6, ltF hxi]
    refine norm_num hs.isN hod (by omega) fun r hr => ?_
    simp only [go_sem, ↓reduceIte, Nat.reduceEqDiff, Nat.reduceAdd, Bool.false_eq_true, Int.reduceToNat]
    intro _
    refine hk r h' hw' hle ?_
    rw [List.take_of_length_le hxi] at hov
    rw [hov] at hr
    exact hr
end Ab
end Go.Proofs.Ytnmnkocibjdhjaa
namespace Go.Proofs.Ytnmnkocibjdhjaa
namespace Ab
open Go Go.RowKit
set_option linter.unusedSimpArgs false
set_option linter.unusedVariables false
attribute [local go_sem ↓] x_mv x_pick x_bin x_beq x_peq x_seq x_cat x_aeq x_idxS x_un x_cvI x_idx x_idxA x_fld x_ld x_st x_nn x_prt x_slc x_mk x_bsl x_bld x_box x_alloc x_len x_capo x_mnx x_app x_cpy x_mkf x_ext x_call x_callV x_bad s_none s_some s_nil s_cons s_chks w_skip w_reg tP_fin tP_no tP_alt w_seq w_cond w_block w_exit w_ret t_normal t_exit t_ret b_normal b_ret b_exit n_normal n_exit n_ret p_normal p_ret f_nil f_t f_c k_ops k_chk k_fin
attribute [local go_sem] e_t e_c e_f u_some u_none u_at env_at k_v k_pick k_add k_sub k_mul k_quo k_rem k_and k_or k_xor k_shl k_shr k_eql k_neq k_lss k_leq k_gtr k_geq k_beq k_peqn k_peqs k_neg k_not k_com k_cvI k_idxS k_idx k_idxA k_idxG k_ldG k_gld k_seq k_cat k_aeq k_eqs k_fld k_ld1 k_ldn k_get k_gets k_sti k_stb k_stp k_sts k_stf k_sta k_put k_nn k_prt1 k_prtn k_slc_a k_slc_b k_slc_c k_mk k_agg k_bsl k_box k_len k_lenS k_cap k_max k_min k_ext k_callV k_true k_false k_gtt k_gtf k_gft k_gsk k_gff k_lit1i k_lit2i k_lit3i k_c0 k_c1 k_ck List.getElem?_cons_zero List.getElem?_cons_succ List.getElem?_nil Option.getD_some Option.getD_none tupOf List.map_cons List.map_nil Option.map_some Option.map_none List.nil_append List.cons_append List.append_nil Nat.mul_one Int.toNat_natCast Nat.zero_add
theorem mask32 {x : Nat} (hx : x < 18446744073709551616) : bAnd .u64 (x : Int) 4294967295 = ((x % 4294967296 : Nat) : Int) := by
  have := bandN (a := x) (b := 4294967295) hx (by omega)
  rw [show 4294967295 = 2 ^ 32 - 1 from rfl, Nat.and_two_pow_sub_one_eq_mod] at this
  exact this
theorem shrU {x n : Nat} (hn : n ≤ 64) : bShr .u64 (x : Int) n = ((x / 2 ^ n : Nat) : Int) := by
  unfold bShr
  rw [show IntKind.u64.bits = 64 from rfl, Nat.min_eq_left hn, Int.fdiv_eq_ediv_of_nonneg _ (Int.le_of_lt (Int.pow_pos (by decide)))]
  simp
theorem shr32 {x : Nat} : bShr .u64 (x : Int) 32 = ((x / 4294967296 : Nat) : Int) := shrU (n := 32) (by omega)
theorem wUn {x : Nat} (h : x < 18446744073709551616) : IntKind.u64.wrap (x : Int) = (x : Int) := by rw [wU] <;> omega
theorem Add64_calls {x y c : Nat} {h : H} {K : AV → H → Prop} (hx : x < 18446744073709551616) (hy : y < 18446744073709551616) (hc : c ≤ 1)
    (hk : K (.tup [.int .u64 ((x + y + c) % 18446744073709551616 : Nat), .int .u64 ((x + y + c) / 18446744073709551616 : Nat)]) h) : ACalls Try.prog 114 [.int .u64 (x : Int), .int .u64 (y : Int), .int .u64 (c : Int)] h K := by
  intro base w0 μ w vs R hr
  obtain ⟨v1, vs, rfl, r1, hr⟩ := hr.inv
  obtain ⟨v2, vs, rfl, r2, hr⟩ := hr.inv
  obtain ⟨v3, vs, rfl, r3, hr⟩ := hr.inv
  obtain rfl := hr.inv_nil
  cases r1; cases r2; cases r3
  refine .inr ⟨.tuple #[.int .u64 ((x + y + c) % 18446744073709551616 : Nat), .int .u64 ((x + y + c) / 18446744073709551616 : Nat)], ?_, μ, _, h, μ.le_refl, ?_, R, hk⟩
  · rw [run_callFunc_extern Try.func114 (by kernel_rfl) (by kernel_rfl) (by kernel_rfl) (e := add64Entry) (by kernel_rfl)]
    show ((add64Entry #[.int .u64 x, .int .u64 y, .int .u64 c]).run Try.prog w).andThen _ = _
    rw [run_add64 (x : Int) y c (by omega) (by omega) (by omega) (by omega)]
    rfl
  · exact ((RelA.nil μ).cons (Rel.int _ _)).cons (Rel.int _ _) |>.tup
def sub64E : Array Value → Sem Value := fun args => do
  let (x, y, b) ← Extern.MathBitsCarry.three "Sub64" args
  pure (Extern.MathBitsCarry.pair ((x + Extern.MathBitsCarry.m64 - y - b) % Extern.MathBitsCarry.m64) (if x < y + b then 1 else 0))
theorem run_sub64E {P : Program} (x y b : Nat) (hb : b ≤ 1) (w : World) :
    (sub64E #[.int .u64 x, .int .u64 y, .int .u64 b]).run P w =
      .ok (.tuple #[.int .u64 (((x + 18446744073709551616 - y - b) % 18446744073709551616 : Nat) : Int), .int .u64 ((if x < y + b then 1 else 0 : Nat) : Int)]) w := by
  have : b = 0 ∨ b = 1 := by omega
  rcases this with rfl | rfl <;> rfl
theorem Sub64_calls {x y c : Nat} {h : H} {K : AV → H → Prop} (hc : c ≤ 1)
    (hk : K (.tup [.int .u64 ((x + 18446744073709551616 - y - c) % 18446744073709551616 : Nat), .int .u64 (if x < y + c then 1 else 0 : Nat)]) h) : ACalls Try.prog 115 [.int .u64 (x : Int), .int .u64 (y : Int), .int .u64 (c : Int)] h K := by
  intro base w0 μ w vs R hr
  obtain ⟨v1, vs, rfl, r1, hr⟩ := hr.inv
  obtain ⟨v2, vs, rfl, r2, hr⟩ := hr.inv
  obtain ⟨v3, vs, rfl, r3, hr⟩ := hr.inv
  obtain rfl := hr.inv_nil
  cases r1; cases r2; cases r3
  refine .inr ⟨.tuple #[.int .u64 ((x + 18446744073709551616 - y - c) % 18446744073709551616 : Nat), .int .u64 (if x < y + c then 1 else 0 : Nat)], ?_, μ, _, h, μ.le_refl, ?_, R, hk⟩
  · rw [run_callFunc_extern Try.func115 (by kernel_rfl) (by kernel_rfl) (by kernel_rfl) (e := sub64E) (by kernel_rfl)]
    show ((sub64E #[.int .u64 x, .int .u64 y, .int .u64 c]).run Try.prog w).andThen _ = _
    rw [run_sub64E x y c hc]
    rfl
  · exact ((RelA.nil μ).cons (Rel.int _ _)).cons (Rel.int _ _) |>.tup
theorem Mul64_calls {x y : Nat} {h : H} {K : AV → H → Prop} (hx : x < 18446744073709551616) (hy : y < 18446744073709551616)
    (hk : K (.tup [.int .u64 (x * y / 18446744073709551616 : Nat), .int .u64 (x * y % 18446744073709551616 : Nat)]) h) : ACalls Try.prog 112 [.int .u64 (x : Int), .int .u64 (y : Int)] h K := by
  refine in_bits_Mul64 (by simp) fun hw => ?_
  unfold c_bits_Mul64
  obtain ⟨m1, m2, m3, m4⟩ := Lib.mul64_hi x y hx hy
  have m5 : IntKind.u64.wrap ((x : Int) * (y : Int)) = ((x * y % 18446744073709551616 : Nat) : Int) := by rw [wUm, ← Int.natCast_mul]; rfl
  have hm : x * y / 18446744073709551616 < 18446744073709551616 := by
    have := Nat.mul_lt_mul'' hx hy
    omega
  rw [← m4] at hk hm
  have hm2 : x / 4294967296 * (y / 4294967296) < 18446744073709551616 := by
    have := Nat.mul_le_mul (show x / 4294967296 ≤ 4294967295 by omega) (show y / 4294967296 ≤ 4294967295 by omega)
    omega
  simp only [go_sem, ↓reduceIte, Nat.reduceEqDiff, Nat.reduceAdd, Bool.false_eq_true, Int.reduceToNat]
  simp only [mask32 hx, mask32 hy, shr32]
  have f1 : x / 4294967296 * (y % 4294967296) < 18446744073709551616 := by omega
  have f2 : x % 4294967296 * (y / 4294967296) < 18446744073709551616 := by omega
  generalize x % 4294967296 = x0 at *
  generalize y % 4294967296 = y0 at *
  generalize x / 4294967296 = x1 at *
  generalize y / 4294967296 = y1 at *
  simp only [mulU m1, mulU f1, mulU f2, mulU hm2, shr32, addU m2, mask32 m2, addU m3]
  rw [addU (a := x1 * y1) (by omega), addU hm, m5]
  exact ⟨by omega, by omega, by omega, by omega, by omega, fun _ => hk⟩
end Ab
end Go.Proofs.Ytnmnkocibjdhjaa
namespace Go.Proofs.Ytnmnkocibjdhjaa
namespace Ab
open Go Go.RowKit
set_option linter.unusedSimpArgs false
set_option linter.unusedVariables false
attribute [local go_sem ↓] x_mv x_pick x_bin x_beq x_peq x_seq x_cat x_aeq x_idxS x_un x_cvI x_idx x_idxA x_fld x_ld x_st x_nn x_prt x_slc x_mk x_bsl x_bld x_box x_alloc x_len x_capo x_mnx x_app x_cpy x_mkf x_ext x_call x_callV x_bad s_none s_some s_nil s_cons s_chks w_skip w_reg tP_fin tP_no tP_alt w_seq w_cond w_block w_exit w_ret t_normal t_exit t_ret b_normal b_ret b_exit n_normal n_exit n_ret p_normal p_ret f_nil f_t f_c k_ops k_chk k_fin
attribute [local go_sem] e_t e_c e_f u_some u_none u_at env_at k_v k_pick k_add k_sub k_mul k_quo k_rem k_and k_or k_xor k_shl k_shr k_eql k_neq k_lss k_leq k_gtr k_geq k_beq k_peqn k_peqs k_neg k_not k_com k_cvI k_idxS k_idx k_idxA k_idxG k_ldG k_gld k_seq k_cat k_aeq k_eqs k_fld k_ld1 k_ldn k_get k_gets k_sti k_stb k_stp k_sts k_stf k_sta k_put k_nn k_prt1 k_prtn k_slc_a k_slc_b k_slc_c k_mk k_agg k_bsl k_box k_len k_lenS k_cap k_max k_min k_ext k_callV k_true k_false k_gtt k_gtf k_gft k_gsk k_gff k_lit1i k_lit2i k_lit3i k_c0 k_c1 k_ck List.getElem?_cons_zero List.getElem?_cons_succ List.getElem?_nil Option.getD_some Option.getD_none tupOf List.map_cons List.map_nil Option.map_some Option.map_none List.nil_append List.cons_append List.append_nil Nat.mul_one Int.toNat_natCast Nat.zero_add
def tabok (s : ByteArray) : Bool := (List.range 256).all fun y => match s[y]? with
  | some b => decide (b.toNat ≤ 8 ∧ y < 2 ^ b.toNat ∧ (b.toNat = 0 ∨ 2 ^ (b.toNat - 1) ≤ y))
  | none => false
theorem tab_use {s : ByteArray} {y : Nat} {K : AV → H → Prop} {h : H} (hs : tabok s = true) (hy : y < 256) (hk : ∀ b : Nat, b ≤ 8 → y < 2 ^ b → (b = 0 ∨ 2 ^ (b - 1) ≤ y) → K (.int .u8 (b : Int)) h) : ∃ b, s[y]? = some b ∧ K (.int .u8 b.toNat) h := by
  have := (List.all_eq_true.1 hs) y (by simpa using hy)
  split at this
  · rename_i b hb
    have := of_decide_eq_true this
    exact ⟨b, hb, hk b.toNat this.1 this.2.1 this.2.2⟩
  · cases this
def BL (x L : Nat) : Prop := x < 2 ^ L ∧ (L = 0 ∨ 2 ^ (L - 1) ≤ x)
theorem BL.up {x k L : Nat} (h : BL (x / 2 ^ k) L) (hL : L ≠ 0) : BL x (k + L) := by
  have hp : 0 < 2 ^ k := Nat.pow_pos (by decide)
  refine ⟨?_, .inr ?_⟩
  · have := (Nat.div_lt_iff_lt_mul hp).1 h.1
    rw [Nat.pow_add, Nat.mul_comm]
    exact this
  · have h1 : 2 ^ (L - 1) ≤ x / 2 ^ k := h.2.resolve_left hL
    have := (Nat.le_div_iff_mul_le hp).1 h1
    rw [show k + L - 1 = (L - 1) + k from by omega, Nat.pow_add]
    exact this
theorem BL.pos {x L : Nat} (h : BL x L) (hx : 0 < x) : L ≠ 0 := by
  rintro rfl
  have := h.1
  omega
theorem Len64_calls {x : Nat} {h : H} {K : AV → H → Prop} (hx : x < 18446744073709551616)
    (hk : ∀ L : Nat, L ≤ 64 → BL x L → K (.int .i64 (L : Int)) h) : ACalls Try.prog 106 [.int .u64 (x : Int)] h K := by
  refine in_bits_Len64 (by simp) fun hw => ?_
  unfold c_bits_Len64
  have fin : ∀ (y k : Nat), y < 256 → k ≤ 56 → (∀ b : Nat, b ≤ 8 → BL y b → K (.int .i64 ((k + b : Nat) : Int)) h) → ∀ (s : ByteArray), tabok s = true → (0 ≤ IntKind.u8.wrap (y : Int) ∧ ∃ b, s[(IntKind.u8.wrap (y : Int)).toNat]? = some b ∧ K (.int .i64 (IntKind.i64.wrap ((k : Int) + IntKind.i64.wrap ((b.toNat : Nat) : Int)))) h) := by
    intro y k hy hk1 hf s hs
    have e : IntKind.u8.wrap (y : Int) = (y : Int) := by rw [IntKind.wrap_u8]; omega
    rw [e, Int.toNat_natCast]
    refine ⟨by omega, ?_⟩
    obtain ⟨b, hb, hq⟩ := tab_use (K := fun v h => ∀ n : Int, v = .int .u8 n → K (.int .i64 (IntKind.i64.wrap ((k : Int) + IntKind.i64.wrap n))) h) (h := h) hs hy (fun b h1 h2 h3 n en => by
      injection en with _ en
      subst en
      rw [wI (n := (b : Int)) (by omega) (by omega), wI (by omega) (by omega), ← Int.natCast_add]
      exact hf b h1 ⟨h2, h3⟩)
    exact ⟨b, hb, hq _ rfl⟩
  have w1 : IntKind.i64.wrap (0 + 16) = 16 := by decide
  have w2 : IntKind.i64.wrap (32 + 16) = 48 := by decide
  have w3 : IntKind.i64.wrap (0 + 8) = 8 := by decide
  have w4 : IntKind.i64.wrap (16 + 8) = 24 := by decide
  have w5 : IntKind.i64.wrap (32 + 8) = 40 := by decide
  have w6 : IntKind.i64.wrap (48 + 8) = 56 := by decide
  have s16 : ∀ y : Nat, bShr .u64 (y : Int) 16 = ((y / 2 ^ 16 : Nat) : Int) := fun y => shrU (n := 16) (by omega)
  have s8 : ∀ y : Nat, bShr .u64 (y : Int) 8 = ((y / 2 ^ 8 : Nat) : Int) := fun y => shrU (n := 8) (by omega)
  have s32 : ∀ y : Nat, bShr .u64 (y : Int) 32 = ((y / 2 ^ 32 : Nat) : Int) := fun y => shrU (n := 32) (by omega)
  have up2 : ∀ (a b c L : Nat), BL (x / 2 ^ a / 2 ^ b / 2 ^ c) L → 0 < x / 2 ^ a / 2 ^ b / 2 ^ c → BL x (a + b + c + L) := by
    intro a b c L hL h0
    rw [Nat.add_assoc, Nat.add_assoc]
    have n1 := hL.pos h0
    exact BL.up (BL.up (BL.up hL n1) (by omega)) (by omega)
  have dT : ∀ (t a : Nat), t ≤ a → decide ((t : Int) ≤ (a : Int)) = true := fun t a h => by simp; omega
  have dF : ∀ (t a : Nat), a < t → decide ((t : Int) ≤ (a : Int)) = false := fun t a h => by simp; omega
  rcases Nat.lt_or_ge x 4294967296 with c1 | c1
  · have d1 : decide ((4294967296 : Int) ≤ (x : Int)) = false := dF 4294967296 _ c1
    rcases Nat.lt_or_ge (x) 65536 with c2 | c2
    · have d2 : decide ((65536 : Int) ≤ ((x : Nat) : Int)) = false := dF 65536 _ c2
      rcases Nat.lt_or_ge (x) 256 with c3 | c3
      · have d3 : decide ((256 : Int) ≤ ((x : Nat) : Int)) = false := dF 256 _ c3
        simp only [go_sem, ↓reduceIte, Nat.reduceEqDiff, Nat.reduceAdd, Bool.false_eq_true, Int.reduceToNat, d1, d2, d3, s32, s16, s8, w1, w2, w3, w4, w5, w6]
        obtain ⟨q1, b, q2, q3⟩ := fin (x) 0 (by omega) (by omega) (fun b hb hB => hk (0 + b) (by omega) (by simpa using hB)) s_bits_Len64_0 (by decide +kernel)
        exact ⟨q1, b, q2, fun _ => q3⟩
      · have d3 : decide ((256 : Int) ≤ ((x : Nat) : Int)) = true := dT 256 _ c3
        simp only [go_sem, ↓reduceIte, Nat.reduceEqDiff, Nat.reduceAdd, Bool.false_eq_true, Int.reduceToNat, d1, d2, d3, s32, s16, s8, w1, w2, w3, w4, w5, w6]
        refine ⟨by omega, ?_⟩
        obtain ⟨q1, b, q2, q3⟩ := fin ((x) / 2 ^ 8) 8 (by omega) (by omega) (fun b hb hB => hk (8 + b) (by omega) (by have := up2 0 0 8 b (by simpa using hB) (by simp; omega); simpa using this)) s_bits_Len64_0 (by decide +kernel)
        exact ⟨q1, b, q2, fun _ => q3⟩
    · have d2 : decide ((65536 : Int) ≤ ((x : Nat) : Int)) = true := dT 65536 _ c2
      rcases Nat.lt_or_ge ((x) / 2 ^ 16) 256 with c3 | c3
      · have d3 : decide ((256 : Int) ≤ (((x) / 2 ^ 16 : Nat) : Int)) = false := dF 256 _ c3
        simp only [go_sem, ↓reduceIte, Nat.reduceEqDiff, Nat.reduceAdd, Bool.false_eq_true, Int.reduceToNat, d1, d2, d3, s32, s16, s8, w1, w2, w3, w4, w5, w6]
        refine ⟨by omega, ?_⟩
        obtain ⟨q1, b, q2, q3⟩ := fin ((x) / 2 ^ 16) 16 (by omega) (by omega) (fun b hb hB => hk (16 + b) (by omega) (by have := up2 0 16 0 b (by simpa using hB) (by simp; omega); simpa using this)) s_bits_Len64_0 (by decide +kernel)
        exact ⟨q1, b, q2, fun _ => q3⟩
      · have d3 : decide ((256 : Int) ≤ (((x) / 2 ^ 16 : Nat) : Int)) = true := dT 256 _ c3
        simp only [go_sem, ↓reduceIte, Nat.reduceEqDiff, Nat.reduceAdd, Bool.false_eq_true, Int.reduceToNat, d1, d2, d3, s32, s16, s8, w1, w2, w3, w4, w5, w6]
        refine ⟨by omega, by omega, ?_⟩
        obtain ⟨q1, b, q2, q3⟩ := fin (((x) / 2 ^ 16) / 2 ^ 8) 24 (by omega) (by omega) (fun b hb hB => hk (24 + b) (by omega) (by have := up2 0 16 8 b (by simpa using hB) (by simp; omega); simpa using this)) s_bits_Len64_0 (by decide +kernel)
        exact ⟨q1, b, q2, fun _ => q3⟩
  · have d1 : decide ((4294967296 : Int) ≤ (x : Int)) = true := dT 4294967296 _ c1
    rcases Nat.lt_or_ge (x / 2 ^ 32) 65536 with c2 | c2
    · have d2 : decide ((65536 : Int) ≤ ((x / 2 ^ 32 : Nat) : Int)) = false := dF 65536 _ c2
      rcases Nat.lt_or_ge (x / 2 ^ 32) 256 with c3 | c3
      · have d3 : decide ((256 : Int) ≤ ((x / 2 ^ 32 : Nat) : Int)) = false := dF 256 _ c3
        simp only [go_sem, ↓reduceIte, Nat.reduceEqDiff, Nat.reduceAdd, Bool.false_eq_true, Int.reduceToNat, d1, d2, d3, s32, s16, s8, w1, w2, w3, w4, w5, w6]
        refine ⟨by omega, ?_⟩
        obtain ⟨q1, b, q2, q3⟩ := fin (x / 2 ^ 32) 32 (by omega) (by omega) (fun b hb hB => hk (32 + b) (by omega) (by have := up2 32 0 0 b (by simpa using hB) (by simp; omega); simpa using this)) s_bits_Len64_0 (by decide +kernel)
        exact ⟨q1, b, q2, fun _ => q3⟩
      · have d3 : decide ((256 : Int) ≤ ((x / 2 ^ 32 : Nat) : Int)) = true := dT 256 _ c3
        simp only [go_sem, ↓reduceIte, Nat.reduceEqDiff, Nat.reduceAdd, Bool.false_eq_true, Int.reduceToNat, d1, d2, d3, s32, s16, s8, w1, w2, w3, w4, w5, w6]
        refine ⟨by omega, by omega, ?_⟩
        obtain ⟨q1, b, q2, q3⟩ := fin ((x / 2 ^ 32) / 2 ^ 8) 40 (by omega) (by omega) (fun b hb hB => hk (40 + b) (by omega) (by have := up2 32 0 8 b (by simpa using hB) (by simp; omega); simpa using this)) s_bits_Len64_0 (by decide +kernel)
        exact ⟨q1, b, q2, fun _ => q3⟩
    · have d2 : decide ((65536 : Int) ≤ ((x / 2 ^ 32 : Nat) : Int)) = true := dT 65536 _ c2
      rcases Nat.lt_or_ge ((x / 2 ^ 32) / 2 ^ 16) 256 with c3 | c3
      · have d3 : decide ((256 : Int) ≤ (((x / 2 ^ 32) / 2 ^ 16 : Nat) : Int)) = false := dF 256 _ c3
        simp only [go_sem, ↓reduceIte, Nat.reduceEqDiff, Nat.reduceAdd, Bool.false_eq_true, Int.reduceToNat, d1, d2, d3, s32, s16, s8, w1, w2, w3, w4, w5, w6]
        refine ⟨by omega, by omega, ?_⟩
        obtain ⟨q1, b, q2, q3⟩ := fin ((x / 2 ^ 32) / 2 ^ 16) 48 (by omega) (by omega) (fun b hb hB => hk (48 + b) (by omega) (by have := up2 32 16 0 b (by simpa using hB) (by simp; omega); simpa using this)) s_bits_Len64_0 (by decide +kernel)
        exact ⟨q1, b, q2, fun _ => q3⟩
      · have d3 : decide ((256 : Int) ≤ (((x / 2 ^ 32) / 2 ^ 16 : Nat) : Int)) = true := dT 256 _ c3
        simp only [go_sem, ↓reduceIte, Nat.reduceEqDiff, Nat.reduceAdd, Bool.false_eq_true, Int.reduceToNat, d1, d2, d3, s32, s16, s8, w1, w2, w3, w4, w5, w6]
        refine ⟨by omega, by omega, by omega, ?_⟩
        obtain ⟨q1, b, q2, q3⟩ := fin (((x / 2 ^ 32) / 2 ^ 16) / 2 ^ 8) 56 (by omega) (by omega) (fun b hb hB => hk (56 + b) (by omega) (by have := up2 32 16 8 b (by simpa using hB) (by simp; omega); simpa using this)) s_bits_Len64_0 (by decide +kernel)
        exact ⟨q1, b, q2, fun _ => q3⟩
end Ab
end Go.Proofs.Ytnmnkocibjdhjaa
namespace Go.Proofs.Ytnmnkocibjdhjaa
namespace Ab
open Go Go.RowKit
set_option linter.unusedSimpArgs false
set_option linter.unusedVariables false
attribute [local go_sem ↓] x_mv x_pick x_bin x_beq x_peq x_seq x_cat x_aeq x_idxS x_un x_cvI x_idx x_idxA x_fld x_ld x_st x_nn x_prt x_slc x_mk x_bsl x_bld x_box x_alloc x_len x_capo x_mnx x_app x_cpy x_mkf x_ext x_call x_callV x_bad s_none s_some s_nil s_cons s_chks w_skip w_reg tP_fin tP_no tP_alt w_seq w_cond w_block w_exit w_ret t_normal t_exit t_ret b_normal b_ret b_exit n_normal n_exit n_ret p_normal p_ret f_nil f_t f_c k_ops k_chk k_fin
attribute [local go_sem] e_t e_c e_f u_some u_none u_at env_at k_v k_pick k_add k_sub k_mul k_quo k_rem k_and k_or k_xor k_shl k_shr k_eql k_neq k_lss k_leq k_gtr k_geq k_beq k_peqn k_peqs k_neg k_not k_com k_cvI k_idxS k_idx k_idxA k_idxG k_ldG k_gld k_seq k_cat k_aeq k_eqs k_fld k_ld1 k_ldn k_get k_gets k_sti k_stb k_stp k_sts k_stf k_sta k_put k_nn k_prt1 k_prtn k_slc_a k_slc_b k_slc_c k_mk k_agg k_bsl k_box k_len k_lenS k_cap k_max k_min k_ext k_callV k_true k_false k_gtt k_gtf k_gft k_gsk k_gff k_lit1i k_lit2i k_lit3i k_c0 k_c1 k_ck List.getElem?_cons_zero List.getElem?_cons_succ List.getElem?_nil Option.getD_some Option.getD_none tupOf List.map_cons List.map_nil Option.map_some Option.map_none List.nil_append List.cons_append List.append_nil Nat.mul_one Int.toNat_natCast Nat.zero_add
theorem LeadingZeros64_calls {x : Nat} {h : H} {K : AV → H → Prop} (hx : x < 18446744073709551616) (h0 : 0 < x)
    (hk : ∀ s : Nat, s ≤ 63 → 9223372036854775808 ≤ x * 2 ^ s → x * 2 ^ s < 18446744073709551616 → K (.int .i64 (s : Int)) h) : ACalls Try.prog 76 [.int .u64 (x : Int)] h K := by
  refine in_bits_LeadingZeros64 (by simp) fun hw => ?_
  unfold c_bits_LeadingZeros64
  simp only [go_sem, ↓reduceIte, Nat.reduceEqDiff, Nat.reduceAdd, Bool.false_eq_true, Int.reduceToNat]
  refine Len64_calls hx fun L hL hB => ?_
  have n0 := hB.pos h0
  have e : IntKind.i64.wrap (64 - (L : Int)) = ((64 - L : Nat) : Int) := by rw [wI] <;> omega
  simp only [go_sem, ↓reduceIte, Nat.reduceEqDiff, Nat.reduceAdd, Bool.false_eq_true, Int.reduceToNat, e]
  intro _
  have h1 := hB.2.resolve_left n0
  refine hk (64 - L) (by omega) ?_ ?_
  · have := Nat.mul_le_mul_right (2 ^ (64 - L)) h1
    rw [← Nat.pow_add, show L - 1 + (64 - L) = 63 from by omega] at this
    exact this
  · have := Nat.mul_lt_mul_of_pos_right hB.1 (Nat.pow_pos (n := 64 - L) (show 0 < 2 by decide))
    rw [← Nat.pow_add, show L + (64 - L) = 64 from by omega] at this
    exact this
theorem dig_le {U Y a b c W q r : Nat} (hY : Y = a * W + b) (hq : q * a + r = U) (hc : q * b ≤ W * r + c) : q * Y ≤ U * W + c := by
  have e1 : q * (a * W + b) = q * a * W + q * b := by rw [Nat.mul_add, Nat.mul_assoc]
  have e2 : U * W = q * a * W + W * r := by rw [← hq, Nat.add_mul, Nat.mul_comm r W]
  rw [hY, e1, e2]
  omega
theorem dig_lt {U Y a b c W q r : Nat} (hY : Y = a * W + b) (hq : q * a + r = U) (hc : W * r + c < q * b) : U * W + c < q * Y := by
  have e1 : q * (a * W + b) = q * a * W + q * b := by rw [Nat.mul_add, Nat.mul_assoc]
  have e2 : U * W = q * a * W + W * r := by rw [← hq, Nat.add_mul, Nat.mul_comm r W]
  rw [hY, e1, e2]
  omega
theorem dig_full {U Y c W : Nat} (hU : U < Y) (hc : c < W) : (U * W + c) / Y < W := by
  rw [Nat.div_lt_iff_lt_mul (by omega)]
  have := Nat.mul_le_mul_right W (show U + 1 ≤ Y from hU)
  rw [Nat.add_mul] at this
  rw [Nat.mul_comm W Y]
  omega
/-- The state of the search for a digit. -/
structure Srch (U Y a b c Q q r : Nat) : Prop where
  hY : Y = a * 4294967296 + b
  hU : U < Y
  ha : a < 4294967296
  ha2 : 2147483648 ≤ a
  hb : b < 4294967296
  hc : c < 4294967296
  hQ : Q = (U * 4294967296 + c) / Y
  hq : q * a + r = U
  hr : r < 4294967296
  hle : Q ≤ q
  hq1 : q ≤ 4294967297
theorem Srch.start {U Y a b c Q : Nat} (hQ : Q = (U * 4294967296 + c) / Y) (hY : Y = a * 4294967296 + b) (hU : U < Y) (ha : a < 4294967296) (ha2 : 2147483648 ≤ a) (hb : b < 4294967296) (hc : c < 4294967296) : Srch U Y a b c Q (U / a) (U % a) := by
  subst hQ
  have h0 : U / a ≤ 4294967297 := by
    have : U < (4294967297 + 1) * a := by rw [hY] at hU; omega
    have := (Nat.div_lt_iff_lt_mul (by omega : 0 < a)).2 this
    omega
  have h1 : U % a < a := Nat.mod_lt _ (by omega)
  refine ⟨hY, hU, ha, ha2, hb, hc, rfl, Nat.div_add_mod' U a, by omega, ?_, h0⟩
  refine Nat.le_of_lt_succ ((Nat.div_lt_iff_lt_mul (by omega)).2 ?_)
  have e : U < (U / a + 1) * a := Nat.lt_mul_of_div_lt (Nat.lt_succ_self _) (by omega)
  have e2 : U + 1 ≤ (U / a + 1) * a := e
  have e3 := Nat.mul_le_mul_right 4294967296 e2
  have e4 : (U / a).succ * Y = (U / a + 1) * a * 4294967296 + (U / a + 1) * b := by
    rw [hY, Nat.succ_eq_add_one, Nat.mul_add, Nat.mul_assoc]
  rw [e4]
  rw [Nat.add_mul] at e3
  omega
theorem Srch.done {U Y a b c Q q r : Nat} (s : Srch U Y a b c Q q r) (hc : q * b ≤ 4294967296 * r + c) : q = Q := by
  have h1 := dig_le (W := 4294967296) (c := c) s.hY s.hq hc
  have h2 : q ≤ Q := by rw [s.hQ]; exact (Nat.le_div_iff_mul_le (by have := s.hU; omega)).2 h1
  have := s.hle
  omega
theorem Srch.lt {U Y a b c Q q r : Nat} (s : Srch U Y a b c Q q r) (hc : 4294967296 ≤ q ∨ 4294967296 * r + c < q * b) : Q < q := by
  rcases hc with h | h
  · have := dig_full s.hU s.hc
    rw [← s.hQ] at this
    omega
  · have h1 := dig_lt (W := 4294967296) (c := c) s.hY s.hq h
    rw [s.hQ]
    exact (Nat.div_lt_iff_lt_mul (by have := s.hU; omega)).2 h1
theorem Srch.next {U Y a b c Q q r : Nat} (s : Srch U Y a b c Q q r) (hc : Q < q) (hr : r + a < 4294967296) : Srch U Y a b c Q (q - 1) (r + a) := by
  refine ⟨s.hY, s.hU, s.ha, s.ha2, s.hb, s.hc, s.hQ, ?_, hr, by omega, by have := s.hq1; omega⟩
  rw [← s.hq, Nat.sub_mul]
  have : 1 * a ≤ q * a := Nat.mul_le_mul_right a (by omega)
  omega
theorem Srch.out {U Y a b c Q q r : Nat} (s : Srch U Y a b c Q q r) (hc : Q < q) (hr : 4294967296 ≤ r + a) : q - 1 = Q := by
  have e : (q - 1) * a + (r + a) = U := by
    rw [← s.hq, Nat.sub_mul]
    have : 1 * a ≤ q * a := Nat.mul_le_mul_right a (by omega)
    omega
  have h0 : (q - 1) * b ≤ 4294967296 * (r + a) + c := by
    have := Nat.mul_le_mul (show q - 1 ≤ 4294967296 by have := s.hq1; omega) (Nat.le_of_lt s.hb)
    omega
  have h1 := dig_le (W := 4294967296) (c := c) s.hY e h0
  have h2 : q - 1 ≤ Q := by rw [s.hQ]; exact (Nat.le_div_iff_mul_le (by have := s.hU; omega)).2 h1
  omega
/-- Two digits are the quotient. -/
theorem two_digits {U Y c1 c0 Q1 R Q0 : Nat} (hQ1 : Q1 = (U * 4294967296 + c1) / Y) (hR : R = (U * 4294967296 + c1) % Y) (hQ0 : Q0 = (R * 4294967296 + c0) / Y) (hY : 0 < Y) :
    (U * 18446744073709551616 + (c1 * 4294967296 + c0)) / Y = Q1 * 4294967296 + Q0 ∧ (U * 18446744073709551616 + (c1 * 4294967296 + c0)) % Y = (R * 4294967296 + c0) % Y := by
  have e1 : U * 4294967296 + c1 = Y * Q1 + R := by rw [hQ1, hR, Nat.div_add_mod]
  have e2 : R * 4294967296 + c0 = Y * Q0 + (R * 4294967296 + c0) % Y := by rw [hQ0, Nat.div_add_mod]
  have e3 : U * 18446744073709551616 + (c1 * 4294967296 + c0) = Y * (Q1 * 4294967296 + Q0) + (R * 4294967296 + c0) % Y := by
    have e4 : (U * 4294967296 + c1) * 4294967296 = (Y * Q1 + R) * 4294967296 := by rw [e1]
    rw [Nat.mul_add, ← Nat.mul_assoc]
    revert e1 e2 e4
    generalize (R * 4294967296 + c0) % Y = rr
    generalize Y * Q1 = t
    generalize Y * Q0 = t0
    clear hQ1 hR hQ0 hY
    omega
  have hlt : (R * 4294967296 + c0) % Y < Y := Nat.mod_lt _ hY
  rw [e3]
  constructor
  · rw [Nat.mul_add_div hY, Nat.div_eq_of_lt hlt, Nat.add_zero]
  · rw [Nat.mul_add_mod, Nat.mod_eq_of_lt hlt]
end Ab
end Go.Proofs.Ytnmnkocibjdhjaa
namespace Go.Proofs.Ytnmnkocibjdhjaa
namespace Ab
open Go Go.RowKit
set_option linter.unusedSimpArgs false
set_option linter.unusedVariables false
attribute [local go_sem ↓] x_mv x_pick x_bin x_beq x_peq x_seq x_cat x_aeq x_idxS x_un x_cvI x_idx x_idxA x_fld x_ld x_st x_nn x_prt x_slc x_mk x_bsl x_bld x_box x_alloc x_len x_capo x_mnx x_app x_cpy x_mkf x_ext x_call x_callV x_bad s_none s_some s_nil s_cons s_chks w_skip w_reg tP_fin tP_no tP_alt w_seq w_cond w_block w_exit w_ret t_normal t_exit t_ret b_normal b_ret b_exit n_normal n_exit n_ret p_normal p_ret f_nil f_t f_c k_ops k_chk k_fin
attribute [local go_sem] e_t e_c e_f u_some u_none u_at env_at k_v k_pick k_add k_sub k_mul k_quo k_rem k_and k_or k_xor k_shl k_shr k_eql k_neq k_lss k_leq k_gtr k_geq k_beq k_peqn k_peqs k_neg k_not k_com k_cvI k_idxS k_idx k_idxA k_idxG k_ldG k_gld k_seq k_cat k_aeq k_eqs k_fld k_ld1 k_ldn k_get k_gets k_sti k_stb k_stp k_sts k_stf k_sta k_put k_nn k_prt1 k_prtn k_slc_a k_slc_b k_slc_c k_mk k_agg k_bsl k_box k_len k_lenS k_cap k_max k_min k_ext k_callV k_true k_false k_gtt k_gtf k_gft k_gsk k_gff k_lit1i k_lit2i k_lit3i k_c0 k_c1 k_ck List.getElem?_cons_zero List.getElem?_cons_succ List.getElem?_nil Option.getD_some Option.getD_none tupOf List.map_cons List.map_nil Option.map_some Option.map_none List.nil_append List.cons_append List.append_nil Nat.mul_one Int.toNat_natCast Nat.zero_add
theorem shlU {x n : Nat} (hn : n ≤ 64) : bShl .u64 (x : Int) n = ((x * 2 ^ n % 18446744073709551616 : Nat) : Int) := by
  unfold bShl
  rw [show IntKind.u64.bits = 64 from rfl, Nat.min_eq_left hn, wUm]
  have : ((x : Int) * 2 ^ n) = ((x * 2 ^ n : Nat) : Int) := by simp
  rw [this]
  omega
theorem orU {a b s : Nat} (ha : a * 2 ^ s < 18446744073709551616) (hb : b < 2 ^ s) (hs : s ≤ 64) : bOr .u64 ((a * 2 ^ s : Nat) : Int) (b : Int) = ((a * 2 ^ s + b : Nat) : Int) := by
  have h2 : b < 18446744073709551616 := Nat.lt_of_lt_of_le hb (Nat.pow_le_pow_right (by decide) hs : 2 ^ s ≤ 2 ^ 64)
  have := borN ha h2
  rw [← Nat.shiftLeft_eq, ← Nat.shiftLeft_add_eq_or_of_lt hb] at this
  rw [← Nat.shiftLeft_eq]
  exact this
theorem mulL {a : Nat} (h : 4294967296 * a < 18446744073709551616) : IntKind.u64.wrap (4294967296 * (a : Int)) = ((4294967296 * a : Nat) : Int) := by rw [wU] <;> omega
theorem mulR {a : Nat} : IntKind.u64.wrap ((a : Int) * 4294967296) = ((a * 4294967296 % 18446744073709551616 : Nat) : Int) := by rw [wUm]; omega
theorem shift_split {hi lo y s : Nat} (hh : hi < y) (hl : lo < 18446744073709551616) (hs : s ≤ 63) (hY : y * 2 ^ s < 18446744073709551616) :
    hi * 2 ^ s < 18446744073709551616 ∧ lo / 2 ^ (64 - s) < 2 ^ s ∧ (hi * 2 ^ s + lo / 2 ^ (64 - s)) * 18446744073709551616 + lo * 2 ^ s % 18446744073709551616 = (hi * 18446744073709551616 + lo) * 2 ^ s ∧ hi * 2 ^ s + lo / 2 ^ (64 - s) < y * 2 ^ s := by
  have hp : 0 < 2 ^ s := Nat.pow_pos (by decide)
  have e64 : 2 ^ (64 - s) * 2 ^ s = 18446744073709551616 := by rw [← Nat.pow_add, show 64 - s + s = 64 from by omega]
  have h2 : lo / 2 ^ (64 - s) < 2 ^ s := by
    rw [Nat.div_lt_iff_lt_mul (Nat.pow_pos (by decide)), Nat.mul_comm, e64]
    exact hl
  have h1 : hi * 2 ^ s + 2 ^ s ≤ y * 2 ^ s := by
    have := Nat.mul_le_mul_right (2 ^ s) (show hi + 1 ≤ y from hh)
    rw [Nat.add_mul, Nat.one_mul] at this
    exact this
  have h3 : lo * 2 ^ s / 18446744073709551616 = lo / 2 ^ (64 - s) := by rw [← e64, Nat.mul_div_mul_right _ _ hp]
  refine ⟨by omega, h2, ?_, by omega⟩
  rw [← h3]
  have e5 : (hi * 18446744073709551616 + lo) * 2 ^ s = hi * 2 ^ s * 18446744073709551616 + lo * 2 ^ s := by rw [Nat.add_mul, Nat.mul_assoc, Nat.mul_comm 18446744073709551616, ← Nat.mul_assoc]
  rw [e5]
  generalize lo * 2 ^ s = t
  generalize hi * 2 ^ s = t2
  omega
theorem sub_back {U Y c Q : Nat} (hY : 0 < Y) (hY2 : Y < 18446744073709551616) (hQ : Q = (U * 4294967296 + c) / Y) (hc : c < 4294967296) :
    IntKind.u64.wrap (IntKind.u64.wrap (IntKind.u64.wrap ((U : Int) * 4294967296) + (c : Int)) - IntKind.u64.wrap ((Q : Int) * (Y : Int))) = (((U * 4294967296 + c) % Y : Nat) : Int) := by
  have e1 : U * 4294967296 + c = Q * Y + (U * 4294967296 + c) % Y := by rw [hQ, Nat.div_add_mod']
  have hlt : (U * 4294967296 + c) % Y < Y := Nat.mod_lt _ hY
  simp only [wUm]
  rw [← Int.natCast_mul]
  revert e1 hlt
  generalize (U * 4294967296 + c) % Y = R
  generalize Q * Y = t
  intro e1 hlt
  omega
theorem remU {U a : Nat} (hU : U < 18446744073709551616) : IntKind.u64.wrap ((U : Int) - IntKind.u64.wrap (((U / a : Nat) : Int) * (a : Int))) = ((U % a : Nat) : Int) := by
  have h1 := Nat.div_add_mod' U a
  have h2 : U / a * a ≤ U := Nat.div_mul_le_self U a
  rw [mulU (by omega), wU (by omega) (by omega)]
  omega
theorem subN {a b : Nat} (h : b ≤ a) (ha : a < 18446744073709551616) : IntKind.u64.wrap ((a : Int) - (b : Int)) = ((a - b : Nat) : Int) := by rw [wU] <;> omega
theorem subN1 {a : Nat} (h : 1 ≤ a) (ha : a < 18446744073709551616) : IntKind.u64.wrap ((a : Int) - 1) = ((a - 1 : Nat) : Int) := subN (b := 1) h ha
theorem Div64_calls {hi lo y : Nat} {h : H} {K : AV → H → Prop} (hh : hi < y) (hl : lo < 18446744073709551616) (hy : y < 18446744073709551616)
    (hk : K (.tup [.int .u64 ((hi * 18446744073709551616 + lo) / y : Nat), .int .u64 ((hi * 18446744073709551616 + lo) % y : Nat)]) h) : ACalls Try.prog 109 [.int .u64 (hi : Int), .int .u64 (lo : Int), .int .u64 (y : Int)] h K := by
  refine in_bits_Div64 (by simp) fun hw => ?_
  unfold c_bits_Div64
  have d1 : ((y : Int) == 0) = false := by simp; omega
  have d2 : decide ((y : Int) ≤ (hi : Int)) = false := by simp; omega
  rcases Nat.eq_zero_or_pos hi with rfl | hp
  · have d3 : (((0 : Nat) : Int) == 0) = true := by decide
    have hq : lo / y ≤ lo := Nat.div_le_self _ _
    simp only [go_sem, ↓reduceIte, Nat.reduceEqDiff, Nat.reduceAdd, Bool.false_eq_true, Int.reduceToNat, d1, d2, d3, tdivN, tmodN, wUn (x := lo / y) (by omega)]
    rw [Nat.zero_mul, Nat.zero_add] at hk
    exact ⟨by omega, by omega, fun _ => hk⟩
  · have d3 : ((hi : Int) == 0) = false := by simp; omega
    simp only [go_sem, ↓reduceIte, Nat.reduceEqDiff, Nat.reduceAdd, Bool.false_eq_true, Int.reduceToNat, d1, d2, d3]
    refine LeadingZeros64_calls hy (by omega) fun s hs h63 h64 => ?_
    have e64 : IntKind.u64.wrap (64 - (s : Int)) = ((64 - s : Nat) : Int) := by rw [wU] <;> omega
    obtain ⟨f1, f2, f3, f4⟩ := shift_split hh hl hs h64
    have hN : (hi * 18446744073709551616 + lo) / y = (hi * 18446744073709551616 + lo) * 2 ^ s / (y * 2 ^ s) := (Nat.mul_div_mul_right _ _ (Nat.pow_pos (by decide))).symm
    have hM : (hi * 18446744073709551616 + lo) % y = (hi * 18446744073709551616 + lo) * 2 ^ s % (y * 2 ^ s) / 2 ^ s := by rw [Nat.mul_mod_mul_right, Nat.mul_div_cancel _ (Nat.pow_pos (by decide))]
    rw [hN, hM, ← f3] at hk
    have s1 := shlU (x := y) (n := s) (by omega)
    have s2 := shlU (x := hi) (n := s) (by omega)
    have s3 := shrU (x := lo) (n := 64 - s) (by omega)
    have s4 := shlU (x := lo) (n := s) (by omega)
    rw [Nat.mod_eq_of_lt h64] at s1
    rw [Nat.mod_eq_of_lt f1] at s2
    have s5 := orU (b := lo / 2 ^ (64 - s)) f1 f2 (by omega)
    have k1 := mask32 (x := y * 2 ^ s) h64
    have k2 := mask32 (x := lo * 2 ^ s % 18446744073709551616) (Nat.mod_lt _ (by decide))
    have hUb : hi * 2 ^ s + lo / 2 ^ (64 - s) < 18446744073709551616 := by omega
    have hya : 0 < y * 2 ^ s / 4294967296 := by omega
    simp only [go_sem, ↓reduceIte, Nat.reduceEqDiff, Nat.reduceAdd, Bool.false_eq_true, Int.reduceToNat, wUn (x := s) (by omega), e64, s1, s2, s3, s4, s5, shr32, k1, k2, tdivN, wUn (Nat.lt_of_le_of_lt (Nat.div_le_self (hi * 2 ^ s + lo / 2 ^ (64 - s)) _) hUb), remU hUb]
    have hm : lo * 2 ^ s % 18446744073709551616 < 18446744073709551616 := Nat.mod_lt _ (by decide)
    have hsh : ∀ x : Nat, bShr .u64 (x : Int) s = ((x / 2 ^ s : Nat) : Int) := fun x => shrU (by omega)
    clear hN hM f3 f1 f2 s1 s2 s3 s4 s5 k1 k2
    generalize lo * 2 ^ s % 18446744073709551616 = un at *
    generalize hi * 2 ^ s + lo / 2 ^ (64 - s) = U at *
    generalize y * 2 ^ s = Y at *
    refine ⟨by omega, by omega, by omega, by omega, by omega, by omega, by omega, ?_⟩
    have hY : Y = Y / 4294967296 * 4294967296 + Y % 4294967296 := by omega
    have hun : un = un / 4294967296 * 4294967296 + un % 4294967296 := by omega
    have ha : Y / 4294967296 < 4294967296 := by omega
    have ha2 : 2147483648 ≤ Y / 4294967296 := by omega
    have hb : Y % 4294967296 < 4294967296 := by omega
    have hc1 : un / 4294967296 < 4294967296 := by omega
    have hc0 : un % 4294967296 < 4294967296 := by omega
    generalize Y / 4294967296 = a at *
    generalize Y % 4294967296 = b at *
    generalize un / 4294967296 = c1 at *
    generalize un % 4294967296 = c0 at *
    obtain ⟨Q1, hQ1⟩ : ∃ Q1, Q1 = (U * 4294967296 + c1) / Y := ⟨_, rfl⟩
    obtain ⟨R, hR⟩ : ∃ R, R = (U * 4294967296 + c1) % Y := ⟨_, rfl⟩
    obtain ⟨Q0, hQ0⟩ : ∃ Q0, Q0 = (R * 4294967296 + c0) / Y := ⟨_, rfl⟩
    obtain ⟨t1, t2⟩ := two_digits hQ1 hR hQ0 (by omega)
    rw [← hun] at t1 t2
    rw [t1, t2] at hk
    have hRl : R < Y := by rw [hR]; exact Nat.mod_lt _ (by omega)
    have hQl : Q1 < 4294967296 := by rw [hQ1]; exact dig_full f4 hc1
    have hQl0 : Q0 < 4294967296 := by rw [hQ0]; exact dig_full hRl hc0
    clear t1 t2 hun
    refine loop_cut (fun ρ' h' => h' = h ∧ ρ' 2 = .int .u64 ((Y : Nat) : Int) ∧ ρ' 8 = .int .u64 ((s : Nat) : Int) ∧ ρ' 9 = .int .u64 ((a : Nat) : Int) ∧ ρ' 10 = .int .u64 ((b : Nat) : Int) ∧ ρ' 11 = .int .u64 ((U : Nat) : Int) ∧ ρ' 13 = .int .u64 ((c1 : Nat) : Int) ∧ ρ' 14 = .int .u64 ((c0 : Nat) : Int) ∧ ρ' 15 = .int .u64 (Q1 : Int)) ?_ ?_
    · refine ⟨fun n ρ h' => h' = h ∧ ρ 2 = .int .u64 ((Y : Nat) : Int) ∧ ρ 8 = .int .u64 ((s : Nat) : Int) ∧ ρ 9 = .int .u64 ((a : Nat) : Int) ∧ ρ 10 = .int .u64 ((b : Nat) : Int) ∧ ρ 11 = .int .u64 ((U : Nat) : Int) ∧ ρ 13 = .int .u64 ((c1 : Nat) : Int) ∧ ρ 14 = .int .u64 ((c0 : Nat) : Int) ∧ ∃ q r, n = q ∧ ρ 15 = .int .u64 (q : Nat) ∧ ρ 16 = .int .u64 (r : Nat) ∧ Srch U Y a b c1 Q1 q r, _, ⟨rfl, by first | rfl | trivial | assumption, by first | rfl | trivial | assumption, by first | rfl | trivial | assumption, by first | rfl | trivial | assumption, by first | rfl | trivial | assumption, by first | rfl | trivial | assumption, by first | rfl | trivial | assumption, _, _, rfl, by first | rfl | trivial | assumption, by first | rfl | trivial | assumption, Srch.start hQ1 hY f4 ha ha2 hb hc1⟩, ?_⟩
      rintro n ρ h' ⟨rfl, g2, g8, g9, g10, g11, g13, g14, q, r, rfl, hq, h16, hs⟩
      have hr := hs.hr
      have hc := hs.hc
      have hq1 := hs.hq1
      have wr : 4294967296 * r + c1 < 18446744073709551616 := by omega
      have again : Q1 < n → decide ((4294967296 : Int) ≤ ((r + a : Nat) : Int)) = false → Srch U Y a b c1 Q1 (n - 1) (r + a) := fun h1 h2 => hs.next h1 (by simp at h2; omega)
      have stop : Q1 < n → decide ((4294967296 : Int) ≤ ((r + a : Nat) : Int)) = true → n - 1 = Q1 := fun h1 h2 => hs.out h1 (by simp at h2; omega)
      rcases Nat.lt_or_ge n 4294967296 with i1 | i1
      · have d1 : decide ((4294967296 : Int) ≤ (n : Int)) = false := by simp; omega
        have hqb : n * b < 18446744073709551616 := by
          have h3 : n * b ≤ 4294967295 * 4294967295 := Nat.mul_le_mul (by omega) (by omega)
          omega
        rcases Nat.lt_or_ge (4294967296 * r + c1) (n * b) with c2 | c2
        · have d2 := ltT c2
          have hlt := hs.lt (.inr c2)
          have hn1 : 0 < n := Nat.lt_of_le_of_lt (Nat.zero_le _) hlt
          simp only [go_sem, ↓reduceIte, Nat.reduceEqDiff, Nat.reduceAdd, Bool.false_eq_true, Int.reduceToNat, hq, h16, g2, g8, g9, g10, g11, g13, g14, d1, mulU hqb, mulL (a := r) (by omega), addU wr, d2, subN1 (a := n) (by omega) (by omega), addU (a := r) (b := a) (by omega)]
          refine cond_split (fun c3 => ?_) (fun c3 => ?_)
          · simp only [go_sem, ↓reduceIte, Nat.reduceEqDiff, Nat.reduceAdd, Bool.false_eq_true, Int.reduceToNat, g2, g8, g9, g10, g11, g13, g14]
            rw [stop hlt c3]
            exact ⟨by first | rfl | trivial | assumption, by first | rfl | trivial | assumption, by first | rfl | trivial | assumption, by first | rfl | trivial | assumption, by first | rfl | trivial | assumption, by first | rfl | trivial | assumption, by first | rfl | trivial | assumption, by first | rfl | trivial | assumption, by first | rfl | trivial | assumption⟩
          · simp only [go_sem, ↓reduceIte, Nat.reduceEqDiff, Nat.reduceAdd, Bool.false_eq_true, Int.reduceToNat, g2, g8, g9, g10, g11, g13, g14]
            exact ⟨n - 1, by omega, by first | rfl | trivial | assumption, by first | rfl | trivial | assumption, by first | rfl | trivial | assumption, by first | rfl | trivial | assumption, by first | rfl | trivial | assumption, by first | rfl | trivial | assumption, by first | rfl | trivial | assumption, by first | rfl | trivial | assumption, _, _, rfl, rfl, rfl, again hlt c3⟩
        · have d2 := ltF c2
          simp only [go_sem, ↓reduceIte, Nat.reduceEqDiff, Nat.reduceAdd, Bool.false_eq_true, Int.reduceToNat, hq, h16, g2, g8, g9, g10, g11, g13, g14, d1, mulU hqb, mulL (a := r) (by omega), addU wr, d2]
          rw [hs.done c2]
          exact ⟨by first | rfl | trivial | assumption, by first | rfl | trivial | assumption, by first | rfl | trivial | assumption, by first | rfl | trivial | assumption, by first | rfl | trivial | assumption, by first | rfl | trivial | assumption, by first | rfl | trivial | assumption, by first | rfl | trivial | assumption, by first | rfl | trivial | assumption⟩
      · have d1 : decide ((4294967296 : Int) ≤ (n : Int)) = true := by simp; omega
        have hlt := hs.lt (.inl i1)
        have hn1 : 0 < n := Nat.lt_of_le_of_lt (Nat.zero_le _) hlt
        simp only [go_sem, ↓reduceIte, Nat.reduceEqDiff, Nat.reduceAdd, Bool.false_eq_true, Int.reduceToNat, hq, h16, g2, g8, g9, g10, g11, g13, g14, d1, subN1 (a := n) (by omega) (by omega), addU (a := r) (b := a) (by omega)]
        refine cond_split (fun c3 => ?_) (fun c3 => ?_)
        · simp only [go_sem, ↓reduceIte, Nat.reduceEqDiff, Nat.reduceAdd, Bool.false_eq_true, Int.reduceToNat, g2, g8, g9, g10, g11, g13, g14]
          rw [stop hlt c3]
          exact ⟨by first | rfl | trivial | assumption, by first | rfl | trivial | assumption, by first | rfl | trivial | assumption, by first | rfl | trivial | assumption, by first | rfl | trivial | assumption, by first | rfl | trivial | assumption, by first | rfl | trivial | assumption, by first | rfl | trivial | assumption, by first | rfl | trivial | assumption⟩
        · simp only [go_sem, ↓reduceIte, Nat.reduceEqDiff, Nat.reduceAdd, Bool.false_eq_true, Int.reduceToNat, g2, g8, g9, g10, g11, g13, g14]
          exact ⟨n - 1, by omega, by first | rfl | trivial | assumption, by first | rfl | trivial | assumption, by first | rfl | trivial | assumption, by first | rfl | trivial | assumption, by first | rfl | trivial | assumption, by first | rfl | trivial | assumption, by first | rfl | trivial | assumption, by first | rfl | trivial | assumption, _, _, rfl, rfl, rfl, again hlt c3⟩
    · rintro ρ h1 ⟨rfl, g2, g8, g9, g10, g11, g13, g14, g15⟩
      have hb1 := sub_back (U := U) (c := c1) (by omega) h64 hQ1 hc1
      rw [← hR] at hb1
      have hRb : R < 18446744073709551616 := by omega
      simp only [go_sem, ↓reduceIte, Nat.reduceEqDiff, Nat.reduceAdd, Bool.false_eq_true, Int.reduceToNat, g2, g8, g9, g10, g11, g13, g14, g15, hb1, tdivN, wUn (Nat.lt_of_le_of_lt (Nat.div_le_self R a) hRb), remU hRb]
      refine ⟨by omega, ?_⟩
      refine loop_cut (fun ρ' h' => h' = h1 ∧ ρ' 2 = .int .u64 ((Y : Nat) : Int) ∧ ρ' 8 = .int .u64 ((s : Nat) : Int) ∧ ρ' 9 = .int .u64 ((a : Nat) : Int) ∧ ρ' 10 = .int .u64 ((b : Nat) : Int) ∧ ρ' 14 = .int .u64 ((c0 : Nat) : Int) ∧ ρ' 15 = .int .u64 ((Q1 : Nat) : Int) ∧ ρ' 17 = .int .u64 ((R : Nat) : Int) ∧ ρ' 18 = .int .u64 (Q0 : Int)) ?_ ?_
      · refine ⟨fun n ρ h' => h' = h1 ∧ ρ 2 = .int .u64 ((Y : Nat) : Int) ∧ ρ 8 = .int .u64 ((s : Nat) : Int) ∧ ρ 9 = .int .u64 ((a : Nat) : Int) ∧ ρ 10 = .int .u64 ((b : Nat) : Int) ∧ ρ 14 = .int .u64 ((c0 : Nat) : Int) ∧ ρ 15 = .int .u64 ((Q1 : Nat) : Int) ∧ ρ 17 = .int .u64 ((R : Nat) : Int) ∧ ∃ q r, n = q ∧ ρ 18 = .int .u64 (q : Nat) ∧ ρ 16 = .int .u64 (r : Nat) ∧ Srch R Y a b c0 Q0 q r, _, ⟨rfl, by first | rfl | trivial | assumption, by first | rfl | trivial | assumption, by first | rfl | trivial | assumption, by first | rfl | trivial | assumption, by first | rfl | trivial | assumption, by first | rfl | trivial | assumption, by first | rfl | trivial | assumption, _, _, rfl, by first | rfl | trivial | assumption, by first | rfl | trivial | assumption, Srch.start hQ0 hY hRl ha ha2 hb hc0⟩, ?_⟩
        rintro n ρ h' ⟨rfl, g2, g8, g9, g10, g14, g15, g17, q, r, rfl, hq, h16, hs⟩
        have hr := hs.hr
        have hc := hs.hc
        have hq1 := hs.hq1
        have wr : 4294967296 * r + c0 < 18446744073709551616 := by omega
        have again : Q0 < n → decide ((4294967296 : Int) ≤ ((r + a : Nat) : Int)) = false → Srch R Y a b c0 Q0 (n - 1) (r + a) := fun h1 h2 => hs.next h1 (by simp at h2; omega)
        have stop : Q0 < n → decide ((4294967296 : Int) ≤ ((r + a : Nat) : Int)) = true → n - 1 = Q0 := fun h1 h2 => hs.out h1 (by simp at h2; omega)
        rcases Nat.lt_or_ge n 4294967296 with i1 | i1
        · have d1 : decide ((4294967296 : Int) ≤ (n : Int)) = false := by simp; omega
          have hqb : n * b < 18446744073709551616 := by
            have h3 : n * b ≤ 4294967295 * 4294967295 := Nat.mul_le_mul (by omega) (by omega)
            omega
          rcases Nat.lt_or_ge (4294967296 * r + c0) (n * b) with c2 | c2
          · have d2 := ltT c2
            have hlt := hs.lt (.inr c2)
            have hn1 : 0 < n := Nat.lt_of_le_of_lt (Nat.zero_le _) hlt
            simp only [go_sem, ↓reduceIte, Nat.reduceEqDiff, Nat.reduceAdd, Bool.false_eq_true, Int.reduceToNat, hq, h16, g2, g8, g9, g10, g14, g15, g17, d1, mulU hqb, mulL (a := r) (by omega), addU wr, d2, subN1 (a := n) (by omega) (by omega), addU (a := r) (b := a) (by omega)]
            refine cond_split (fun c3 => ?_) (fun c3 => ?_)
            · simp only [go_sem, ↓reduceIte, Nat.reduceEqDiff, Nat.reduceAdd, Bool.false_eq_true, Int.reduceToNat, g2, g8, g9, g10, g14, g15, g17]
              rw [stop hlt c3]
              exact ⟨by first | rfl | trivial | assumption, by first | rfl | trivial | assumption, by first | rfl | trivial | assumption, by first | rfl | trivial | assumption, by first | rfl | trivial | assumption, by first | rfl | trivial | assumption, by first | rfl | trivial | assumption, by first | rfl | trivial | assumption, by first | rfl | trivial | assumption⟩
            · simp only [go_sem, ↓reduceIte, Nat.reduceEqDiff, Nat.reduceAdd, Bool.false_eq_true, Int.reduceToNat, g2, g8, g9, g10, g14, g15, g17]
              exact ⟨n - 1, by omega, by first | rfl | trivial | assumption, by first | rfl | trivial | assumption, by first | rfl | trivial | assumption, by first | rfl | trivial | assumption, by first | rfl | trivial | assumption, by first | rfl | trivial | assumption, by first | rfl | trivial | assumption, by first | rfl | trivial | assumption, _, _, rfl, rfl, rfl, again hlt c3⟩
          · have d2 := ltF c2
            simp only [go_sem, ↓reduceIte, Nat.reduceEqDiff, Nat.reduceAdd, Bool.false_eq_true, Int.reduceToNat, hq, h16, g2, g8, g9, g10, g14, g15, g17, d1, mulU hqb, mulL (a := r) (by omega), addU wr, d2]
            rw [hs.done c2]
            exact ⟨by first | rfl | trivial | assumption, by first | rfl | trivial | assumption, by first | rfl | trivial | assumption, by first | rfl | trivial | assumption, by first | rfl | trivial | assumption, by first | rfl | trivial | assumption, by first | rfl | trivial | assumption, by first | rfl | trivial | assumption, by first | rfl | trivial | assumption⟩
        · have d1 : decide ((4294967296 : Int) ≤ (n : Int)) = true := by simp; omega
          have hlt := hs.lt (.inl i1)
          have hn1 : 0 < n := Nat.lt_of_le_of_lt (Nat.zero_le _) hlt
          simp only [go_sem, ↓reduceIte, Nat.reduceEqDiff, Nat.reduceAdd, Bool.false_eq_true, Int.reduceToNat, hq, h16, g2, g8, g9, g10, g14, g15, g17, d1, subN1 (a := n) (by omega) (by omega), addU (a := r) (b := a) (by omega)]
          refine cond_split (fun c3 => ?_) (fun c3 => ?_)
          · simp only [go_sem, ↓reduceIte, Nat.reduceEqDiff, Nat.reduceAdd, Bool.false_eq_true, Int.reduceToNat, g2, g8, g9, g10, g14, g15, g17]
            rw [stop hlt c3]
            exact ⟨by first | rfl | trivial | assumption, by first | rfl | trivial | assumption, by first | rfl | trivial | assumption, by first | rfl | trivial | assumption, by first | rfl | trivial | assumption, by first | rfl | trivial | assumption, by first | rfl | trivial | assumption, by first | rfl | trivial | assumption, by first | rfl | trivial | assumption⟩
          · simp only [go_sem, ↓reduceIte, Nat.reduceEqDiff, Nat.reduceAdd, Bool.false_eq_true, Int.reduceToNat, g2, g8, g9, g10, g14, g15, g17]
            exact ⟨n - 1, by omega, by first | rfl | trivial | assumption, by first | rfl | trivial | assumption, by first | rfl | trivial | assumption, by first | rfl | trivial | assumption, by first | rfl | trivial | assumption, by first | rfl | trivial | assumption, by first | rfl | trivial | assumption, by first | rfl | trivial | assumption, _, _, rfl, rfl, rfl, again hlt c3⟩
      · rintro ρ h' ⟨rfl, g2, g8, g9, g10, g14, g15, g17, g18⟩
        have hb0 := sub_back (U := R) (c := c0) (by omega) h64 hQ0 hc0
        have e1 : IntKind.u64.wrap (IntKind.u64.wrap ((Q1 : Int) * 4294967296) + (Q0 : Int)) = ((Q1 * 4294967296 + Q0 : Nat) : Int) := by
          rw [wUm, wUm]
          omega
        simp only [go_sem, ↓reduceIte, Nat.reduceEqDiff, Nat.reduceAdd, Bool.false_eq_true, Int.reduceToNat, g2, g8, g9, g10, g14, g15, g17, g18, hb0, e1, hsh]
        exact ⟨by omega, fun _ => hk⟩
end Ab
end Go.Proofs.Ytnmnkocibjdhjaa
