/- Tables, routes and costs: plain numbers. No condition. -/
import Derived.Test.YteoagnggnekfiaaF4
namespace Go.Proofs.Yteoagnggnekfiaa
namespace Ab
open Go Go.RowKit
/-- How many binary digits. -/
def blen (x : Nat) : Nat := if x = 0 then 0 else Nat.log2 x + 1
theorem blen_spec (x : Nat) : BL x (blen x) := by
  unfold blen BL
  split
  · rename_i h; subst h; simp
  · rename_i h
    exact ⟨(Nat.log2_lt h).1 (Nat.lt_succ_self _), .inr (Nat.log2_self_le h)⟩
theorem BL.uniq {x L M : Nat} (h : BL x L) (k : BL x M) : L = M := by
  have key : ∀ {L M : Nat}, BL x L → BL x M → L ≤ M := by
    intro L M h k
    rcases h.2 with h0 | h0
    · omega
    · rcases Nat.lt_or_ge M L with hl | hl
      · have h1 : 2 ^ M ≤ 2 ^ (L - 1) := Nat.pow_le_pow_right (by omega) (by omega)
        have := k.1
        omega
      · exact hl
  exact Nat.le_antisymm (key h k) (key k h)
theorem blen_mono {x y : Nat} (h : x ≤ y) : blen x ≤ blen y := by
  have hx := blen_spec x
  have hy := blen_spec y
  rcases hx.2 with h0 | h0
  · omega
  · rcases Nat.lt_or_ge (blen y) (blen x) with hl | hl
    · have h1 : 2 ^ (blen y) ≤ 2 ^ (blen x - 1) := Nat.pow_le_pow_right (by omega) (by omega)
      have := hy.1
      omega
    · exact hl
theorem blen_half {x : Nat} (h : 0 < x) : blen x = blen (x / 2) + 1 := by
  have hx := blen_spec (x / 2)
  have : BL x (blen (x / 2) + 1) := by
    refine ⟨by rw [Nat.pow_succ]; have := hx.1; omega, .inr ?_⟩
    rw [Nat.add_sub_cancel]
    rcases hx.2 with h0 | h0
    · rw [h0]; exact h
    · rcases Nat.eq_zero_or_pos (blen (x / 2)) with e | e
      · rw [e]; exact h
      · have : 2 ^ blen (x / 2) = 2 ^ (blen (x / 2) - 1) * 2 := by rw [← Nat.pow_succ]; congr 1; omega
        omega
  exact BL.uniq (blen_spec x) this
theorem blen_le {x k : Nat} (h : x < 2 ^ k) : blen x ≤ k := by
  have hx := blen_spec x
  rcases hx.2 with h0 | h0
  · omega
  · rcases Nat.lt_or_ge k (blen x) with hl | hl
    · have h1 : 2 ^ k ≤ 2 ^ (blen x - 1) := Nat.pow_le_pow_right (by omega) (by omega)
      omega
    · exact hl
/-- Which way a product goes. -/
def routeF (B T N n m : Nat) : Nat := if m = 0 then 0 else if m < B then 1 else if 2 * m ≤ n + 1 then 2 else if m < T then 3 else if N ≤ n + m then 5 else if 2 * ((n + 2) / 3) < m then 4 else 3
def transC (l w : Nat) : Nat := 3 * (w * (2 ^ l / 2) * l + 2 * 2 ^ l) + 6 * 2 ^ l
def transF (n m w : Nat) : Nat := transC (blen (n + m - 1)) w
def costF (B T N : Nat) : Nat → Nat → Nat → Nat
  | 0, _, _ => 0
  | f + 1, n, m =>
    if routeF B T N n m = 1 then n * m
    else if routeF B T N n m = 2 then n / m * costF B T N f m m + costF B T N f m (n % m)
    else if routeF B T N n m = 3 then costF B T N f ((n + 1) / 2) ((n + 1) / 2) + costF B T N f (n - (n + 1) / 2) (m - (n + 1) / 2) + costF B T N f ((n + 1) / 2 + 1) ((n + 1) / 2 + 1)
    else if routeF B T N n m = 4 then costF B T N f ((n + 2) / 3) ((n + 2) / 3) + 3 * costF B T N f ((n + 2) / 3 + 1) ((n + 2) / 3 + 1) + costF B T N f (n - 2 * ((n + 2) / 3)) (m - 2 * ((n + 2) / 3))
    else if routeF B T N n m = 5 then transF n m 3
    else 0
def sqF (B T N : Nat) : Nat → Nat → Nat
  | 0, _ => 0
  | f + 1, n =>
    if routeF B T N n n = 1 then n * (n + 1) / 2
    else if routeF B T N n n = 3 then sqF B T N f ((n + 1) / 2) + sqF B T N f (n - (n + 1) / 2) + sqF B T N f ((n + 1) / 2 + 1)
    else if routeF B T N n n = 4 then sqF B T N f ((n + 2) / 3) + 3 * sqF B T N f ((n + 2) / 3 + 1) + sqF B T N f (n - 2 * ((n + 2) / 3))
    else if routeF B T N n n = 5 then transF n n 2
    else 0
/-- A table that may be used. -/
structure TOk (B T N : Nat) : Prop where
  b1 : 4 ≤ B
  b2 : B ≤ 64
  t1 : 12 ≤ T
  n1 : 64 ≤ N
section
variable {B T N : Nat}
theorem route_cases (n m : Nat) : (routeF B T N n m = 0 ∧ m = 0) ∨ (routeF B T N n m = 1 ∧ 0 < m ∧ m < B) ∨ (routeF B T N n m = 2 ∧ 0 < m ∧ B ≤ m ∧ 2 * m ≤ n + 1) ∨
    (routeF B T N n m = 3 ∧ 0 < m ∧ B ≤ m ∧ n + 1 < 2 * m ∧ (m < T ∨ (n + m < N ∧ m ≤ 2 * ((n + 2) / 3)))) ∨ (routeF B T N n m = 4 ∧ 0 < m ∧ B ≤ m ∧ n + 1 < 2 * m ∧ T ≤ m ∧ n + m < N ∧ 2 * ((n + 2) / 3) < m) ∨
    (routeF B T N n m = 5 ∧ 0 < m ∧ B ≤ m ∧ n + 1 < 2 * m ∧ T ≤ m ∧ N ≤ n + m) := by
  unfold routeF
  by_cases h0 : m = 0
  · rw [if_pos h0]; exact .inl ⟨rfl, h0⟩
  rw [if_neg h0]
  by_cases h1 : m < B
  · rw [if_pos h1]; exact .inr (.inl ⟨rfl, by omega, h1⟩)
  rw [if_neg h1]
  by_cases h2 : 2 * m ≤ n + 1
  · rw [if_pos h2]; exact .inr (.inr (.inl ⟨rfl, by omega, by omega, h2⟩))
  rw [if_neg h2]
  by_cases h3 : m < T
  · rw [if_pos h3]; exact .inr (.inr (.inr (.inl ⟨rfl, by omega, by omega, by omega, .inl h3⟩)))
  rw [if_neg h3]
  by_cases h5 : N ≤ n + m
  · rw [if_pos h5]; exact .inr (.inr (.inr (.inr (.inr ⟨rfl, by omega, by omega, by omega, by omega, h5⟩))))
  rw [if_neg h5]
  by_cases h4 : 2 * ((n + 2) / 3) < m
  · rw [if_pos h4]; exact .inr (.inr (.inr (.inr (.inl ⟨rfl, by omega, by omega, by omega, by omega, by omega, h4⟩))))
  rw [if_neg h4]; exact .inr (.inr (.inr (.inl ⟨rfl, by omega, by omega, by omega, .inr ⟨by omega, by omega⟩⟩)))
theorem cost_0 {f n m : Nat} (h : routeF B T N n m = 0) : costF B T N f n m = 0 := by cases f <;> simp [costF, h]
theorem cost_1 {f n m : Nat} (h : routeF B T N n m = 1) : costF B T N (f + 1) n m = n * m := by simp [costF, h]
theorem cost_2 {f n m : Nat} (h : routeF B T N n m = 2) : costF B T N (f + 1) n m = n / m * costF B T N f m m + costF B T N f m (n % m) := by simp [costF, h]
theorem cost_3 {f n m : Nat} (h : routeF B T N n m = 3) : costF B T N (f + 1) n m = costF B T N f ((n + 1) / 2) ((n + 1) / 2) + costF B T N f (n - (n + 1) / 2) (m - (n + 1) / 2) + costF B T N f ((n + 1) / 2 + 1) ((n + 1) / 2 + 1) := by simp [costF, h]
theorem cost_4 {f n m : Nat} (h : routeF B T N n m = 4) : costF B T N (f + 1) n m = costF B T N f ((n + 2) / 3) ((n + 2) / 3) + 3 * costF B T N f ((n + 2) / 3 + 1) ((n + 2) / 3 + 1) + costF B T N f (n - 2 * ((n + 2) / 3)) (m - 2 * ((n + 2) / 3)) := by simp [costF, h]
theorem cost_5 {f n m : Nat} (h : routeF B T N n m = 5) : costF B T N (f + 1) n m = transF n m 3 := by simp [costF, h]
theorem sq_0 {f n : Nat} (h : routeF B T N n n = 0) : sqF B T N f n = 0 := by cases f <;> simp [sqF, h]
theorem sq_1 {f n : Nat} (h : routeF B T N n n = 1) : sqF B T N (f + 1) n = n * (n + 1) / 2 := by simp [sqF, h]
theorem sq_3 {f n : Nat} (h : routeF B T N n n = 3) : sqF B T N (f + 1) n = sqF B T N f ((n + 1) / 2) + sqF B T N f (n - (n + 1) / 2) + sqF B T N f ((n + 1) / 2 + 1) := by simp [sqF, h]
theorem sq_4 {f n : Nat} (h : routeF B T N n n = 4) : sqF B T N (f + 1) n = sqF B T N f ((n + 2) / 3) + 3 * sqF B T N f ((n + 2) / 3 + 1) + sqF B T N f (n - 2 * ((n + 2) / 3)) := by simp [sqF, h]
theorem sq_5 {f n : Nat} (h : routeF B T N n n = 5) : sqF B T N (f + 1) n = transF n n 2 := by simp [sqF, h]
/-- The two halves. -/
theorem kara_even {h j c1 c2 c3 : Nat} (hh : 2 ≤ h) (hj : 1 ≤ j) (hjh : j ≤ h) (h1 : c1 + 14 * h ≤ 8 * (h * h)) (h2 : c2 + 14 * (2 * j - h) ≤ 8 * (h * j)) (h3 : c3 + 14 * (h + 1) ≤ 8 * ((h + 1) * (h + 1))) :
    c1 + c2 + c3 + 14 * (2 * j) ≤ 8 * (2 * h * (h + j)) := by
  have e1 : (h + 1) * (h + 1) = h * h + 2 * h + 1 := by grind
  have e2 : 2 * h * (h + j) = 2 * (h * h) + 2 * (h * j) := by grind
  rw [e1] at h3
  rw [e2]
  have : h = 2 ∨ h = 3 ∨ 4 ≤ h := by omega
  rcases this with rfl | rfl | h4
  · omega
  · omega
  · have := Nat.mul_le_mul_right j h4
    omega
theorem kara_odd {h j c1 c2 c3 : Nat} (hh : 3 ≤ h) (hj : 1 ≤ j) (hjh : j ≤ h - 1) (h1 : c1 + 14 * h ≤ 8 * (h * h)) (h2 : c2 + 14 * (2 * j - (h - 1)) ≤ 8 * ((h - 1) * j)) (h3 : c3 + 14 * (h + 1) ≤ 8 * ((h + 1) * (h + 1))) :
    c1 + c2 + c3 + 14 * (2 * j + 1) ≤ 8 * ((2 * h - 1) * (h + j)) := by
  obtain ⟨g, rfl⟩ : ∃ g, h = g + 3 := ⟨h - 3, by omega⟩
  have e0 : g + 3 - 1 = g + 2 := by omega
  have e3 : 2 * (g + 3) - 1 = 2 * g + 5 := by omega
  rw [e0] at h2
  have e1 : (g + 3 + 1) * (g + 3 + 1) = g * g + 8 * g + 16 := by grind
  have e2 : (2 * g + 5) * (g + 3 + j) = 2 * (g * g) + 11 * g + 15 + 2 * (g * j) + 5 * j := by grind
  have e4 : (g + 3) * (g + 3) = g * g + 6 * g + 9 := by grind
  have e5 : (g + 2) * j = g * j + 2 * j := by grind
  rw [e1] at h3
  rw [e4] at h1
  rw [e5] at h2
  rw [e3, e2]
  have : g = 0 ∨ 1 ≤ g := by omega
  rcases this with rfl | h4
  · omega
  · have := Nat.mul_le_mul_right j h4
    omega
theorem toom_step {k r j c1 c2 c3 : Nat} (hk : 4 ≤ k) (hr : r ≤ 2) (hj : 1 ≤ j) (hjk : j + r ≤ k) (h1 : c1 + 14 * k ≤ 8 * (k * k)) (h2 : c2 + 14 * (k + 1) ≤ 8 * ((k + 1) * (k + 1))) (h3 : c3 ≤ 8 * ((k - r) * j)) :
    c1 + 3 * c2 + c3 + 14 * (k + 2 * j + r) ≤ 8 * ((3 * k - r) * (2 * k + j)) := by
  obtain ⟨g, rfl⟩ : ∃ g, k = g + 4 := ⟨k - 4, by omega⟩
  have e1 : (g + 4 + 1) * (g + 4 + 1) = g * g + 10 * g + 25 := by grind
  have e4 : (g + 4) * (g + 4) = g * g + 8 * g + 16 := by grind
  rw [e1] at h2
  rw [e4] at h1
  have : r = 0 ∨ r = 1 ∨ r = 2 := by omega
  rcases this with rfl | rfl | rfl
  · have e2 : (3 * (g + 4) - 0) * (2 * (g + 4) + j) = 6 * (g * g) + 48 * g + 96 + 3 * (g * j) + 12 * j := by rw [Nat.sub_zero]; grind
    have e3 : (g + 4 - 0) * j = g * j + 4 * j := by rw [Nat.sub_zero]; grind
    rw [e3] at h3
    rw [e2]
    omega
  · have e2 : (3 * (g + 4) - 1) * (2 * (g + 4) + j) = 6 * (g * g) + 46 * g + 88 + 3 * (g * j) + 11 * j := by rw [show 3 * (g + 4) - 1 = 3 * g + 11 by omega]; grind
    have e3 : (g + 4 - 1) * j = g * j + 3 * j := by rw [show g + 4 - 1 = g + 3 by omega]; grind
    rw [e3] at h3
    rw [e2]
    omega
  · have e2 : (3 * (g + 4) - 2) * (2 * (g + 4) + j) = 6 * (g * g) + 44 * g + 80 + 3 * (g * j) + 10 * j := by rw [show 3 * (g + 4) - 2 = 3 * g + 10 by omega]; grind
    have e3 : (g + 4 - 2) * j = g * j + 2 * j := by rw [show g + 4 - 2 = g + 2 by omega]; grind
    rw [e3] at h3
    rw [e2]
    omega
theorem school_step {n m : Nat} (h : 2 ≤ n) (hm : m ≤ n) : n * m + 14 * (2 * m - n) ≤ 8 * (n * m) := by
  have := Nat.mul_le_mul_right m h
  omega
theorem block_step {n m q r c1 c2 : Nat} (e : n = m * q + r) (h1 : c1 + 14 * m ≤ 8 * (m * m)) (h2 : c2 ≤ 8 * (m * r)) (hq : 1 ≤ q) (hm : 1 ≤ m) (h : 2 * m ≤ n + 1) : q * c1 + c2 + 14 * (2 * m - n) ≤ 8 * (n * m) := by
  have a := Nat.mul_le_mul_left q h1
  have b : 1 * 1 ≤ q * m := Nat.mul_le_mul hq hm
  rw [Nat.mul_add] at a
  have e1 : q * (14 * m) = 14 * (q * m) := by grind
  have e2 : q * (8 * (m * m)) = 8 * (m * q * m) := by grind
  have e3 : n * m = m * q * m + m * r := by rw [e]; grind
  rw [e1, e2] at a
  rw [e3]
  omega
/-- Without transforms. -/
theorem cost_kb (ok : TOk B T N) : ∀ f n m, m ≤ n → 2 ≤ n → n < f → (m < T ∨ n + m < N) → costF B T N f n m + 14 * (2 * m - n) ≤ 8 * (n * m) := by
  obtain ⟨b1, b2, t1, n1⟩ := ok
  intro f
  induction f with
  | zero => intro n m _ _ h; omega
  | succ f ih =>
    intro n m hm hn hf ht
    rcases route_cases (B := B) (T := T) (N := N) n m with ⟨e, h0⟩ | ⟨e, h0, h1⟩ | ⟨e, h0, h1, h2⟩ | ⟨e, h0, h1, h2, h3⟩ | ⟨e, h0, h1, h2, h3, h4, h5⟩ | ⟨e, h0, h1, h2, h3, h4⟩
    · rw [cost_0 e]; omega
    · rw [cost_1 e]; exact school_step hn hm
    · rw [cost_2 e]
      have a := ih m m (Nat.le_refl _) (by omega) (by omega) (by omega)
      have b := ih m (n % m) (Nat.le_of_lt (Nat.mod_lt _ h0)) (by omega) (by omega) (by have := Nat.mod_lt n h0; omega)
      rw [show 2 * m - m = m by omega] at a
      exact block_step (Nat.div_add_mod n m).symm a (by omega) (Nat.div_pos (by omega) h0) h0 h2
    · rw [cost_3 e]
      have ht2 : ∀ a b, b ≤ m → a + b ≤ n + m → (b < T ∨ a + b < N) := by omega
      have a := ih ((n + 1) / 2) ((n + 1) / 2) (Nat.le_refl _) (by omega) (by omega) (ht2 _ _ (by omega) (by omega))
      have b := ih (n - (n + 1) / 2) (m - (n + 1) / 2) (by omega) (by omega) (by omega) (ht2 _ _ (by omega) (by omega))
      have c := ih ((n + 1) / 2 + 1) ((n + 1) / 2 + 1) (Nat.le_refl _) (by omega) (by omega) (ht2 _ _ (by omega) (by omega))
      obtain ⟨h, hh⟩ : ∃ h, h = (n + 1) / 2 := ⟨_, rfl⟩
      obtain ⟨j, hj⟩ : ∃ j, m = h + j := ⟨m - h, by omega⟩
      rw [← hh] at a b c ⊢
      rw [show 2 * h - h = h by omega] at a
      rw [show 2 * (h + 1) - (h + 1) = h + 1 by omega] at c
      subst hj
      rw [Nat.add_sub_cancel_left] at b ⊢
      rcases Nat.mod_two_eq_zero_or_one n with hp | hp
      · have hn2 : n = 2 * h := by omega
        subst hn2
        rw [show 2 * h - h = h by omega] at b ⊢
        have := kara_even (by omega) (by omega) (by omega) a b c
        rw [show 2 * (h + j) - 2 * h = 2 * j by omega]
        exact this
      · have hn2 : n = 2 * h - 1 := by omega
        rw [show n - h = h - 1 by omega] at b ⊢
        have := kara_odd (by omega) (by omega) (by omega) a b c
        rw [hn2, show 2 * (h + j) - (2 * h - 1) = 2 * j + 1 by omega]
        exact this
    · rw [cost_4 e]
      have ht2 : ∀ a b, a + b ≤ n + m → (b < T ∨ a + b < N) := by omega
      have a := ih ((n + 2) / 3) ((n + 2) / 3) (Nat.le_refl _) (by omega) (by omega) (ht2 _ _ (by omega))
      have b := ih (n - 2 * ((n + 2) / 3)) (m - 2 * ((n + 2) / 3)) (by omega) (by omega) (by omega) (ht2 _ _ (by omega))
      have c := ih ((n + 2) / 3 + 1) ((n + 2) / 3 + 1) (Nat.le_refl _) (by omega) (by omega) (ht2 _ _ (by omega))
      obtain ⟨k, hk⟩ : ∃ k, k = (n + 2) / 3 := ⟨_, rfl⟩
      obtain ⟨j, hj⟩ : ∃ j, m = 2 * k + j := ⟨m - 2 * k, by omega⟩
      obtain ⟨r, hr⟩ : ∃ r, r = 3 * k - n := ⟨_, rfl⟩
      rw [← hk] at a b c ⊢
      rw [show 2 * k - k = k by omega] at a
      rw [show 2 * (k + 1) - (k + 1) = k + 1 by omega] at c
      subst hj
      rw [Nat.add_sub_cancel_left] at b ⊢
      rw [show n - 2 * k = k - r by omega] at b ⊢
      have := toom_step (k := k) (r := r) (j := j) (by omega) (by omega) (by omega) (by omega) a c (show costF B T N f (k - r) j ≤ 8 * ((k - r) * j) by omega)
      rw [show n = 3 * k - r by omega, show 2 * (2 * k + j) - (3 * k - r) = k + 2 * j + r by omega]
      exact this
    · omega
theorem nine (n m : Nat) (h1 : n ≤ 2 * m) (h2 : m ≤ 2 * n) : 2 * ((n + m) * (n + m)) ≤ 9 * (n * m) := by
  obtain ⟨a, ha⟩ : ∃ a, 2 * m = n + a := ⟨2 * m - n, by omega⟩
  obtain ⟨b, hb⟩ : ∃ b, 2 * n = m + b := ⟨2 * n - m, by omega⟩
  have : 9 * (n * m) = 2 * ((n + m) * (n + m)) + a * b := by grind
  omega
theorem trans_bound {n m : Nat} (h1 : 64 ≤ n + m) (h2 : n + 1 < 2 * m) (h3 : m ≤ n) (h4 : n ≤ 16384) : transF n m 3 ≤ 8 * (n * m) := by
  have h9 := nine n m (by omega) (by omega)
  have hs := blen_spec (n + m - 1)
  unfold transF
  generalize blen (n + m - 1) = l at *
  obtain ⟨s1, s2⟩ := hs
  have hl : l ≤ 15 := by
    rcases Nat.lt_or_ge 15 l with h | h
    · have h5 : 2 ^ 15 ≤ 2 ^ (l - 1) := Nat.pow_le_pow_right (by omega) (by omega)
      have : 2 ^ (l - 1) ≤ n + m - 1 := s2.resolve_left (by omega)
      omega
    · exact h
  have hl6 : 6 ≤ l := by
    rcases Nat.lt_or_ge l 6 with h | h
    · have h5 : 2 ^ l ≤ 2 ^ 5 := Nat.pow_le_pow_right (by omega) (by omega)
      omega
    · exact h
  have tb : ∀ S, S ≤ n + m → 9 * transC l 3 ≤ 16 * (S * S) → transC l 3 ≤ 8 * (n * m) := by
    intro S hS hk
    have := Nat.mul_le_mul hS hS
    omega
  have : l = 6 ∨ l = 7 ∨ l = 8 ∨ l = 9 ∨ l = 10 ∨ l = 11 ∨ l = 12 ∨ l = 13 ∨ l = 14 ∨ l = 15 := by omega
  rcases this with rfl | rfl | rfl | rfl | rfl | rfl | rfl | rfl | rfl | rfl
  · exact tb 64 h1 (by decide)
  · have : 64 ≤ n + m - 1 := s2.resolve_left (by decide)
    exact tb 65 (by omega) (by decide)
  · have : 128 ≤ n + m - 1 := s2.resolve_left (by decide)
    exact tb 129 (by omega) (by decide)
  · have : 256 ≤ n + m - 1 := s2.resolve_left (by decide)
    exact tb 257 (by omega) (by decide)
  · have : 512 ≤ n + m - 1 := s2.resolve_left (by decide)
    exact tb 513 (by omega) (by decide)
  · have : 1024 ≤ n + m - 1 := s2.resolve_left (by decide)
    exact tb 1025 (by omega) (by decide)
  · have : 2048 ≤ n + m - 1 := s2.resolve_left (by decide)
    exact tb 2049 (by omega) (by decide)
  · have : 4096 ≤ n + m - 1 := s2.resolve_left (by decide)
    exact tb 4097 (by omega) (by decide)
  · have : 8192 ≤ n + m - 1 := s2.resolve_left (by decide)
    exact tb 8193 (by omega) (by decide)
  · have : 16384 ≤ n + m - 1 := s2.resolve_left (by decide)
    exact tb 16385 (by omega) (by decide)
theorem cost_bound (ok : TOk B T N) : ∀ f n m, m ≤ n → n < f → n ≤ 16384 → costF B T N f n m ≤ 8 * (n * m) := by
  intro f
  induction f with
  | zero => intro n m _ h; omega
  | succ f ih =>
    intro n m hm hf hn
    have kb := cost_kb ok (f + 1) n m hm
    obtain ⟨b1, b2, t1, n1⟩ := ok
    rcases route_cases (B := B) (T := T) (N := N) n m with ⟨e, h0⟩ | ⟨e, h0, h1⟩ | ⟨e, h0, h1, h2⟩ | ⟨e, h0, h1, h2, h3⟩ | ⟨e, h0, h1, h2, h3, h4, h5⟩ | ⟨e, h0, h1, h2, h3, h4⟩
    · rw [cost_0 e]; omega
    · rw [cost_1 e]; omega
    · rw [cost_2 e]
      have a := ih m m (Nat.le_refl _) (by omega) (by omega)
      have b := ih m (n % m) (Nat.le_of_lt (Nat.mod_lt _ h0)) (by omega) (by omega)
      have a' := Nat.mul_le_mul_left (n / m) a
      have e3 : n * m = m * (n / m) * m + m * (n % m) := by
        conv => lhs; rw [← Nat.div_add_mod n m]
        rw [Nat.add_mul, Nat.mul_comm (n % m)]
      have e2 : n / m * (8 * (m * m)) = 8 * (m * (n / m) * m) := by grind
      rw [e3]
      omega
    · have := kb (by omega) hf (by omega)
      omega
    · have := kb (by omega) hf (by omega)
      omega
    · rw [cost_5 e]
      exact trans_bound (by omega) (by omega) hm hn
theorem trans_mono {n m a b w : Nat} (h1 : n ≤ a) (h2 : m ≤ b) : transF n m w ≤ transF a b w := by
  unfold transF
  have hl := blen_mono (show n + m - 1 ≤ a + b - 1 by omega)
  unfold transC
  have hp : 2 ^ blen (n + m - 1) ≤ 2 ^ blen (a + b - 1) := Nat.pow_le_pow_right (by omega) hl
  have h3 : w * (2 ^ blen (n + m - 1) / 2) * blen (n + m - 1) ≤ w * (2 ^ blen (a + b - 1) / 2) * blen (a + b - 1) := Nat.mul_le_mul (Nat.mul_le_mul_left _ (Nat.div_le_div_right hp)) hl
  omega
theorem trans_ways {n m w v : Nat} (h : w ≤ v) : transF n m w ≤ transF n m v := by
  unfold transF transC
  have h3 : w * (2 ^ blen (n + m - 1) / 2) * blen (n + m - 1) ≤ v * (2 ^ blen (n + m - 1) / 2) * blen (n + m - 1) := Nat.mul_le_mul_right _ (Nat.mul_le_mul_right _ h)
  omega
theorem trans_pos (n m w : Nat) : 0 < transF n m w := by
  unfold transF transC
  have : 0 < 2 ^ blen (n + m - 1) := Nat.pow_pos (by omega)
  omega
theorem sq_bound (ok : TOk B T N) : ∀ f n, n < f → sqF B T N f n ≤ costF B T N f n n := by
  intro f
  induction f with
  | zero => intro n h; omega
  | succ f ih =>
    intro n hf
    obtain ⟨b1, b2, t1, n1⟩ := ok
    rcases route_cases (B := B) (T := T) (N := N) n n with ⟨e, h0⟩ | ⟨e, h0, h1⟩ | ⟨e, h0, h1, h2⟩ | ⟨e, h0, h1, h2, h3⟩ | ⟨e, h0, h1, h2, h3, h4, h5⟩ | ⟨e, h0, h1, h2, h3, h4⟩
    · rw [sq_0 e]; omega
    · rw [sq_1 e, cost_1 e, Nat.mul_succ]
      have : n * 1 ≤ n * n := Nat.mul_le_mul_left _ h0
      omega
    · omega
    · rw [sq_3 e, cost_3 e]
      have a := ih ((n + 1) / 2) (by omega)
      have b := ih (n - (n + 1) / 2) (by omega)
      have c := ih ((n + 1) / 2 + 1) (by omega)
      omega
    · rw [sq_4 e, cost_4 e]
      have a := ih ((n + 2) / 3) (by omega)
      have b := ih (n - 2 * ((n + 2) / 3)) (by omega)
      have c := ih ((n + 2) / 3 + 1) (by omega)
      omega
    · rw [sq_5 e, cost_5 e]
      exact trans_ways (by omega)
theorem cost_pos (ok : TOk B T N) : ∀ f n m, m ≤ n → n < f → 0 < m → 0 < costF B T N f n m := by
  intro f
  induction f with
  | zero => intro n m _ h; omega
  | succ f ih =>
    intro n m hm hf hp
    obtain ⟨b1, b2, t1, n1⟩ := ok
    rcases route_cases (B := B) (T := T) (N := N) n m with ⟨e, h0⟩ | ⟨e, h0, h1⟩ | ⟨e, h0, h1, h2⟩ | ⟨e, h0, h1, h2, h3⟩ | ⟨e, h0, h1, h2, h3, h4, h5⟩ | ⟨e, h0, h1, h2, h3, h4⟩
    · omega
    · rw [cost_1 e]; exact Nat.mul_pos (by omega) hp
    · rw [cost_2 e]
      have a := ih m m (Nat.le_refl _) (by omega) hp
      have : 0 < n / m * costF B T N f m m := Nat.mul_pos (Nat.div_pos hm hp) a
      omega
    · rw [cost_3 e]
      have a := ih ((n + 1) / 2) ((n + 1) / 2) (Nat.le_refl _) (by omega) (by omega)
      omega
    · rw [cost_4 e]
      have a := ih ((n + 2) / 3) ((n + 2) / 3) (Nat.le_refl _) (by omega) (by omega)
      omega
    · rw [cost_5 e]
      exact trans_pos _ _ _
theorem cost_fuel (ok : TOk B T N) : ∀ f n m, m ≤ n → n < f → costF B T N (f + 1) n m = costF B T N f n m := by
  intro f
  induction f with
  | zero => intro n m _ h; omega
  | succ f ih =>
    intro n m hm hf
    obtain ⟨b1, b2, t1, n1⟩ := ok
    rcases route_cases (B := B) (T := T) (N := N) n m with ⟨e, h0⟩ | ⟨e, h0, h1⟩ | ⟨e, h0, h1, h2⟩ | ⟨e, h0, h1, h2, h3⟩ | ⟨e, h0, h1, h2, h3, h4, h5⟩ | ⟨e, h0, h1, h2, h3, h4⟩
    · rw [cost_0 e, cost_0 e]
    · rw [cost_1 e, cost_1 e]
    · rw [cost_2 e, cost_2 e, ih m m (Nat.le_refl _) (by omega), ih m (n % m) (Nat.le_of_lt (Nat.mod_lt _ h0)) (by omega)]
    · rw [cost_3 e, cost_3 e, ih _ _ (Nat.le_refl ((n + 1) / 2)) (by omega), ih (n - (n + 1) / 2) (m - (n + 1) / 2) (by omega) (by omega), ih _ _ (Nat.le_refl ((n + 1) / 2 + 1)) (by omega)]
    · rw [cost_4 e, cost_4 e, ih _ _ (Nat.le_refl ((n + 2) / 3)) (by omega), ih (n - 2 * ((n + 2) / 3)) (m - 2 * ((n + 2) / 3)) (by omega) (by omega), ih _ _ (Nat.le_refl ((n + 2) / 3 + 1)) (by omega)]
    · rw [cost_5 e, cost_5 e]
theorem cost_fuels (ok : TOk B T N) {f n m : Nat} (hm : m ≤ n) (hf : n < f) : ∀ k, costF B T N (f + k) n m = costF B T N f n m
  | 0 => rfl
  | k + 1 => by
    rw [← Nat.add_assoc, cost_fuel ok (f + k) n m hm (by omega), cost_fuels ok hm hf k]
theorem cost_same (ok : TOk B T N) {f g n m : Nat} (hm : m ≤ n) (hf : n < f) (hg : n < g) : costF B T N f n m = costF B T N g n m := by
  have a := cost_fuels ok hm (Nat.lt_succ_self n) (f - (n + 1))
  have b := cost_fuels ok hm (Nat.lt_succ_self n) (g - (n + 1))
  rw [show n.succ + (f - (n + 1)) = f by omega] at a
  rw [show n.succ + (g - (n + 1)) = g by omega] at b
  rw [a, b]
/-- By halves alone. -/
theorem cost_kara (ok : TOk B T N) : ∀ f n, n < f → n < T → costF B T N f n n ≤ B * B * 3 ^ blen (n - 3) := by
  intro f
  induction f with
  | zero => intro n h; omega
  | succ f ih =>
    intro n hf ht
    obtain ⟨b1, b2, t1, n1⟩ := ok
    rcases route_cases (B := B) (T := T) (N := N) n n with ⟨e, h0⟩ | ⟨e, h0, h1⟩ | ⟨e, h0, h1, h2⟩ | ⟨e, h0, h1, h2, h3⟩ | ⟨e, h0, h1, h2, h3, h4, h5⟩ | ⟨e, h0, h1, h2, h3, h4⟩
    · rw [cost_0 e]; omega
    · rw [cost_1 e]
      have a : n * n ≤ B * B := Nat.mul_le_mul (by omega) (by omega)
      have : B * B * 1 ≤ B * B * 3 ^ blen (n - 3) := Nat.mul_le_mul_left _ (Nat.pow_pos (by omega))
      omega
    · omega
    · rw [cost_3 e]
      have a := ih ((n + 1) / 2) (by omega) (by omega)
      have b := ih (n - (n + 1) / 2) (by omega) (by omega)
      have c := ih ((n + 1) / 2 + 1) (by omega) (by omega)
      have sub : ∀ x, x ≤ (n + 1) / 2 + 1 → B * B * 3 ^ blen (x - 3) ≤ B * B * 3 ^ blen ((n - 3) / 2) := fun x hx => Nat.mul_le_mul_left _ (Nat.pow_le_pow_right (by omega) (blen_mono (by omega)))
      have a2 := sub ((n + 1) / 2) (by omega)
      have b2' := sub (n - (n + 1) / 2) (by omega)
      have c2 := sub ((n + 1) / 2 + 1) (by omega)
      rw [blen_half (show 0 < n - 3 by omega), Nat.pow_succ, ← Nat.mul_assoc]
      generalize B * B * 3 ^ blen ((n - 3) / 2) = X at *
      have hb : costF B T N f (n - (n + 1) / 2) (n - (n + 1) / 2) ≤ X := by omega
      omega
    · omega
    · omega
end
end Ab
end Go.Proofs.Yteoagnggnekfiaa
