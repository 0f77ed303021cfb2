/- What arguments of the statements' types are like. No condition. -/
import Derived.Test.YteoagnggnekfiaaD1
import Derived.Test.YteoagnggnekfiaaProg
import Derived.KernelRfl
import Derived.Test.YteoagnggnekfiaaL2
namespace Go.Proofs.Yteoagnggnekfiaa
namespace Ab
open Go Go.RowKit
section
variable {h : H} {u : AV}
theorem reads_int {t : TypeId} {k : IntKind} (ht : Try.prog.underlying t = some (.int k)) (r : ReadsV Try.prog h t u) : ∃ n : Int, u = .int k n ∧ (Lit.int k n).wf = true := by
  unfold ReadsV at r
  rw [ht] at r
  cases r with
  | int ht' hw => rw [ht] at ht'; injection ht' with e; injection e with e; subst e; exact ⟨_, rfl, hw⟩
  | bool ht' => rw [ht] at ht'; cases ht'
  | str ht' => rw [ht] at ht'; cases ht'
  | snil ht' => rw [ht] at ht'; cases ht'
  | sl ht' => rw [ht] at ht'; cases ht'
  | struct ht' => rw [ht] at ht'; cases ht'
theorem reads_u64 (r : ReadsV Try.prog h 29 u) : ∃ n : Nat, u = .int .u64 (n : Int) ∧ n < 18446744073709551616 := by
  obtain ⟨n, rfl, hw⟩ := reads_int Try.underlying29 r
  obtain ⟨m, rfl, hm⟩ := wf_u64 hw
  exact ⟨m, rfl, hm⟩
theorem reads_i64 (r : ReadsV Try.prog h 3 u) : ∃ n : Int, u = .int .i64 n ∧ -9223372036854775808 ≤ n ∧ n < 9223372036854775808 := by
  obtain ⟨n, rfl, hw⟩ := reads_int Try.underlying3 r
  exact ⟨n, rfl, wf_i64 hw⟩
theorem reads_bool (r : ReadsV Try.prog h 4 u) : ∃ b : Bool, u = .bool b := by
  have ht := Try.underlying4
  unfold ReadsV at r
  rw [ht] at r
  cases r with
  | int ht' hw => rw [ht] at ht'; cases ht'
  | bool ht' => exact ⟨_, rfl⟩
  | str ht' => rw [ht] at ht'; cases ht'
  | snil ht' => rw [ht] at ht'; cases ht'
  | sl ht' => rw [ht] at ht'; cases ht'
  | struct ht' => rw [ht] at ht'; cases ht'
theorem cell_int {t : TypeId} {k : IntKind} (ht : Try.prog.underlying t = some (.int k)) {l : List AV} (r : Reads Try.prog h t l) : ∃ n : Int, l = [.int k n] ∧ (Lit.int k n).wf = true := by
  cases r with
  | int ht' hw => rw [ht] at ht'; injection ht' with e; injection e with e; subst e; exact ⟨_, rfl, hw⟩
  | bool ht' => rw [ht] at ht'; cases ht'
  | str ht' => rw [ht] at ht'; cases ht'
  | snil ht' => rw [ht] at ht'; cases ht'
  | sl ht' => rw [ht] at ht'; cases ht'
  | struct ht' => rw [ht] at ht'; cases ht'
/-- A slice of whole numbers. -/
theorem cell_ints {t e : TypeId} {k : IntKind} (ht : Try.prog.underlying t = some (.slice e)) (he : Try.prog.underlying e = some (.int k)) (hz : Try.prog.cellsOf e = 1) {l : List AV} (r : Reads Try.prog h t l) : ∃ v xs, l = [v] ∧ IsW k h v xs ∧ (∀ x ∈ xs, (Lit.int k x).wf = true) ∧ xs.length ≤ maxLen := by
  cases r with
  | int ht' hw => rw [ht] at ht'; cases ht'
  | bool ht' => rw [ht] at ht'; cases ht'
  | str ht' => rw [ht] at ht'; cases ht'
  | snil ht' => exact ⟨_, [], rfl, ⟨none, 0, none, rfl, .inl ⟨rfl, rfl, rfl⟩⟩, fun x hx => (by cases hx), by simp⟩
  | struct ht' => rw [ht] at ht'; cases ht'
  | @sl _ e' id len r ht' hr ho hlen hl hall =>
    rw [ht] at ht'
    injection ht' with e1
    injection e1 with e1
    subst e1
    rw [hz, Nat.mul_one] at hl
    have hall' : ∀ i, (hi : i < len) → ∃ n : Int, r.cells[i]? = some (.int k n) ∧ (Lit.int k n).wf = true := by
      intro i hi
      obtain ⟨n, e2, hw⟩ := cell_int he (hall i hi)
      refine ⟨n, ?_, hw⟩
      rw [hz, Nat.mul_one] at e2
      have := congrArg (fun l => l[0]?) e2
      simpa [List.getElem?_take, List.getElem?_drop] using this
    let xs : List Int := r.cells.map fun v => match v with | .int _ n => n | _ => 0
    have hx : ∀ i : Nat, i < len → ∃ n, r.cells[i]? = some (.int k n) ∧ xs[i]? = some n ∧ (Lit.int k n).wf = true := by
      intro i hi
      obtain ⟨n, h1, h2⟩ := hall' i hi
      exact ⟨n, h1, by simp [xs, h1], h2⟩
    have hxl : xs.length = len := by simp [xs, hl]
    refine ⟨_, xs, rfl, ⟨some id, 0, none, by rw [hxl], .inr ⟨id, r, rfl, hr, .inl ho, by omega, ?_⟩⟩, fun x hm => ?_, by rw [hxl]; exact hlen⟩
    · rw [List.drop_zero, List.take_of_length_le (by omega)]
      apply List.ext_getElem?
      intro i
      rw [W_get]
      rcases Nat.lt_or_ge i len with hi | hi
      · obtain ⟨n, h1, h2, _⟩ := hx i hi
        rw [h1, h2]; rfl
      · rw [List.getElem?_eq_none (by omega), List.getElem?_eq_none (by omega)]; rfl
    · obtain ⟨i, hi, rfl⟩ := List.getElem_of_mem hm
      obtain ⟨n, _, h2, h3⟩ := hx i (by omega)
      rw [List.getElem?_eq_getElem hi] at h2
      injection h2 with h2
      rw [h2]
      exact h3
theorem readsV_slice {t e : TypeId} (ht : Try.prog.underlying t = some (.slice e)) (r : ReadsV Try.prog h t u) : Reads Try.prog h t [u] := by
  unfold ReadsV at r
  rw [ht] at r
  exact r
theorem nats {xs : List Int} (hx : ∀ x ∈ xs, (Lit.int .u64 x).wf = true) : ∃ ys : List Nat, xs = ys.map (fun n : Nat => (n : Int)) ∧ ∀ y ∈ ys, y < 18446744073709551616 := by
  induction xs with
  | nil => exact ⟨[], rfl, by simp⟩
  | cons x xs ih =>
    obtain ⟨ys, e, hy⟩ := ih (fun z hz => hx z (by simp [hz]))
    obtain ⟨m, rfl, hm⟩ := wf_u64 (hx x (by simp))
    refine ⟨m :: ys, by simp [e], fun y hy2 => ?_⟩
    rcases List.mem_cons.1 hy2 with rfl | h2
    · exact hm
    · exact hy y h2
theorem cell_words {t : TypeId} (ht : Try.prog.underlying t = some (.slice 29)) {l : List AV} (r : Reads Try.prog h t l) : ∃ v xs, l = [v] ∧ IsN h v xs ∧ (∀ x ∈ xs, x < 18446744073709551616) ∧ xs.length ≤ maxLen := by
  obtain ⟨v, xs, rfl, h1, h2, h3⟩ := cell_ints ht Try.underlying29 (by kernel_rfl) r
  obtain ⟨ys, rfl, hy⟩ := nats h2
  exact ⟨v, ys, rfl, h1, hy, by simpa using h3⟩
theorem reads_words (r : ReadsV Try.prog h 33 u) : ∃ xs, IsN h u xs ∧ (∀ x ∈ xs, x < 18446744073709551616) ∧ xs.length ≤ maxLen := by
  obtain ⟨v, xs, e, h1, h2, h3⟩ := cell_words (by kernel_rfl) (readsV_slice (e := 29) (by kernel_rfl) r)
  injection e with e
  subst e
  exact ⟨xs, h1, h2, h3⟩
end
end Ab
end Go.Proofs.Yteoagnggnekfiaa
