/- Rows of elements of several cells that are only read. -/
import Derived.Test.YtffgechbmhgndaaK1
set_option linter.unusedVariables false
set_option linter.unusedSimpArgs false
namespace Go.Proofs.Ytffgechbmhgndaa
open Go.RowKit

theorem below_dn {B : Nat} {w w1 : World} (h : Below B w w1) (n : Nat) : Below B w (w1.drewN n) := ⟨h.os, h.tape, h.output, h.size, h.block⟩

/-- A slice value of 'n' elements of 'size' cells each that reads as the cells 'xs'. -/
def RowsAt (w : World) (v : Value) (n size : Nat) (xs : List Value) : Prop :=
  ∃ A c, v = .slice A n c ∧ n ≤ c ∧ n ≤ 9223372036854775807 ∧ xs.length = n * size ∧ (0 < n → ∃ g off, A = some ⟨g, off, none⟩ ∧ g < w.heap.size ∧ ∀ j u, xs[j]? = some u → w.cell? ⟨g, off + j, none⟩ = some u)

theorem RowsAt.below {w w1 : World} {v : Value} {n size : Nat} {xs : List Value} (h : RowsAt w v n size xs) (hb : Below w.heap.size w w1) : RowsAt w1 v n size xs := by
  obtain ⟨A, c, hv, hc, hm, hl, hx⟩ := h
  refine ⟨A, c, hv, hc, hm, hl, fun hn => ?_⟩
  obtain ⟨g, off, ha, hg, hx⟩ := hx hn
  exact ⟨g, off, ha, Nat.lt_of_lt_of_le hg hb.size, fun j u hj => (hb.cell (p := ⟨g, off + j, none⟩) hg).trans (hx j u hj)⟩
/-- .. and where the row's block is none of 'F'. -/
theorem RowsAt.form {w : World} {v : Value} {n size : Nat} {xs : List Value} (h : RowsAt w v n size xs) : ∃ A c, v = .slice A n c ∧ n ≤ c ∧ n ≤ 9223372036854775807 := by
  obtain ⟨A, c, hv, hc, hm, _⟩ := h; exact ⟨A, c, hv, hc, hm⟩
theorem RowsAt.cell {w : World} {A : Option Addr} {m c : Nat} {n size : Nat} {xs : List Value} (h : RowsAt w (.slice A m c) n size xs) (hn : 0 < n) : ∃ g off, A = some ⟨g, off, none⟩ ∧ g < w.heap.size ∧ ∀ j u, xs[j]? = some u → w.cell? ⟨g, off + j, none⟩ = some u := by
  obtain ⟨A', c', hv, _, _, _, hx⟩ := h
  simp only [Value.slice.injEq] at hv
  obtain ⟨rfl, _⟩ := hv
  exact hx hn
theorem RowsAt.of_own {w : World} {base : Nat} {e : TypeId} {n size : Nat} {v : Value} {xs : List Value} (h : w.ownsRow base e size v n xs) : RowsAt w v n size xs := by
  obtain ⟨hl, h2⟩ := h
  rcases h2 with ⟨rfl, h0⟩ | ⟨g, cap, cur, rfl, _, hg, hc, hm, hs, ht⟩
  · exact ⟨none, 0, by rw [h0], by omega, by omega, hl, fun hn => by omega⟩
  · refine ⟨_, cap, rfl, hc, by unfold maxLen at hm; omega, hl, fun _ => ⟨g, 0, rfl, (Array.getElem?_eq_some_iff.1 hg).1, fun j u hj => ?_⟩⟩
    rw [Nat.zero_add, cell_of_row w g j cur e (0, 0) hg]
    rw [← ht, List.getElem?_take] at hj
    split at hj
    · simpa using hj
    · cases hj
theorem RowsAt.lit (w : World) (t : TypeId) (n size : Nat) (xs : List Value) (hl : xs.length = n * size) (hm : n ≤ 9223372036854775807) : RowsAt (w.alloc (.cells xs.toArray t)) (.slice (some ⟨w.heap.size, 0, none⟩) n n) n size xs := by
  refine ⟨_, _, rfl, Nat.le_refl _, hm, hl, fun _ => ⟨w.heap.size, 0, rfl, by simp, fun j u hj => ?_⟩⟩
  rw [Nat.zero_add, cell_of_row _ _ j _ t (0, 0) (heap_alloc_new w _)]
  simpa using hj

theorem RowAt.litAt (w : World) (t : TypeId) (xs : List Value) (hm : xs.length ≤ 9223372036854775807) (H : Nat) (hH : w.heap.size = H) : RowAt (w.alloc (.cells xs.toArray t)) (.slice (some ⟨H, 0, none⟩) xs.length xs.length) xs := by
  subst hH; exact RowAt.lit w t xs hm

/-- The cells of elements of three. -/
theorem flat3_get {α : Type} (f g h : α → Value) (s : List α) (z : α) (j : Nat) (hj : j < s.length) :
    (s.flatMap fun t => [f t, g t, h t])[j * 3]? = some (f (s.getD j z)) ∧ (s.flatMap fun t => [f t, g t, h t])[j * 3 + 1]? = some (g (s.getD j z)) ∧ (s.flatMap fun t => [f t, g t, h t])[j * 3 + 2]? = some (h (s.getD j z)) := by
  induction s generalizing j with
  | nil => simp at hj
  | cons x s ih =>
    cases j with
    | zero => exact ⟨rfl, rfl, rfl⟩
    | succ j =>
      obtain ⟨h1, h2, h3⟩ := ih j (by simpa using hj)
      have e : ∀ i, ((x :: s).flatMap fun t => [f t, g t, h t])[(j + 1) * 3 + i]? = (s.flatMap fun t => [f t, g t, h t])[j * 3 + i]? := by
        intro i
        rw [List.flatMap_cons, List.getElem?_append_right (by simp; omega)]
        congr 1
        simp
        omega
      have e0 := e 0
      simp only [Nat.add_zero] at e0
      exact ⟨e0.trans h1, (e 1).trans h2, (e 2).trans h3⟩
theorem flat3_length {α : Type} (f g h : α → Value) (s : List α) : (s.flatMap fun t => [f t, g t, h t]).length = s.length * 3 := by
  induction s with
  | nil => rfl
  | cons x s ih => rw [List.flatMap_cons, List.length_append, ih]; simp; omega

end Go.Proofs.Ytffgechbmhgndaa
