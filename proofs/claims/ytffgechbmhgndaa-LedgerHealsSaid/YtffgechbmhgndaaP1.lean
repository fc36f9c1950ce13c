/- What leaks, in plain lists: what an event changes, what a look at the receiver changes, and that a new epoch heals. -/
import Derived.Test.YtffgechbmhgndaaL6
set_option linter.unusedVariables false
set_option linter.unusedSimpArgs false
namespace Go.Proofs.Ytffgechbmhgndaa
namespace Led

/-- Whether the frame ahead of frame k leaks. -/
def prev (L : Led) : Nat → Bool
  | 0 => false
  | k + 1 => L.step (L.prev k) k (L.epochs.getD k 0)
theorem leakTo_prev (L : Led) : ∀ k, (L.leakTo k).getLastD false = L.prev k
  | 0 => rfl
  | k + 1 => by rw [leakTo, List.getLastD_concat, leakTo_prev L k]; rfl
theorem leakTo_get (L : Led) : ∀ (n k : Nat), k < n → (L.leakTo n)[k]? = some (L.prev (k + 1))
  | 0, k, h => by omega
  | n + 1, k, h => by
    rw [leakTo]
    by_cases hk : k < n
    · rw [List.getElem?_append_left (by rw [leakTo_length]; exact hk), leakTo_get L n k hk]
    · obtain rfl : k = n := by omega
      rw [List.getElem?_append_right (by rw [leakTo_length]; exact Nat.le_refl _), leakTo_length, Nat.sub_self, leakTo_prev]
      rfl
theorem leaked_length (L : Led) : L.leaked.length = L.epochs.length := leakTo_length L _
theorem leaked_get (L : Led) (k : Nat) (h : k < L.leaked.length) : L.leaked[k] = L.prev (k + 1) := by
  have := leakTo_get L L.epochs.length k (by rw [leaked_length] at h; exact h)
  rw [List.getElem?_eq_some_iff] at this
  exact this.2

/-- The same looks, the same epochs as far as k: the same leaks. -/
theorem prev_same (L M : Led) (hs : L.seen = M.seen) : ∀ k, (∀ j, j < k → L.epochs.getD j 0 = M.epochs.getD j 0) → L.prev k = M.prev k
  | 0, _ => rfl
  | k + 1, he => by
    rw [prev, prev, prev_same L M hs k (fun j hj => he j (by omega)), he k (by omega)]
    simp only [step, hs]

/-- More looks: more leaks. -/
theorem prev_more (L M : Led) (hs : ∀ x, x ∈ L.seen → x ∈ M.seen) : ∀ k, (∀ j, j < k → L.epochs.getD j 0 = M.epochs.getD j 0) → L.prev k = true → M.prev k = true
  | 0, _, h => h
  | k + 1, he, h => by
    rw [prev] at h ⊢
    rw [← he k (by omega)]
    simp only [step, Bool.and_eq_true, Bool.or_eq_true, List.any_eq_true] at h ⊢
    obtain ⟨h1, x, hx, h2⟩ := h
    refine ⟨?_, x, hs x hx, h2⟩
    rcases h1 with h1 | ⟨y, hy, h1⟩
    · exact .inl (prev_more L M hs k (fun j hj => he j (by omega)) h1)
    · exact .inr ⟨y, hs y hy, h1⟩

theorem next_epochs (L : Led) (ev : Int) : ∃ r, (L.next ev).epochs = L.epochs ++ r ∧ (L.err ev ≠ 0 → r = []) := by
  unfold next err
  by_cases h1 : ev = 1
  · subst h1
    by_cases h : 6 ≤ L.epochs.length
    · exact ⟨[], by simp [h], fun _ => rfl⟩
    · exact ⟨[L.newest], by simp [h], fun h2 => absurd h2 (by simp [h])⟩
  · refine ⟨[], ?_, fun _ => rfl⟩
    simp only [h1, if_false]
    repeat' split
    all_goals simp
theorem next_seen_eq (L : Led) (ev : Int) (h : ev ≠ 5) : (L.next ev).seen = L.seen := by
  unfold next
  repeat' split
  all_goals simp_all
theorem next_seen_sub (L : Led) (ev : Int) : ∀ x, x ∈ L.seen → x ∈ (L.next ev).seen := by
  intro x hx
  unfold next
  repeat' split
  all_goals simp [hx]

/-- LedgerStays, in plain lists. -/
theorem stays (L : Led) (ev : Int) : L.leaked.length ≤ (L.next ev).leaked.length ∧ (L.err ev ≠ 0 → (L.next ev).leaked.length = L.leaked.length) ∧
    ∀ k (h : k < L.leaked.length) (h' : k < (L.next ev).leaked.length), (L.leaked[k] = true → (L.next ev).leaked[k] = true) ∧ (ev ≠ 5 → L.leaked[k] = (L.next ev).leaked[k]) := by
  obtain ⟨r, hr, hr0⟩ := next_epochs L ev
  refine ⟨by rw [leaked_length, leaked_length, hr]; simp, fun h => by rw [leaked_length, leaked_length, hr, hr0 h]; simp, fun k h h' => ?_⟩
  rw [leaked_get, leaked_get]
  rw [leaked_length] at h
  have he : ∀ j, j < k + 1 → L.epochs.getD j 0 = (L.next ev).epochs.getD j 0 := by
    intro j hj
    rw [hr, List.getD, List.getD, List.getElem?_append_left (by omega)]
  exact ⟨prev_more L _ (next_seen_sub L ev) _ he, fun h5 => prev_same L _ (next_seen_eq L ev h5).symm _ he⟩

end Led
end Go.Proofs.Ytffgechbmhgndaa
