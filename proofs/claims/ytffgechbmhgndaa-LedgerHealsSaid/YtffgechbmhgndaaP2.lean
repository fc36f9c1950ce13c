/- A new epoch heals, in plain lists; and what one more look does. -/
import Derived.Test.YtffgechbmhgndaaP1
set_option linter.unusedVariables false
set_option linter.unusedSimpArgs false
namespace Go.Proofs.Ytffgechbmhgndaa
namespace Led

def High (L : Led) : Prop := ∀ t, t ∈ L.seen → t.2.2 ≤ L.newest
theorem next_newest (L : Led) (e : Int) : L.newest ≤ (L.next e).newest := by
  unfold next
  repeat' split
  all_goals simp
theorem high_next {L : Led} (h : L.High) (e : Int) : (L.next e).High := by
  by_cases h5 : e = 5
  · subst h5
    intro t ht
    simp [next] at ht ⊢
    rcases ht with ht | rfl
    · exact h t ht
    · exact Nat.le_refl _
  · intro t ht
    rw [next_seen_eq L e h5] at ht
    exact Nat.le_trans (h t ht) (next_newest L e)
theorem high_run (l : List Int) : ∀ {L : Led}, L.High → (L.run l).High := by
  induction l with
  | nil => intro L h; exact h
  | cons e l ih => intro L h; exact ih (high_next h e)
theorem high_zero : zero.High := by intro t ht; simp [zero] at ht

/-- What was sealed since: all to an epoch above 'm'. -/
structure Since (L M : Led) (m : Nat) : Prop where
  seen : M.seen = L.seen
  newest : m < M.newest
  epochs : ∃ r, M.epochs = L.epochs ++ r ∧ ∀ x ∈ r, m < x
theorem since_next {L M : Led} {m : Nat} (h : Since L M m) (e : Int) (h5 : e ≠ 5) : Since L (M.next e) m := by
  obtain ⟨h1, h2, r, hr, h3⟩ := h
  refine ⟨(next_seen_eq M e h5).trans h1, Nat.lt_of_lt_of_le h2 (next_newest M e), ?_⟩
  unfold next
  repeat' split
  · exact ⟨r, hr, h3⟩
  · refine ⟨r ++ [M.newest], by simp [hr], ?_⟩
    intro x hx
    simp at hx
    rcases hx with hx | rfl
    · exact h3 x hx
    · exact h2
  all_goals exact ⟨r, hr, h3⟩
def runBut (L : Led) (l : List Int) : Led := l.foldl (fun M e => if e = 5 then M else M.next e) L
theorem runBut_snoc (L : Led) (l : List Int) (e : Int) : L.runBut (l ++ [e]) = if e = 5 then L.runBut l else (L.runBut l).next e := by simp [runBut]
theorem since_run (l : List Int) : ∀ {L M : Led} {m : Nat}, Since L M m → Since L (M.runBut l) m := by
  induction l with
  | nil => intro L M m h; exact h
  | cons e l ih =>
    intro L M m h
    show Since L (Led.runBut (if e = 5 then M else M.next e) l) m
    by_cases h5 : e = 5
    · rw [if_pos h5]; exact ih h
    · rw [if_neg h5]; exact ih (since_next h e h5)
theorem runBut_ok (l : List Int) : ∀ (L : Led), L.Ok → L.seen.length < 1000 → (L.runBut l).Ok ∧ (L.runBut l).seen = L.seen := by
  induction l with
  | nil => intro L h _; exact ⟨h, rfl⟩
  | cons e l ih =>
    intro L h hs
    show (Led.runBut (if e = 5 then L else L.next e) l).Ok ∧ (Led.runBut (if e = 5 then L else L.next e) l).seen = L.seen
    by_cases h5 : e = 5
    · rw [if_pos h5]; exact ih L h hs
    · rw [if_neg h5]
      have h1 := next_seen_eq L e h5
      obtain ⟨h2, h3⟩ := ih (L.next e) (next_ok h hs e) (by rw [h1]; exact hs)
      exact ⟨h2, h3.trans h1⟩

/-- LedgerHeals, in plain lists. -/
theorem heals (L : Led) (hh : L.High) (hn : L.newest < 6) (l : List Int) :
    L.leaked.length ≤ ((L.next 3).runBut l).leaked.length ∧ ∀ k (h : k < ((L.next 3).runBut l).leaked.length), L.leaked.length ≤ k → ((L.next 3).runBut l).leaked[k] = false := by
  have hs : Since L (L.next 3) L.newest := by
    have e : L.next 3 = { L with newest := L.newest + 1 } := by simp [next, show ¬ 6 ≤ L.newest by omega]
    rw [e]
    exact ⟨rfl, by simp, [], by simp, by simp⟩
  obtain ⟨h1, h2, r, hr, h3⟩ := since_run l hs
  refine ⟨by rw [leaked_length, leaked_length, hr]; simp, fun k h hk => ?_⟩
  rw [leaked_get, prev]
  rw [leaked_length] at h hk
  have hg : L.newest < ((L.next 3).runBut l).epochs.getD k 0 := by
    rw [hr] at h ⊢
    rw [List.getD, List.getElem?_append_right hk, List.getElem?_eq_getElem (by simp at h; omega)]
    exact h3 _ (List.getElem_mem _)
  generalize ((L.next 3).runBut l).epochs.getD k 0 = ep at hg ⊢
  simp only [step, h1]
  rw [Bool.and_eq_false_iff]
  right
  rw [List.any_eq_false]
  intro t ht
  have := hh t ht
  simp
  omega

end Led
end Go.Proofs.Ytffgechbmhgndaa
