/- One more look, in plain lists. -/
import Derived.Test.YtffgechbmhgndaaP2
set_option linter.unusedVariables false
set_option linter.unusedSimpArgs false
namespace Go.Proofs.Ytffgechbmhgndaa
namespace Led

/-- Two ledgers that part in one look 'x', taken behind 's1', when 'n' frames had been got. -/
def Twin (G H : Led) (s1 x : List Look) (n : Nat) : Prop :=
  H.epochs = G.epochs ∧ H.got = G.got ∧ H.newest = G.newest ∧ n ≤ G.got ∧ ∃ s2, G.seen = s1 ++ s2 ∧ H.seen = s1 ++ (x ++ s2) ∧ ∀ t, t ∈ s2 → n ≤ t.1

theorem twin_start (L : Led) (x : List Look) : Twin L { L with seen := L.seen ++ x } L.seen x L.got := ⟨rfl, rfl, rfl, Nat.le_refl _, [], by simp, by simp, by simp⟩
theorem twin_err {G H : Led} {s1 x : List Look} {n : Nat} (h : Twin G H s1 x n) (e : Int) : H.err e = G.err e := by
  obtain ⟨h1, h2, h3, _⟩ := h
  unfold err
  rw [h1, h2, h3]
theorem twin_next {G H : Led} {s1 x : List Look} {n : Nat} (h : Twin G H s1 x n) (e : Int) : Twin (G.next e) (H.next e) s1 x n := by
  obtain ⟨h1, h2, h3, h4, s2, h5, h6, h7⟩ := h
  unfold next
  rw [h1, h2, h3]
  repeat' split
  all_goals refine ⟨by first | rfl | exact h1, by first | rfl | exact h2, by first | rfl | exact h3, by first | exact h4 | exact Nat.le_succ_of_le h4, ?_⟩
  all_goals try exact ⟨s2, h5, h6, h7⟩
  refine ⟨s2 ++ [(G.got, G.oldest, G.newest)], by simp [h5], ?_, ?_⟩
  · have : H.oldest = G.oldest := by simp [oldest, h1, h2]
    simp [h6, this]
  · intro t ht
    simp at ht
    rcases ht with ht | rfl
    · exact h7 t ht
    · exact h4

/-- As long as all looks came when n frames had been got none of those leaks. -/
theorem prev_none (L : Led) (n : Nat) (h : ∀ t, t ∈ L.seen → n ≤ t.1) : ∀ k, k ≤ n → L.prev k = false
  | 0, _ => rfl
  | k + 1, hk => by
    rw [prev, prev_none L n h k (by omega)]
    simp only [step, Bool.and_eq_false_iff]
    left
    simp only [Bool.false_or]
    rw [List.any_eq_false]
    intro t ht
    have := h t ht
    simp
    omega

/-- LedgerSeen, in plain lists. -/
theorem twin_leaks {G H : Led} {s1 x : List Look} {n : Nat} (h : Twin G H s1 x n) (hx : ∀ t, t ∈ x → n ≤ t.1) : H.leaked.length = G.leaked.length ∧
    ∀ k (hk : k < G.leaked.length) (hk' : k < H.leaked.length), (G.leaked[k] = true → H.leaked[k] = true) ∧ (x = [] ∨ s1 = [] ∧ k < n → G.leaked[k] = H.leaked[k]) := by
  obtain ⟨h1, h2, h3, h4, s2, h5, h6, h7⟩ := h
  refine ⟨by rw [leaked_length, leaked_length, h1], fun k hk hk' => ?_⟩
  rw [leaked_get, leaked_get]
  refine ⟨prev_more G H (fun t ht => ?_) _ (fun j _ => by rw [h1]), fun hc => ?_⟩
  · rw [h5] at ht; rw [h6]
    simp at ht ⊢
    rcases ht with ht | ht
    · exact .inl ht
    · exact .inr (.inr ht)
  · rcases hc with rfl | ⟨rfl, hkn⟩
    · exact prev_same G H (by rw [h5, h6]; simp) _ (fun j _ => by rw [h1])
    · rw [prev_none G n (fun t ht => by rw [h5] at ht; exact h7 t (by simpa using ht)) (k + 1) (by omega), prev_none H n (fun t ht => by
        rw [h6] at ht
        simp at ht
        rcases ht with ht | ht
        · exact hx t ht
        · exact h7 t ht) (k + 1) (by omega)]

theorem next_got (L : Led) (e : Int) : (L.next e).got = L.got + (if e = 2 ∧ L.err e = 0 then 1 else 0) := by
  by_cases h2 : e = 2
  · subst h2
    by_cases h : L.epochs.length ≤ L.got
    · simp [next, err, h]
    · simp [next, err, h]
  · simp only [h2, false_and, if_false, Nat.add_zero]
    unfold next
    repeat' split
    all_goals simp_all
theorem run_seen_none (l : List Int) : ∀ (L : Led), (∀ e, e ∈ l → e ≠ 5) → (L.run l).seen = L.seen := by
  induction l with
  | nil => intro L _; rfl
  | cons e l ih =>
    intro L h
    exact (ih (L.next e) fun x hx => h x (by simp [hx])).trans (next_seen_eq L e (h e (by simp)))

/-- The two ledgers, what was got and whether there was a look; 'same': the one more look is yet to come. -/
structure Phase (l : List Int) (sender same : Bool) (k : Nat) (G H : Led) (gc : Nat) (sb : Bool) : Prop where
  g : G = zero.run (l.take k)
  okH : H.Ok
  lenH : H.seen.length ≤ k + 1
  one : same = true → H = G ∧ gc = G.got ∧ (sb = false → G.seen = []) ∧ H.seen.length ≤ k
  two : same = false → ∃ s1 x, Twin G H s1 x gc ∧ (∀ t, t ∈ x → gc ≤ t.1) ∧ (sender = true → x = []) ∧ (sb = false → s1 = [])

theorem phase_start (l : List Int) (sender : Bool) : Phase l sender true 0 zero zero 0 false :=
  ⟨rfl, zero_ok, by simp [zero], fun _ => ⟨rfl, rfl, fun _ => rfl, by simp [zero]⟩, fun h => by cases h⟩
/-- The one more look, or the look at the sender. -/
theorem phase_look {l : List Int} {sender : Bool} {k : Nat} {G H : Led} {gc : Nat} {sb : Bool} (h : Phase l sender true k G H gc sb) (hk : k ≤ 30) : Phase l sender false k G (H.next (if sender then 4 else 5)) gc sb := by
  obtain ⟨hg, hok, hlen, h1, _⟩ := h
  obtain ⟨rfl, rfl, h3, h4⟩ := h1 rfl
  have hn := next_seen H (if sender then 4 else 5)
  refine ⟨hg, next_ok hok (by omega) _, by omega, (fun h => by cases h), fun _ => ?_⟩
  cases sender with
  | true => exact ⟨H.seen, [], by simpa [next] using twin_start H [], by simp, by simp, h3⟩
  | false => exact ⟨H.seen, [(H.got, H.oldest, H.newest)], by simpa [next] using twin_start H [(H.got, H.oldest, H.newest)], by simp, by simp, h3⟩
/-- An event that both take. -/
theorem phase_event {l : List Int} {sender same : Bool} {k : Nat} {G H : Led} {gc : Nat} {sb : Bool} (h : Phase l sender same k G H gc sb) (hk : k < l.length) (hl : l.length ≤ 30) :
    H.err l[k] = G.err l[k] ∧ Phase l sender same (k + 1) (G.next l[k]) (H.next l[k]) (gc + (if same = true ∧ l[k] = 2 ∧ G.err l[k] = 0 then 1 else 0)) (sb || same && l[k] == 5) := by
  obtain ⟨hg, hok, hlen, h1, h2⟩ := h
  have hG : G.next l[k] = zero.run (l.take (k + 1)) := by rw [List.take_succ_eq_append_getElem hk, run_snoc, ← hg]
  have hn := next_seen H l[k]
  cases same with
  | true =>
    obtain ⟨rfl, rfl, h3, h4⟩ := h1 rfl
    refine ⟨rfl, hG, next_ok hok (by omega) _, by omega, fun _ => ⟨rfl, by rw [next_got]; simp, ?_, by omega⟩, fun h => by cases h⟩
    intro hsb
    simp at hsb
    rw [next_seen_eq H _ hsb.2, h3 hsb.1]
  | false =>
    obtain ⟨s1, x, h3, h4, h5, h6⟩ := h2 rfl
    refine ⟨twin_err h3 _, hG, next_ok hok (by omega) _, by omega, (fun h => by cases h), fun _ => ⟨s1, x, ?_, ?_, h5, ?_⟩⟩
    · simpa using twin_next h3 l[k]
    · simpa using h4
    · simpa using h6
theorem phase_end {l : List Int} {sender : Bool} {G H : Led} {gc : Nat} {sb : Bool} (h : Phase l sender false l.length G H gc sb) : Phase l sender false (l.length + 1) G H gc sb := by
  obtain ⟨hg, hok, hlen, h1, h2⟩ := h
  refine ⟨?_, hok, by omega, (fun h => by cases h), h2⟩
  rw [hg, List.take_of_length_le (by omega), List.take_of_length_le (by omega)]
theorem phase_last {l : List Int} {sender : Bool} {k : Nat} {G H : Led} {gc : Nat} {sb : Bool} (h : Phase l sender false k G H gc sb) : H.leaked.length = G.leaked.length ∧
    ∀ m (hm : m < G.leaked.length) (hm' : m < H.leaked.length), (G.leaked[m] = true → H.leaked[m] = true) ∧ (sender = true ∨ sb = false ∧ m < gc → G.leaked[m] = H.leaked[m]) := by
  obtain ⟨s1, x, h3, h4, h5, h6⟩ := h.two rfl
  obtain ⟨q1, q2⟩ := twin_leaks h3 h4
  exact ⟨q1, fun m hm hm' => ⟨(q2 m hm hm').1, fun hc => (q2 m hm hm').2 (hc.imp h5 fun ⟨ha, hb⟩ => ⟨h6 ha, hb⟩)⟩⟩

end Led
end Go.Proofs.Ytffgechbmhgndaa
