/- How a term is found out, in plain lists: each number of the order is known, or comes by one step of those ahead of it. -/
import Derived.Test.YtffgechbmhgndaaP5
set_option linter.unusedVariables false
set_option linter.unusedSimpArgs false
namespace Go.Proofs.Ytffgechbmhgndaa
namespace Ts

/-- The set that a row of numbers fills. -/
def hav (n : Nat) (xs : List Nat) : List Bool := xs.foldl (fun s k => s.set k true) (List.replicate n false)
theorem hav_nil (n : Nat) : hav n [] = List.replicate n false := rfl
theorem hav_snoc (n : Nat) (xs : List Nat) (x : Nat) : hav n (xs ++ [x]) = (hav n xs).set x true := by simp [hav]
theorem foldl_set_len : ∀ (xs : List Nat) (s : List Bool), (xs.foldl (fun s k => s.set k true) s).length = s.length
  | [], s => rfl
  | x :: xs, s => by rw [List.foldl_cons, foldl_set_len xs]; simp
theorem hav_length (n : Nat) (xs : List Nat) : (hav n xs).length = n := by unfold hav; rw [foldl_set_len]; simp
theorem foldl_set_get : ∀ (xs : List Nat) (s : List Bool) (i : Nat), (xs.foldl (fun s k => s.set k true) s).getD i false = true → s.getD i false = true ∨ i ∈ xs
  | [], s, i, h => .inl h
  | x :: xs, s, i, h => by
    rw [List.foldl_cons] at h
    rcases foldl_set_get xs _ i h with h | h
    · by_cases e : x = i
      · exact .inr (by simp [e])
      · rw [getD_set_ne e] at h; exact .inl h
    · exact .inr (by simp [h])
theorem hav_mem {n : Nat} {xs : List Nat} {i : Nat} (h : (hav n xs).getD i false = true) : i ∈ xs := by
  rcases foldl_set_get xs _ i h with h | h
  · simp [List.getD, List.getElem?_replicate] at h; split at h <;> simp at h
  · exact h

/-- The order is a way: each once, each known or by one step of those ahead. -/
structure Jst (l : List Tm) (K : Nat → Prop) (s : St) : Prop where
  inn : s.inn = hav l.length s.order
  lt : ∀ x, x ∈ s.order → x < l.length
  nodup : s.order.Nodup
  comes : ∀ (j x : Nat), s.order[j]? = some x → K x ∨ rstep l (hav l.length (s.order.take j)) x = true

theorem Jst.len {l : List Tm} {K : Nat → Prop} {s : St} (h : Jst l K s) : s.inn.length = l.length := by rw [h.inn, hav_length]
theorem Jst.add {l : List Tm} {K : Nat → Prop} {s : St} (h : Jst l K s) {i : Nat} (hi : i < l.length) (hk : K i ∨ rstep l s.inn i = true) : Jst l K (add s i) := by
  unfold Ts.add
  split
  · exact h
  · rename_i hn
    have hnot : i ∉ s.order := by
      intro hm
      apply hn
      obtain ⟨j, hj, rfl⟩ := List.getElem_of_mem hm
      rw [h.inn]
      have gen : ∀ (xs : List Nat) (t : List Bool) (x : Nat), x < t.length → (x ∈ xs ∨ t.getD x false = true) → (xs.foldl (fun s k => s.set k true) t).getD x false = true := by
        intro xs
        induction xs with
        | nil => intro t x _ hx; exact hx.resolve_left (by simp)
        | cons y ys ih =>
          intro t x hx hxm
          rw [List.foldl_cons]
          refine ih _ x (by simpa using hx) ?_
          by_cases e : y = x
          · right; subst e; exact getD_set_self hx true
          · rcases hxm with hxm | hxm
            · left; simp at hxm; exact hxm.resolve_left (Ne.symm e)
            · right; rw [getD_set_ne e]; exact hxm
      exact gen _ _ _ (by simpa using hi) (.inl hm)
    refine ⟨?_, ?_, ?_, ?_⟩
    · show s.inn.set i true = hav l.length (s.order ++ [i])
      rw [hav_snoc, h.inn]
    · intro x hx
      simp only [List.mem_append, List.mem_singleton] at hx
      rcases hx with hx | rfl
      · exact h.lt x hx
      · exact hi
    · show (s.order ++ [i]).Nodup
      rw [List.nodup_append]
      refine ⟨h.nodup, by simp, ?_⟩
      intro a ha b hb
      simp at hb
      rintro rfl
      exact hnot (hb ▸ ha)
    · intro j x hj
      have hj' : (s.order ++ [i])[j]? = some x := hj
      by_cases hlt : j < s.order.length
      · rw [List.getElem?_append_left hlt] at hj'
        have := h.comes j x hj'
        show K x ∨ rstep l (hav l.length ((s.order ++ [i]).take j)) x = true
        rwa [List.take_append_of_le_length (by omega)]
      · have hle : j < (s.order ++ [i]).length := (List.getElem?_eq_some_iff.1 hj').1
        simp at hle
        obtain rfl : j = s.order.length := by omega
        simp at hj'
        subst hj'
        show K i ∨ rstep l (hav l.length ((s.order ++ [i]).take s.order.length)) i = true
        rw [List.take_left', ← h.inn]
        · exact hk
        · rfl

theorem rstep_pairA {l : List Tm} {s : List Bool} {k i : Nat} (hk : k < l.length) (hin : s.getD k false = true) (ho : (tm l k).op = 1) (h : (tm l k).a = i) : rstep l s i = true := by
  unfold rstep
  simp only [Bool.or_eq_true, Bool.and_eq_true, decide_eq_true_eq, List.any_eq_true, List.mem_range]
  exact .inr ⟨k, hk, hin, .inl ⟨ho, .inl h⟩⟩
theorem rstep_pairB {l : List Tm} {s : List Bool} {k i : Nat} (hk : k < l.length) (hin : s.getD k false = true) (ho : (tm l k).op = 1) (h : (tm l k).b = i) : rstep l s i = true := by
  unfold rstep
  simp only [Bool.or_eq_true, Bool.and_eq_true, decide_eq_true_eq, List.any_eq_true, List.mem_range]
  exact .inr ⟨k, hk, hin, .inl ⟨ho, .inr h⟩⟩
theorem rstep_box {l : List Tm} {s : List Bool} {k i : Nat} (hk : k < l.length) (hin : s.getD k false = true) (ho : (tm l k).op = 5) (h : (tm l k).b = i) (ha : is s (tm l k).a = true) : rstep l s i = true := by
  unfold rstep
  simp only [Bool.or_eq_true, Bool.and_eq_true, decide_eq_true_eq, List.any_eq_true, List.mem_range]
  exact .inr ⟨k, hk, hin, .inr ⟨⟨ho, h⟩, ha⟩⟩

theorem Jst.opened {l : List Tm} {K : Nat → Prop} {s : St} (h : Jst l K s) (hs : Shape l) {i : Nat} (hi : i < l.length) (hin : s.inn.getD i false = true) : Jst l K (opened s (tm l i)) := by
  unfold Ts.opened
  split
  · rename_i h1
    obtain ⟨a1, a2⟩ := hs.a i hi (by omega)
    obtain ⟨b1, b2⟩ := hs.b i hi (by omega)
    have k1 := h.add (i := (tm l i).a.toNat) (by omega) (.inr (rstep_pairA hi hin h1 (by omega)))
    exact k1.add (by omega) (.inr (rstep_pairB hi (add_more hin) h1 (by omega)))
  · split
    · rename_i h1 h2
      obtain ⟨b1, b2⟩ := hs.b i hi (by omega)
      exact h.add (by omega) (.inr (rstep_box hi hin h2.1 (by omega) h2.2))
    · exact h
theorem Jst.visit {l : List Tm} {K : Nat → Prop} {s : St} (h : Jst l K s) (hs : Shape l) {i : Nat} (hi : i < l.length) : Jst l K (visit l s i) := by
  unfold Ts.visit
  have k1 : Jst l K (if Ts.made l s.inn (tm l i) = true then Ts.add s i else s) := by
    split
    · rename_i hm; exact h.add hi (.inr (made_rstep hs hi hm))
    · exact h
  dsimp only
  generalize (if Ts.made l s.inn (tm l i) = true then Ts.add s i else s) = s1 at k1
  split
  · rename_i hin; exact k1.opened hs hi hin
  · exact k1
theorem Jst.passTo {l : List Tm} {K : Nat → Prop} {s : St} (h : Jst l K s) (hs : Shape l) : ∀ k, k ≤ l.length → Jst l K (passTo l s k)
  | 0, _ => h
  | k + 1, hk => (h.passTo hs k (by omega)).visit hs (by omega)
theorem Jst.ends {l : List Tm} {K : Nat → Prop} (hs : Shape l) {s r : St} (he : Ends l s r) : Jst l K s → Jst l K r := by
  induction he with
  | last s _ => intro h; exact h.passTo hs _ (Nat.le_refl _)
  | more s r _ _ ih => intro h; exact ih (h.passTo hs _ (Nat.le_refl _))
theorem Jst.fresh (l : List Tm) (K : Nat → Prop) : Jst l K (fresh l) := ⟨rfl, by simp [Ts.fresh], by simp [Ts.fresh], by simp [Ts.fresh]⟩
theorem Jst.foldl {l : List Tm} {K : Nat → Prop} : ∀ (known : List Int) (s : St), Jst l K s → valid l known → (∀ k, k ∈ known → K k.toNat) → Jst l K (known.foldl (fun s k => Ts.add s k.toNat) s)
  | [], s, h, _, _ => h
  | k :: ks, s, h, hv, hk => by
    obtain ⟨v1, v2⟩ := hv k (by simp)
    exact Jst.foldl ks _ (h.add (by omega) (.inl (hk k (by simp)))) (fun x hx => hv x (by simp [hx])) (fun x hx => hk x (by simp [hx]))
theorem result_jst {l : List Tm} (hs : Shape l) {known : List Int} (hv : valid l known) : Jst l (Kn known) (result l known) :=
  Jst.ends hs (result_ends hs hv) (Jst.foldl known _ (Jst.fresh l _) hv fun k hk => by
    obtain ⟨v1, v2⟩ := hv k hk
    unfold Kn
    rw [show ((k.toNat : Nat) : Int) = k by omega]; exact hk)

/-- A way to find out a term. -/
structure Way (l : List Tm) (known : List Int) (w : List Nat) : Prop where
  lt : ∀ (j x : Nat), w[j]? = some x → x < l.length
  new : ∀ (j x : Nat), w[j]? = some x → (hav l.length (w.take j)).getD x false = false
  comes : ∀ (j x : Nat), w[j]? = some x → (x : Int) ∈ known ∨ rstep l (hav l.length (w.take j)) x = true
theorem way_of {l : List Tm} (hs : Shape l) {known : List Int} (hv : valid l known) (m : Nat) : Way l known ((result l known).order.take m) := by
  have h := result_jst hs hv
  generalize result l known = s at h
  have get : ∀ (j x : Nat), (s.order.take m)[j]? = some x → s.order[j]? = some x ∧ (s.order.take m).take j = s.order.take j := by
    intro j x hj
    have hlt := (List.getElem?_eq_some_iff.1 hj).1
    rw [List.length_take] at hlt
    refine ⟨?_, by rw [List.take_take, Nat.min_eq_left (by omega)]⟩
    rwa [List.getElem?_take_of_lt (by omega)] at hj
  refine ⟨fun j x hj => ?_, fun j x hj => ?_, fun j x hj => ?_⟩
  · exact h.lt x (List.mem_of_getElem? (get j x hj).1)
  · obtain ⟨h1, h2⟩ := get j x hj
    rw [h2]
    cases hb : (hav l.length (s.order.take j)).getD x false with
    | false => rfl
    | true =>
      exfalso
      have hm := hav_mem hb
      obtain ⟨i, hi, he⟩ := List.getElem_of_mem hm
      rw [List.length_take] at hi
      rw [List.getElem_take] at he
      obtain ⟨hj2, hje⟩ := List.getElem?_eq_some_iff.1 h1
      have := (List.getElem_inj h.nodup (i := i) (j := j) (h₀ := by omega) (h₁ := hj2)).1 (he.trans hje.symm)
      omega
  · obtain ⟨h1, h2⟩ := get j x hj
    rw [h2]
    exact h.comes j x h1

/-- The first place of a number. -/
theorem first_at {ws : List Nat} {g : Nat} (hm : g ∈ ws) : ∃ i, i < ws.length ∧ ws[i]? = some g ∧ (∀ j, j < i → ws[j]? ≠ some g) ∧ ws.findIdx (· == g) = i := by
  have hlt : ws.findIdx (· == g) < ws.length := List.findIdx_lt_length_of_exists ⟨g, hm, by simp⟩
  refine ⟨_, hlt, ?_, ?_, rfl⟩
  · have := List.findIdx_getElem (w := hlt)
    simp at this
    rw [List.getElem?_eq_getElem hlt, this]
  · intro j hj he
    have h2 := List.not_of_lt_findIdx hj
    obtain ⟨h3, h4⟩ := List.getElem?_eq_some_iff.1 he
    simp [h4] at h2

end Ts
end Go.Proofs.Ytffgechbmhgndaa
