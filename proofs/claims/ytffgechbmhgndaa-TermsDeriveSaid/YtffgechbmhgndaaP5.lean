/- What can be found out, in plain lists: the reference's rounds, and the program's passes from what is known, end at one set. -/
import Derived.Test.YtffgechbmhgndaaP4
set_option linter.unusedVariables false
set_option linter.unusedSimpArgs false
namespace Go.Proofs.Ytffgechbmhgndaa
namespace Ts

/-! ### From what is known -/
def fresh (l : List Tm) : St := ⟨List.replicate l.length false, []⟩
def start (l : List Tm) (known : List Int) : St := known.foldl (fun s k => add s k.toNat) (fresh l)
def valid (l : List Tm) (known : List Int) : Prop := ∀ k, k ∈ known → 0 ≤ k ∧ k < l.length
def Kn (known : List Int) (i : Nat) : Prop := (i : Int) ∈ known

theorem fresh_inv (l : List Tm) : Inv (fresh l) := ⟨fun i => by simp [fresh, List.getD, List.getElem?_replicate]; split <;> simp, by simp [fresh]⟩
theorem fresh_sound (l : List Tm) (K : Nat → Prop) : Sound l K (fresh l).inn := by
  intro i h; simp [fresh, List.getD, List.getElem?_replicate] at h; split at h <;> simp at h
theorem foldl_add {l : List Tm} {K : Nat → Prop} : ∀ (known : List Int) (s : St), s.inn.length = l.length → valid l known → (∀ k, k ∈ known → K k.toNat) →
    Keeps l K s (known.foldl (fun s k => add s k.toNat) s) ∧ ∀ k, k ∈ known → (known.foldl (fun s k => add s k.toNat) s).inn.getD k.toNat false = true
  | [], s, _, _, _ => ⟨Keeps.refl _ _ _, by simp⟩
  | k :: ks, s, hl, hv, hk => by
    obtain ⟨v1, v2⟩ := hv k (by simp)
    have h1 : Keeps l K s (add s k.toNat) := Keeps.add (by omega) fun _ => .known _ (hk k (by simp))
    obtain ⟨h2, h3⟩ := foldl_add ks (add s k.toNat) (h1.len.trans hl) (fun x hx => hv x (by simp [hx])) (fun x hx => hk x (by simp [hx]))
    refine ⟨h1.trans h2, fun x hx => ?_⟩
    simp only [List.mem_cons] at hx
    rcases hx with rfl | hx
    · exact h2.more _ (add_has (by omega))
    · exact h3 x hx
theorem start_all {l : List Tm} {known : List Int} (hv : valid l known) : (start l known).inn.length = l.length ∧ Inv (start l known) ∧ Sound l (Kn known) (start l known).inn ∧ ∀ i, Kn known i → (start l known).inn.getD i false = true := by
  obtain ⟨h1, h2⟩ := foldl_add (l := l) (K := Kn known) known (fresh l) (by simp [fresh]) hv (fun k hk => by
    obtain ⟨v1, v2⟩ := hv k hk
    unfold Kn
    rw [show ((k.toNat : Nat) : Int) = k by omega]; exact hk)
  refine ⟨h1.len.trans (by simp [fresh]), h1.inv (fresh_inv l), h1.sound (fresh_sound l _), fun i hi => ?_⟩
  have := h2 i hi
  rwa [show (i : Int).toNat = i from rfl] at this

def result (l : List Tm) (known : List Int) : St := iter l (l.length + 1) (start l known)
theorem result_of {l : List Tm} (hs : Shape l) {known : List Int} (hv : valid l known) {r : St} (h : Ends l (start l known) r) : result l known = r := by
  obtain ⟨h1, h2, _⟩ := start_all hv
  exact ends_iter hs h h2 h1 _ (by omega)
theorem ends_exists {l : List Tm} (hs : Shape l) : ∀ (k : Nat) (s : St), Inv s → s.inn.length = l.length → l.length < s.order.length + k → Ends l s (iter l k s)
  | 0, s, hi, hl, hk => by have := hi.le; omega
  | k + 1, s, hi, hl, hk => by
    have hp := keeps_passTo (K := fun _ => True) hs hl l.length (Nat.le_refl _)
    rw [iter]
    split
    · rename_i h; exact .more s _ h (ends_exists hs k _ (hp.inv hi) (hp.len.trans hl) (by omega))
    · rename_i h; exact .last s (by omega)
theorem result_ends {l : List Tm} (hs : Shape l) {known : List Int} (hv : valid l known) : Ends l (start l known) (result l known) := by
  obtain ⟨h1, h2, _⟩ := start_all hv
  exact ends_exists hs _ _ h2 h1 (by omega)
/-- What the program's passes end at. -/
theorem result_all {l : List Tm} (hs : Shape l) {known : List Int} (hv : valid l known) : (result l known).inn.length = l.length ∧ Inv (result l known) ∧ ∀ i, (result l known).inn.getD i false = true ↔ Der l (Kn known) i := by
  obtain ⟨h1, h2, h3, h4⟩ := start_all hv
  obtain ⟨k1, k2⟩ := ends_keeps (K := Kn known) hs (result_ends hs hv) h1
  exact ⟨k1.len.trans h1, k1.inv h2, least hs (k1.sound h3) k2 fun i hi => k1.more i (h4 i hi)⟩

/-! ### The reference's rounds -/
def rstep (l : List Tm) (s : List Bool) (i : Nat) : Bool :=
  (decide ((tm l i).op = 2 ∨ (tm l i).op = 3) && is s (tm l i).a) || (decide ((tm l i).op = 1 ∨ 4 < (tm l i).op) && is s (tm l i).a && is s (tm l i).b) ||
  (decide ((tm l i).op = 4) && ((is s (tm l i).a && pub l s (tm l i).b) || (is s (tm l i).b && pub l s (tm l i).a))) ||
  (List.range l.length).any fun k => s.getD k false && ((decide ((tm l k).op = 1) && (decide ((tm l k).a = i) || decide ((tm l k).b = i))) || (decide ((tm l k).op = 5) && decide ((tm l k).b = i) && is s (tm l k).a))
def round (l : List Tm) (s : List Bool) : List Bool := (List.range l.length).map fun i => s.getD i false || rstep l s i
def rounds (l : List Tm) : Nat → List Bool → List Bool
  | 0, s => s
  | k + 1, s => round l (rounds l k s)

theorem round_get {l : List Tm} {s : List Bool} {i : Nat} (hi : i < l.length) : (round l s).getD i false = (s.getD i false || rstep l s i) := by simp [round, List.getD, hi]
theorem round_length (l : List Tm) (s : List Bool) : (round l s).length = l.length := by simp [round]
theorem made_rstep {l : List Tm} {s : List Bool} {i : Nat} (hs : Shape l) (hi : i < l.length) (h : Ts.made l s (tm l i) = true) : rstep l s i = true := by
  unfold Ts.made at h
  unfold rstep
  simp only [Bool.or_eq_true, Bool.and_eq_true, decide_eq_true_eq]
  split at h
  · cases h
  · split at h
    · rename_i h1; exact .inl (.inl (.inl ⟨h1, h⟩))
    · split at h
      · rename_i h2
        simp only [Bool.or_eq_true, Bool.and_eq_true] at h
        exact .inl (.inr ⟨h2, h⟩)
      · rename_i h0 h1 h2
        simp only [Bool.and_eq_true] at h
        obtain ⟨o1, o2⟩ := hs.op i hi
        have h14 : (tm l i).op = 1 ∨ 4 < (tm l i).op := by omega
        exact .inl (.inl (.inr ⟨⟨h14, h.1⟩, h.2⟩))
theorem rstep_sound {l : List Tm} {K : Nat → Prop} {s : List Bool} (hs : Shape l) (h : Sound l K s) {i : Nat} (hi : i < l.length) (hr : rstep l s i = true) : Der l K i := by
  unfold rstep at hr
  simp only [Bool.or_eq_true, Bool.and_eq_true, decide_eq_true_eq, List.any_eq_true, List.mem_range] at hr
  rcases hr with ((⟨h1, h2⟩ | ⟨⟨h1, h2⟩, h3⟩) | ⟨h1, h2⟩) | ⟨k, hk, hks, h1⟩
  · obtain ⟨a1, a2⟩ := hs.a i hi (by omega)
    exact .one i _ hi h1 (by omega : (tm l i).a = ((tm l i).a.toNat : Nat)) (h _ h2)
  · obtain ⟨a1, a2⟩ := hs.a i hi (by omega)
    obtain ⟨b1, b2⟩ := hs.b i hi (by omega)
    exact .two i (tm l i).a.toNat (tm l i).b.toNat hi h1 (by omega) (h _ h2) (by omega) (h _ h3)
  · obtain ⟨a1, a2⟩ := hs.a i hi (by omega)
    obtain ⟨b1, b2⟩ := hs.b i hi (by omega)
    rcases h2 with ⟨q1, q2⟩ | ⟨q1, q2⟩
    · obtain ⟨p, hp, hpo, hpa, hps⟩ := pub_iff.1 q2
      exact .shareA i (tm l i).a.toNat p hi h1 (by omega) (h _ q1) hp hpo hpa (h _ hps)
    · obtain ⟨p, hp, hpo, hpa, hps⟩ := pub_iff.1 q2
      exact .shareB i (tm l i).b.toNat p hi h1 (by omega) (h _ q1) hp hpo hpa (h _ hps)
  · obtain ⟨a1, a2⟩ := hs.a k hk (by omega)
    rcases h1 with ⟨h1, h2 | h2⟩ | ⟨⟨h1, h2⟩, h3⟩
    · exact .pairA k i hk (h k hks) h1 h2
    · exact .pairB k i hk (h k hks) h1 h2
    · exact .box k (tm l k).a.toNat i hk (h k hks) h1 (by omega) (h _ h3) h2
theorem round_sound {l : List Tm} {K : Nat → Prop} {s : List Bool} (hs : Shape l) (h : Sound l K s) : Sound l K (round l s) := by
  intro i hi
  have hlt := getD_lt hi
  rw [round_length] at hlt
  rw [round_get hlt, Bool.or_eq_true] at hi
  exact hi.elim (h i) (rstep_sound hs h hlt)
theorem round_more {l : List Tm} {s : List Bool} (hl : s.length = l.length) {i : Nat} (h : s.getD i false = true) : (round l s).getD i false = true := by
  have := getD_lt h
  rw [round_get (by omega), h]; rfl
/-- A round that finds nothing new: closed. -/
theorem round_id {l : List Tm} {s : List Bool} (hs : Shape l) (h : round l s = s) : Closed l s := by
  have get : ∀ i, i < l.length → rstep l s i = true → s.getD i false = true := by
    intro i hi hr
    have := round_get (s := s) hi
    rw [h, hr] at this
    rw [this]; simp
  refine ⟨fun i hi hm => get i hi (made_rstep hs hi hm), fun i hi hin ho => ?_, fun i hi hin ho ha => ?_⟩
  · obtain ⟨a1, a2⟩ := hs.a i hi (by omega)
    obtain ⟨b1, b2⟩ := hs.b i hi (by omega)
    constructor
    · refine get _ (by omega) ?_
      unfold rstep
      simp only [Bool.or_eq_true, Bool.and_eq_true, decide_eq_true_eq, List.any_eq_true, List.mem_range]
      exact .inr ⟨i, hi, hin, .inl ⟨ho, .inl (by omega)⟩⟩
    · refine get _ (by omega) ?_
      unfold rstep
      simp only [Bool.or_eq_true, Bool.and_eq_true, decide_eq_true_eq, List.any_eq_true, List.mem_range]
      exact .inr ⟨i, hi, hin, .inl ⟨ho, .inr (by omega)⟩⟩
  · obtain ⟨a1, a2⟩ := hs.a i hi (by omega)
    obtain ⟨b1, b2⟩ := hs.b i hi (by omega)
    refine get _ (by omega) ?_
    unfold rstep
    simp only [Bool.or_eq_true, Bool.and_eq_true, decide_eq_true_eq, List.any_eq_true, List.mem_range]
    exact .inr ⟨i, hi, hin, .inr ⟨⟨ho, by omega⟩, ha⟩⟩

theorem count_lt : ∀ (s t : List Bool), s.length = t.length → (∀ i, s.getD i false = true → t.getD i false = true) → s ≠ t → s.count true < t.count true
  | [], [], _, _, h => absurd rfl h
  | x :: s, y :: t, hl, hm, hn => by
    have hm' : ∀ i, s.getD i false = true → t.getD i false = true := fun i h => by simpa using hm (i + 1) (by simpa using h)
    have h0 : x = true → y = true := fun h => by have := hm 0 (by simpa using h); simpa using this
    have hl' : s.length = t.length := by simpa using hl
    by_cases e : s = t
    · subst e
      cases x <;> cases y <;> simp_all
    · have := count_lt s t hl' hm' e
      cases x <;> cases y <;> simp_all <;> omega
theorem rounds_length {l : List Tm} {s : List Bool} (hl : s.length = l.length) : ∀ k, (rounds l k s).length = l.length
  | 0 => hl
  | k + 1 => round_length _ _
theorem rounds_fix {l : List Tm} {s : List Bool} (hl : s.length = l.length) : ∀ k, round l (rounds l k s) = rounds l k s ∨ k ≤ (rounds l k s).count true
  | 0 => .inr (Nat.zero_le _)
  | k + 1 => by
    rcases rounds_fix hl k with h | h
    · left
      show round l (round l (rounds l k s)) = round l (rounds l k s)
      rw [h, h]
    · by_cases e : rounds l k s = round l (rounds l k s)
      · left
        show round l (round l (rounds l k s)) = round l (rounds l k s)
        rw [← e, ← e]
      · right
        have := count_lt _ _ ((rounds_length hl k).trans (round_length l _).symm) (fun i h => round_more (rounds_length hl k) h) e
        show k + 1 ≤ (round l (rounds l k s)).count true
        omega
theorem rounds_done {l : List Tm} {s : List Bool} (hl : s.length = l.length) : round l (rounds l (l.length + 1) s) = rounds l (l.length + 1) s := by
  rcases rounds_fix hl (l.length + 1) with h | h
  · exact h
  · have := List.count_le_length (a := true) (l := rounds l (l.length + 1) s)
    rw [rounds_length hl] at this
    omega
theorem rounds_sound {l : List Tm} {K : Nat → Prop} (hs : Shape l) {s : List Bool} (h : Sound l K s) : ∀ k, Sound l K (rounds l k s)
  | 0 => h
  | k + 1 => round_sound hs (rounds_sound hs h k)
theorem rounds_more {l : List Tm} {s : List Bool} (hl : s.length = l.length) {i : Nat} (h : s.getD i false = true) : ∀ k, (rounds l k s).getD i false = true
  | 0 => h
  | k + 1 => round_more (rounds_length hl k) (rounds_more hl h k)

/-- The set of what is known, as the reference makes it. -/
def knownSet (l : List Tm) (known : List Int) : List Bool := known.foldl (fun s k => s.set k.toNat true) (List.replicate l.length false)
def rclose (l : List Tm) (known : List Int) : List Bool := rounds l (l.length + 1) (knownSet l known)
theorem foldl_set : ∀ (known : List Int) (s : List Bool), (∀ k, k ∈ known → 0 ≤ k ∧ k < s.length) →
    (known.foldl (fun s k => s.set k.toNat true) s).length = s.length ∧ ∀ i, (known.foldl (fun s k => s.set k.toNat true) s).getD i false = true ↔ s.getD i false = true ∨ (i : Int) ∈ known
  | [], s, _ => ⟨rfl, by simp⟩
  | k :: ks, s, h => by
    obtain ⟨v1, v2⟩ := h k (by simp)
    obtain ⟨h1, h2⟩ := foldl_set ks (s.set k.toNat true) (fun x hx => by rw [List.length_set]; exact h x (by simp [hx]))
    refine ⟨h1.trans (by simp), fun i => ?_⟩
    rw [List.foldl_cons, h2 i]
    by_cases e : k.toNat = i
    · subst e
      rw [getD_set_self (by omega)]
      simp [show ((k.toNat : Nat) : Int) = k by omega]
    · rw [getD_set_ne e]
      simp only [List.mem_cons]
      constructor
      · rintro (h | h)
        · exact .inl h
        · exact .inr (.inr h)
      · rintro (h | rfl | h)
        · exact .inl h
        · simp at e
        · exact .inr h
theorem rclose_all {l : List Tm} (hs : Shape l) {known : List Int} (hv : valid l known) : (rclose l known).length = l.length ∧ ∀ i, (rclose l known).getD i false = true ↔ Der l (Kn known) i := by
  obtain ⟨h1, h2⟩ := foldl_set known (List.replicate l.length false) (fun k hk => by rw [List.length_replicate]; exact hv k hk)
  have hl : (knownSet l known).length = l.length := h1.trans (by simp)
  have get : ∀ i, (knownSet l known).getD i false = true ↔ Kn known i := by
    intro i
    refine (h2 i).trans ?_
    constructor
    · rintro (h | h)
      · simp [List.getD, List.getElem?_replicate] at h; split at h <;> simp at h
      · exact h
    · exact .inr
  exact ⟨rounds_length hl _, least hs (rounds_sound hs (fun i hi => .known i ((get i).1 hi)) _) (round_id hs (rounds_done hl)) fun i hi => rounds_more hl ((get i).2 hi) _⟩
/-- The program and the reference end at one set. -/
theorem close_same {l : List Tm} (hs : Shape l) {known : List Int} (hv : valid l known) : (result l known).inn = rclose l known := by
  obtain ⟨h1, _, h2⟩ := result_all hs hv
  obtain ⟨h3, h4⟩ := rclose_all hs hv
  exact ext (h1.trans h3.symm) fun i => (h2 i).trans (h4 i).symm

end Ts
end Go.Proofs.Ytffgechbmhgndaa
