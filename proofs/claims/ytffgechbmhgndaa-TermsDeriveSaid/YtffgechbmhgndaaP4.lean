/- What can be found out, in plain lists: the program's passes and the reference's rounds end at the least set. -/
import Derived.Test.YtffgechbmhgndaaK1
set_option linter.unusedVariables false
set_option linter.unusedSimpArgs false
namespace Go.Proofs.Ytffgechbmhgndaa

structure Tm where
  op : Int
  a : Int
  b : Int
def Tm.z : Tm := ⟨0, 0, 0⟩

namespace Ts
abbrev tm (l : List Tm) (i : Nat) : Tm := l.getD i Tm.z
/-- Is a number in the set? -/
abbrev is (s : List Bool) (i : Int) : Bool := s.getD i.toNat false

def uses (t : Tm) : List Int := if t.op = 0 then [] else if t.op = 2 ∨ t.op = 3 then [t.a] else [t.a, t.b]
def bad (i : Nat) (t : Tm) : Bool := decide (t.op < 0) || decide (6 < t.op) || (uses t).any fun n => decide (n < 0) || decide ((i : Int) ≤ n)
def badIn (l : List Tm) : Bool := (List.range l.length).any fun i => bad i (tm l i)
def right (l : List Tm) : Int := if 200 < l.length then 2 else if badIn l then 51 else 0

/-- A well-shaped list. -/
structure Shape (l : List Tm) : Prop where
  op : ∀ i, i < l.length → 0 ≤ (tm l i).op ∧ (tm l i).op ≤ 6
  a : ∀ i, i < l.length → (tm l i).op ≠ 0 → 0 ≤ (tm l i).a ∧ (tm l i).a < i
  b : ∀ i, i < l.length → (tm l i).op = 1 ∨ 3 < (tm l i).op → 0 ≤ (tm l i).b ∧ (tm l i).b < i

theorem shape_of {l : List Tm} (h : badIn l = false) : Shape l := by
  simp only [badIn, List.any_eq_false, List.mem_range, bad] at h
  refine ⟨fun i hi => ?_, fun i hi h0 => ?_, fun i hi h1 => ?_⟩
  all_goals
    have := h i hi
    simp only [Bool.or_eq_true, decide_eq_true_eq, List.any_eq_true, not_or, not_exists, not_and] at this
    obtain ⟨⟨h2, h3⟩, h4⟩ := this
  · omega
  · have := h4 (tm l i).a (by unfold uses; rw [if_neg h0]; split <;> simp)
    omega
  · have := h4 (tm l i).b (by unfold uses; rw [if_neg (by omega), if_neg (by omega)]; simp)
    omega

/-! ### What comes by one step -/
/-- A public key of a secret is in the set. -/
def pub (l : List Tm) (s : List Bool) (secret : Int) : Bool := (List.range l.length).any fun i => (tm l i).op == 3 && (tm l i).a == secret && s.getD i false
/-- A term can be put together. -/
def made (l : List Tm) (s : List Bool) (t : Tm) : Bool :=
  if t.op = 0 then false else if t.op = 2 ∨ t.op = 3 then is s t.a else if t.op = 4 then (is s t.a && pub l s t.b) || (is s t.b && pub l s t.a) else is s t.a && is s t.b
/-- The set is closed: nothing new comes by a step. -/
structure Closed (l : List Tm) (s : List Bool) : Prop where
  made : ∀ i, i < l.length → made l s (tm l i) = true → s.getD i false = true
  pair : ∀ i, i < l.length → s.getD i false = true → (tm l i).op = 1 → is s (tm l i).a = true ∧ is s (tm l i).b = true
  box : ∀ i, i < l.length → s.getD i false = true → (tm l i).op = 5 → is s (tm l i).a = true → is s (tm l i).b = true

/-- What can be found out. -/
inductive Der (l : List Tm) (K : Nat → Prop) : Nat → Prop
  | known (i : Nat) : K i → Der l K i
  | pairA (k i : Nat) : k < l.length → Der l K k → (tm l k).op = 1 → (tm l k).a = i → Der l K i
  | pairB (k i : Nat) : k < l.length → Der l K k → (tm l k).op = 1 → (tm l k).b = i → Der l K i
  | box (k a i : Nat) : k < l.length → Der l K k → (tm l k).op = 5 → (tm l k).a = a → Der l K a → (tm l k).b = i → Der l K i
  | one (i a : Nat) : i < l.length → (tm l i).op = 2 ∨ (tm l i).op = 3 → (tm l i).a = a → Der l K a → Der l K i
  | two (i a b : Nat) : i < l.length → (tm l i).op = 1 ∨ 4 < (tm l i).op → (tm l i).a = a → Der l K a → (tm l i).b = b → Der l K b → Der l K i
  | shareA (i a p : Nat) : i < l.length → (tm l i).op = 4 → (tm l i).a = a → Der l K a → p < l.length → (tm l p).op = 3 → (tm l p).a = (tm l i).b → Der l K p → Der l K i
  | shareB (i b p : Nat) : i < l.length → (tm l i).op = 4 → (tm l i).b = b → Der l K b → p < l.length → (tm l p).op = 3 → (tm l p).a = (tm l i).a → Der l K p → Der l K i

theorem pub_iff {l : List Tm} {s : List Bool} {x : Int} : pub l s x = true ↔ ∃ p, p < l.length ∧ (tm l p).op = 3 ∧ (tm l p).a = x ∧ s.getD p false = true := by
  simp only [pub, List.any_eq_true, List.mem_range, Bool.and_eq_true, beq_iff_eq]
  constructor
  · rintro ⟨p, h1, ⟨h2, h3⟩, h4⟩; exact ⟨p, h1, h2, h3, h4⟩
  · rintro ⟨p, h1, h2, h3, h4⟩; exact ⟨p, h1, ⟨h2, h3⟩, h4⟩

/-- A closed set that has what is known has all that can be found out. -/
theorem Closed.all {l : List Tm} {s : List Bool} {K : Nat → Prop} (hs : Shape l) (h : Closed l s) (hk : ∀ i, K i → s.getD i false = true) : ∀ i, Der l K i → s.getD i false = true := by
  have nat : ∀ {x : Int} {n : Nat}, x = n → is s x = s.getD n false := by rintro x n rfl; simp [is]
  intro i hd
  induction hd with
  | known i hi => exact hk i hi
  | pairA k i hkl _ ho ha ih => have := (h.pair k hkl ih ho).1; rwa [nat ha] at this
  | pairB k i hkl _ ho ha ih => have := (h.pair k hkl ih ho).2; rwa [nat ha] at this
  | box k a i hkl _ ho ha _ hb ih iha => have := h.box k hkl ih ho (by rw [nat ha]; exact iha); rwa [nat hb] at this
  | one i a hi ho ha _ iha => exact h.made i hi (by unfold Ts.made; rw [if_neg (by omega), if_pos ho, nat ha]; exact iha)
  | two i a b hi ho ha _ hb _ iha ihb => exact h.made i hi (by unfold Ts.made; rw [if_neg (by omega), if_neg (by omega), if_neg (by omega), nat ha, nat hb, iha, ihb]; rfl)
  | shareA i a p hi ho ha _ hp hpo hpa _ iha ihp =>
    refine h.made i hi ?_
    have : pub l s (tm l i).b = true := pub_iff.2 ⟨p, hp, hpo, hpa, ihp⟩
    unfold Ts.made; rw [if_neg (by omega), if_neg (by omega), if_pos ho, nat ha, iha, this]; rfl
  | shareB i b p hi ho hb _ hp hpo hpa _ ihb ihp =>
    refine h.made i hi ?_
    have : pub l s (tm l i).a = true := pub_iff.2 ⟨p, hp, hpo, hpa, ihp⟩
    unfold Ts.made; rw [if_neg (by omega), if_neg (by omega), if_pos ho, nat hb, ihb, this]; simp

/-- Only what can be found out. -/
def Sound (l : List Tm) (K : Nat → Prop) (s : List Bool) : Prop := ∀ i, s.getD i false = true → Der l K i
theorem Sound.made {l : List Tm} {K : Nat → Prop} {s : List Bool} (hs : Shape l) (h : Sound l K s) {i : Nat} (hi : i < l.length) (hm : made l s (tm l i) = true) : Der l K i := by
  obtain ⟨o1, o2⟩ := hs.op i hi
  unfold Ts.made at hm
  split at hm
  · cases hm
  · rename_i h0
    obtain ⟨a1, a2⟩ := hs.a i hi h0
    have ea : (tm l i).a = ((tm l i).a.toNat : Nat) := by omega
    split at hm
    · rename_i h1
      exact .one i _ hi h1 ea (h _ hm)
    · rename_i h1
      obtain ⟨b1, b2⟩ := hs.b i hi (by omega)
      have eb : (tm l i).b = ((tm l i).b.toNat : Nat) := by omega
      split at hm
      · rename_i h2
        simp only [Bool.or_eq_true, Bool.and_eq_true] at hm
        rcases hm with ⟨q1, q2⟩ | ⟨q1, q2⟩
        · obtain ⟨p, hp, hpo, hpa, hps⟩ := pub_iff.1 q2
          exact .shareA i _ p hi h2 ea (h _ q1) hp hpo hpa (h _ hps)
        · obtain ⟨p, hp, hpo, hpa, hps⟩ := pub_iff.1 q2
          exact .shareB i _ p hi h2 eb (h _ q1) hp hpo hpa (h _ hps)
      · simp only [Bool.and_eq_true] at hm
        exact .two i _ _ hi (by omega) ea (h _ hm.1) eb (h _ hm.2)
/-- A sound, closed set that has what is known is just what can be found out. -/
theorem least {l : List Tm} {K : Nat → Prop} {s : List Bool} (hs : Shape l) (h1 : Sound l K s) (h2 : Closed l s) (hk : ∀ i, K i → s.getD i false = true) (i : Nat) : s.getD i false = true ↔ Der l K i :=
  ⟨h1 i, h2.all hs hk i⟩
theorem ext {s t : List Bool} (hl : s.length = t.length) (h : ∀ i, s.getD i false = true ↔ t.getD i false = true) : s = t := by
  apply List.ext_getElem hl
  intro i h1 h2
  have := h i
  simp only [List.getD, List.getElem?_eq_getElem h1, List.getElem?_eq_getElem h2, Option.getD_some] at this
  exact Bool.eq_iff_iff.2 this

/-! ### The program's passes -/
structure St where
  inn : List Bool
  order : List Nat
def add (s : St) (i : Nat) : St := if s.inn.getD i false then s else ⟨s.inn.set i true, s.order ++ [i]⟩
def opened (s : St) (t : Tm) : St := if t.op = 1 then add (add s t.a.toNat) t.b.toNat else if t.op = 5 ∧ is s.inn t.a = true then add s t.b.toNat else s
def visit (l : List Tm) (s : St) (i : Nat) : St :=
  let s1 := if made l s.inn (tm l i) then add s i else s
  if s1.inn.getD i false then opened s1 (tm l i) else s1
def passTo (l : List Tm) (s : St) : Nat → St
  | 0 => s
  | k + 1 => visit l (passTo l s k) k
def pass (l : List Tm) (s : St) : St := passTo l s l.length

theorem getD_set_self {l : List Bool} {i : Nat} (h : i < l.length) (x : Bool) : (l.set i x).getD i false = x := by simp [List.getD, h]
theorem getD_set_ne {l : List Bool} {i j : Nat} (h : i ≠ j) (x : Bool) : (l.set i x).getD j false = l.getD j false := by simp [List.getD, List.getElem?_set_ne h]
theorem getD_lt {l : List Bool} {i : Nat} (h : l.getD i false = true) : i < l.length := by
  by_cases hi : i < l.length
  · exact hi
  · simp [List.getD, List.getElem?_eq_none (Nat.le_of_not_lt hi)] at h

theorem add_length (s : St) (i : Nat) : (add s i).inn.length = s.inn.length := by unfold add; split <;> simp
theorem add_le (s : St) (i : Nat) : s.order.length ≤ (add s i).order.length := by unfold add; split <;> simp
theorem add_id {s : St} {i : Nat} (h : (add s i).order.length ≤ s.order.length) : s.inn.getD i false = true := by
  unfold add at h
  split at h
  · assumption
  · simp at h; omega
theorem add_of {s : St} {i : Nat} (h : s.inn.getD i false = true) : add s i = s := by unfold add; rw [if_pos h]
theorem add_has {s : St} {i : Nat} (h : i < s.inn.length) : (add s i).inn.getD i false = true := by
  unfold add; split
  · assumption
  · exact getD_set_self h true
theorem add_more {s : St} {i j : Nat} (h : s.inn.getD j false = true) : (add s i).inn.getD j false = true := by
  unfold add; split
  · exact h
  · by_cases e : i = j
    · subst e; exact getD_set_self (getD_lt h) true
    · have h' : (s.inn.set i true).getD j false = s.inn.getD j false := getD_set_ne e true
      exact h'.trans h
theorem add_inv {s : St} {i j : Nat} (h : (add s i).inn.getD j false = true) : s.inn.getD j false = true ∨ j = i := by
  unfold add at h; split at h
  · exact .inl h
  · by_cases e : i = j
    · exact .inr e.symm
    · left
      have h' : (s.inn.set i true).getD j false = true := h
      rwa [getD_set_ne e] at h'

/-- The order has what is in the set, each once. -/
structure Inv (s : St) : Prop where
  mem : ∀ i, i ∈ s.order ↔ s.inn.getD i false = true
  nodup : s.order.Nodup
theorem Inv.add {s : St} (h : Inv s) {i : Nat} (hi : i < s.inn.length) : Inv (add s i) := by
  by_cases hs : s.inn.getD i false = true
  · rw [add_of hs]; exact h
  · have e : Ts.add s i = ⟨s.inn.set i true, s.order ++ [i]⟩ := by unfold Ts.add; rw [if_neg hs]
    rw [e]
    refine ⟨fun j => ?_, ?_⟩
    · simp only [List.mem_append, List.mem_singleton]
      by_cases hj : i = j
      · subst hj
        have := getD_set_self hi true
        exact ⟨fun _ => this, fun _ => .inr rfl⟩
      · show _ ↔ (s.inn.set i true).getD j false = true
        rw [getD_set_ne hj, h.mem j]
        simp [Ne.symm hj]
    · rw [List.nodup_append]
      refine ⟨h.nodup, by simp, ?_⟩
      intro a ha b hb
      simp at hb
      rintro rfl
      exact hs ((h.mem a).1 ha |> fun q => by rw [hb] at q; exact q)
theorem nodup_le (n : Nat) : ∀ (l : List Nat), l.Nodup → (∀ x, x ∈ l → x < n) → l.length ≤ n := by
  induction n with
  | zero =>
    intro l _ h
    cases l with
    | nil => simp
    | cons x l => exact absurd (h x (by simp)) (by omega)
  | succ n ih =>
    intro l hn h
    have h1 := ih (l.erase n) (hn.erase n) (fun x hx => by
      have hx2 := (List.Nodup.mem_erase_iff hn).1 hx
      have := h x hx2.2
      omega)
    have h2 : l.length ≤ (l.erase n).length + 1 := by
      rw [List.length_erase]; split <;> omega
    omega
theorem Inv.le {s : St} (h : Inv s) : s.order.length ≤ s.inn.length := nodup_le _ _ h.nodup fun x hx => getD_lt ((h.mem x).1 hx)

/-- What every step keeps. -/
structure Keeps (l : List Tm) (K : Nat → Prop) (s t : St) : Prop where
  len : t.inn.length = s.inn.length
  le : s.order.length ≤ t.order.length
  more : ∀ j, s.inn.getD j false = true → t.inn.getD j false = true
  inv : Inv s → Inv t
  sound : Sound l K s.inn → Sound l K t.inn
theorem Keeps.refl (l : List Tm) (K : Nat → Prop) (s : St) : Keeps l K s s := ⟨rfl, Nat.le_refl _, fun _ h => h, fun h => h, fun h => h⟩
theorem Keeps.trans {l : List Tm} {K : Nat → Prop} {s t u : St} (h : Keeps l K s t) (k : Keeps l K t u) : Keeps l K s u :=
  ⟨k.len.trans h.len, Nat.le_trans h.le k.le, fun j hj => k.more j (h.more j hj), fun i => k.inv (h.inv i), fun i => k.sound (h.sound i)⟩
theorem Keeps.add {l : List Tm} {K : Nat → Prop} {s : St} {i : Nat} (hi : i < s.inn.length) (hd : Sound l K s.inn → Der l K i) : Keeps l K s (add s i) :=
  ⟨add_length s i, add_le s i, fun _ h => add_more h, fun h => h.add hi, fun h j hj => (add_inv hj).elim (h j) fun e => e ▸ hd h⟩

theorem keeps_opened {l : List Tm} {K : Nat → Prop} (hs : Shape l) {s : St} (hl : s.inn.length = l.length) {i : Nat} (hi : i < l.length) (hin : s.inn.getD i false = true) : Keeps l K s (opened s (tm l i)) := by
  unfold opened
  split
  · rename_i h1
    obtain ⟨a1, a2⟩ := hs.a i hi (by omega)
    obtain ⟨b1, b2⟩ := hs.b i hi (by omega)
    have k1 : Keeps l K s (add s (tm l i).a.toNat) := Keeps.add (by omega) fun h => .pairA i _ hi (h i hin) h1 (by omega)
    exact k1.trans (Keeps.add (by rw [k1.len]; omega) fun h => .pairB i _ hi (h i (k1.more i hin)) h1 (by omega))
  · split
    · rename_i h1 h2
      obtain ⟨a1, a2⟩ := hs.a i hi (by omega)
      obtain ⟨b1, b2⟩ := hs.b i hi (by omega)
      exact Keeps.add (by omega) fun h => .box i (tm l i).a.toNat _ hi (h i hin) h2.1 (by omega) (h _ h2.2) (by omega)
    · exact Keeps.refl _ _ _
theorem keeps_visit {l : List Tm} {K : Nat → Prop} (hs : Shape l) {s : St} (hl : s.inn.length = l.length) {i : Nat} (hi : i < l.length) : Keeps l K s (visit l s i) := by
  unfold visit
  have k1 : Keeps l K s (if Ts.made l s.inn (tm l i) = true then add s i else s) := by
    split
    · rename_i hm; exact Keeps.add (by omega) fun h => h.made hs hi hm
    · exact Keeps.refl _ _ _
  dsimp only
  generalize (if Ts.made l s.inn (tm l i) = true then add s i else s) = s1 at k1
  split
  · rename_i hin; exact k1.trans (keeps_opened hs (by rw [k1.len]; exact hl) hi hin)
  · exact k1
theorem keeps_passTo {l : List Tm} {K : Nat → Prop} (hs : Shape l) {s : St} (hl : s.inn.length = l.length) : ∀ k, k ≤ l.length → Keeps l K s (passTo l s k)
  | 0, _ => Keeps.refl _ _ _
  | k + 1, hk => by
    have h := keeps_passTo (K := K) hs hl k (by omega)
    exact h.trans (keeps_visit hs (by rw [h.len]; exact hl) (by omega))

theorem opened_id {s : St} {t : Tm} (h : (opened s t).order.length ≤ s.order.length) : (t.op = 1 → is s.inn t.a = true ∧ is s.inn t.b = true) ∧ (t.op = 5 → is s.inn t.a = true → is s.inn t.b = true) ∧ opened s t = s := by
  unfold opened at h ⊢
  split at h
  · rename_i h1
    have l1 := add_le s t.a.toNat
    have l2 := add_le (add s t.a.toNat) t.b.toNat
    have e1 := add_id (s := s) (i := t.a.toNat) (by omega)
    rw [add_of e1] at h ⊢
    have e2 := add_id h
    refine ⟨fun _ => ⟨e1, e2⟩, fun h5 => by omega, ?_⟩
    rw [if_pos h1, add_of e2]
  · rename_i h1
    split at h
    · rename_i h2
      have e2 := add_id h
      exact ⟨fun h => absurd h h1, fun _ _ => e2, by rw [if_neg h1, if_pos h2, add_of e2]⟩
    · rename_i h2
      exact ⟨fun h => absurd h h1, fun h5 ha => absurd ⟨h5, ha⟩ h2, by rw [if_neg h1, if_neg h2]⟩
theorem opened_le (s : St) (t : Tm) : s.order.length ≤ (opened s t).order.length := by
  unfold opened
  split
  · exact Nat.le_trans (add_le _ _) (add_le _ _)
  · split
    · exact add_le _ _
    · exact Nat.le_refl _
theorem visit_id {l : List Tm} {s : St} {i : Nat} (h : (visit l s i).order.length ≤ s.order.length) : visit l s i = s ∧ (Ts.made l s.inn (tm l i) = true → s.inn.getD i false = true) ∧
    (s.inn.getD i false = true → ((tm l i).op = 1 → is s.inn (tm l i).a = true ∧ is s.inn (tm l i).b = true) ∧ ((tm l i).op = 5 → is s.inn (tm l i).a = true → is s.inn (tm l i).b = true)) := by
  have hm : Ts.made l s.inn (tm l i) = true → s.inn.getD i false = true := by
    intro hm
    refine add_id (i := i) ?_
    refine Nat.le_trans ?_ h
    unfold visit
    rw [if_pos hm]
    dsimp only
    split
    · exact opened_le _ _
    · exact Nat.le_refl _
  have e1 : (if Ts.made l s.inn (tm l i) = true then add s i else s) = s := by
    split
    · rename_i h1; exact add_of (hm h1)
    · rfl
  have e2 : visit l s i = if s.inn.getD i false = true then opened s (tm l i) else s := by unfold visit; rw [e1]
  rw [e2] at h ⊢
  by_cases hin : s.inn.getD i false = true
  · rw [if_pos hin] at h ⊢
    obtain ⟨q1, q2, q3⟩ := opened_id h
    exact ⟨q3, hm, fun _ => ⟨q1, q2⟩⟩
  · rw [if_neg hin]
    exact ⟨rfl, hm, fun h => absurd h hin⟩
/-- A pass that finds nothing new: the set is closed. -/
theorem pass_id {l : List Tm} (hs : Shape l) {s : St} (hl : s.inn.length = l.length) (h : (pass l s).order.length ≤ s.order.length) : pass l s = s ∧ Closed l s.inn := by
  have all : ∀ k, k ≤ l.length → passTo l s k = s := by
    intro k
    induction k with
    | zero => intro _; rfl
    | succ k ih =>
      intro hk
      have e := ih (by omega)
      have h1 : (passTo l s (k + 1)).order.length ≤ s.order.length := by
        refine Nat.le_trans ?_ h
        have aux : ∀ d, (passTo l s (k + 1)).order.length ≤ (passTo l s (k + 1 + d)).order.length ∨ l.length < k + 1 + d := by
          intro d
          induction d with
          | zero => exact .inl (Nat.le_refl _)
          | succ d ihd =>
            by_cases hd : l.length < k + 1 + (d + 1)
            · exact .inr hd
            · left
              refine Nat.le_trans (ihd.resolve_right (by omega)) ?_
              have hlen := (keeps_passTo (K := fun _ => True) hs hl (k + 1 + d) (by omega)).len
              have hkk : k + 1 + d < l.length := by omega
              exact (keeps_visit (K := fun _ => True) (i := k + 1 + d) hs (hlen.trans hl) hkk).le
        have := aux (l.length - (k + 1))
        rw [show k + 1 + (l.length - (k + 1)) = l.length by omega] at this
        exact this.resolve_right (by omega)
      show visit l (passTo l s k) k = s
      have h2 : (visit l (passTo l s k) k).order.length ≤ s.order.length := h1
      rw [e] at h2 ⊢
      exact (visit_id h2).1
  refine ⟨all _ (Nat.le_refl _), ?_⟩
  have vis : ∀ k, k < l.length → (visit l s k).order.length ≤ s.order.length := by
    intro k hk
    have h1 := all (k + 1) (by omega)
    have h2 := all k (by omega)
    have h3 : visit l (passTo l s k) k = s := h1
    rw [h2] at h3
    rw [h3]
    exact Nat.le_refl _
  exact ⟨fun i hi hm => (visit_id (vis i hi)).2.1 hm, fun i hi hin ho => ((visit_id (vis i hi)).2.2 hin).1 ho, fun i hi hin ho ha => ((visit_id (vis i hi)).2.2 hin).2 ho ha⟩

/-- Passes until nothing is new. -/
inductive Ends (l : List Tm) : St → St → Prop
  | last (s : St) : (pass l s).order.length ≤ s.order.length → Ends l s (pass l s)
  | more (s r : St) : s.order.length < (pass l s).order.length → Ends l (pass l s) r → Ends l s r
def iter (l : List Tm) : Nat → St → St
  | 0, s => s
  | k + 1, s => if s.order.length < (pass l s).order.length then iter l k (pass l s) else pass l s
theorem ends_iter {l : List Tm} (hs : Shape l) {s r : St} (h : Ends l s r) : Inv s → s.inn.length = l.length → ∀ k, l.length < s.order.length + k → iter l k s = r := by
  induction h with
  | last s h =>
    intro hi hl k hk
    have := hi.le
    obtain ⟨k, rfl⟩ : ∃ m, k = m + 1 := ⟨k - 1, by omega⟩
    rw [iter, if_neg (by omega)]
  | more s r h _ ih =>
    intro hi hl k hk
    have hp := keeps_passTo (K := fun _ => True) hs hl l.length (Nat.le_refl _)
    have := hi.le
    obtain ⟨k, rfl⟩ : ∃ m, k = m + 1 := ⟨k - 1, by omega⟩
    rw [iter, if_pos h]
    exact ih (hp.inv hi) (hp.len.trans hl) k (by omega)
theorem ends_keeps {l : List Tm} {K : Nat → Prop} (hs : Shape l) {s r : St} (h : Ends l s r) : s.inn.length = l.length → Keeps l K s r ∧ Closed l r.inn := by
  induction h with
  | last s h =>
    intro hl
    obtain ⟨e, hc⟩ := pass_id hs hl h
    rw [e]
    exact ⟨Keeps.refl _ _ _, hc⟩
  | more s r h _ ih =>
    intro hl
    have hp := keeps_passTo (K := K) hs hl l.length (Nat.le_refl _)
    obtain ⟨k1, k2⟩ := ih (hp.len.trans hl)
    exact ⟨hp.trans k1, k2⟩

end Ts
end Go.Proofs.Ytffgechbmhgndaa
