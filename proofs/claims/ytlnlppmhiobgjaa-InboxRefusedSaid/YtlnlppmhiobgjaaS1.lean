/- One signature by one key, in plain lists: digits, chains, keys. -/
import Derived.Test.YtlnlppmhiobgjaaS0
set_option linter.unusedVariables false
set_option linter.unusedSimpArgs false
namespace Go.Proofs.Ytlnlppmhiobgjaa
/-- A whole number as sixty-four bits. -/
def u64n (x : Int) : Nat := (x % 18446744073709551616).toNat
def hb (x : Int) (n : Nat) : List Nat := highL (u64n x) n
theorem hb_len (x : Int) (n : Nat) : (hb x n).length = n := highL_len _ _
theorem hb_lt (x : Int) (n : Nat) : ∀ b ∈ hb x n, b < 256 := highL_lt _ _
theorem u64n_nat {a : Nat} (h : a < 18446744073709551616) : u64n a = a := by unfold u64n; omega
/-- Digits that are not yet checked. -/
def digB (f : Nat → Nat) : Nat → List Nat
  | 0 => []
  | k + 1 => digB f k ++ [f k / 16, f k % 16]
theorem digB_len (f : Nat → Nat) : ∀ k, (digB f k).length = 2 * k
  | 0 => rfl
  | k + 1 => by rw [digB, List.length_append, digB_len f k]; rfl
def lackN (l : List Nat) : Nat := (l.map fun d => 15 - d).sum
theorem lackN_app (l m : List Nat) : lackN (l ++ m) = lackN l + lackN m := by simp [lackN]
theorem lackN_le : ∀ l : List Nat, lackN l ≤ 15 * l.length
  | [] => Nat.le_refl _
  | d :: l => by
    have := lackN_le l
    simp only [lackN, List.map_cons, List.sum_cons, List.length_cons] at this ⊢
    omega
/-- A digest's digits. -/
def digL (f : Nat → Nat) : List Nat := digB f 32 ++ [lackN (digB f 32) / 256, lackN (digB f 32) / 16 % 16, lackN (digB f 32) % 16]
theorem digL_len (f : Nat → Nat) : (digL f).length = 67 := by rw [digL, List.length_append, digB_len]; rfl
theorem digB_lt {f : Nat → Nat} (h : ∀ i, i < 32 → f i < 256) : ∀ k, k ≤ 32 → ∀ d ∈ digB f k, d < 16
  | 0, _ => by simp [digB]
  | k + 1, hk => by
    intro d hd
    rw [digB, List.mem_append] at hd
    rcases hd with hd | hd
    · exact digB_lt h k (by omega) d hd
    · have := h k (by omega)
      simp only [List.mem_cons, List.not_mem_nil, or_false] at hd
      rcases hd with rfl | rfl <;> omega
theorem lack_lt (f : Nat → Nat) : lackN (digB f 32) ≤ 960 := by
  have h := lackN_le (digB f 32)
  rw [digB_len] at h
  exact h
theorem digL_lt {f : Nat → Nat} (h : ∀ i, i < 32 → f i < 256) : ∀ d ∈ digL f, d < 16 := by
  intro d hd
  have hl := lack_lt f
  rw [digL, List.mem_append] at hd
  rcases hd with hd | hd
  · exact digB_lt h 32 (Nat.le_refl _) d hd
  · generalize lackN (digB f 32) = L at hl hd
    simp only [List.mem_cons, List.not_mem_nil, or_false] at hd
    rcases hd with rfl | rfl | rfl <;> omega
theorem digB_get (f : Nat → Nat) : ∀ k i, i < k → (digB f k)[2 * i]? = some (f i / 16) ∧ (digB f k)[2 * i + 1]? = some (f i % 16)
  | 0, _, h => absurd h (by omega)
  | k + 1, i, h => by
    rw [digB]
    rcases Nat.lt_or_ge i k with hi | hi
    · obtain ⟨h1, h2⟩ := digB_get f k i hi
      rw [List.getElem?_append_left (by rw [digB_len]; omega), List.getElem?_append_left (by rw [digB_len]; omega)]
      exact ⟨h1, h2⟩
    · have e : i = k := by omega
      subst e
      rw [List.getElem?_append_right (by rw [digB_len]; omega), List.getElem?_append_right (by rw [digB_len]; omega), digB_len]
      have e1 : 2 * i - 2 * i = 0 := by omega
      have e2 : 2 * i + 1 - 2 * i = 1 := by omega
      rw [e1, e2]
      exact ⟨rfl, rfl⟩
/-- Where no digit is above the other one's, less is lacking. -/
theorem lack_mono : ∀ {l m : List Nat}, l.length = m.length → (∀ d ∈ l, d < 16) → (∀ d ∈ m, d < 16) → (∀ i a b : Nat, l[i]? = some a → m[i]? = some b → a ≤ b) → lackN m ≤ lackN l ∧ (lackN m = lackN l → l = m)
  | [], [], _, _, _, _ => ⟨Nat.le_refl _, fun _ => rfl⟩
  | [], _ :: _, h, _, _, _ => by simp at h
  | _ :: _, [], h, _, _, _ => by simp at h
  | a :: l, b :: m, h, ha, hb, hab => by
    have h1 := lack_mono (l := l) (m := m) (by simpa using h) (fun d hd => ha d (List.mem_cons_of_mem _ hd)) (fun d hd => hb d (List.mem_cons_of_mem _ hd)) (fun i x y hx hy => hab (i + 1) x y (by simpa using hx) (by simpa using hy))
    have h2 := hab 0 a b rfl rfl
    have h3 := ha a (List.mem_cons_self ..)
    have h4 := hb b (List.mem_cons_self ..)
    simp only [lackN, List.map_cons, List.sum_cons] at h1 ⊢
    refine ⟨by omega, fun e => ?_⟩
    have e1 : a = b := by omega
    subst e1
    rw [h1.2 (by omega)]
/-- Of two digests that are unlike one has a digit that is above the other one's. -/
theorem dig_above {f g : Nat → Nat} (hf : ∀ i, i < 32 → f i < 256) (hg : ∀ i, i < 32 → g i < 256) (h : ∀ i a b : Nat, (digL f)[i]? = some a → (digL g)[i]? = some b → a ≤ b) : ∀ i, i < 32 → f i = g i := by
  have hB : ∀ i a b : Nat, (digB f 32)[i]? = some a → (digB g 32)[i]? = some b → a ≤ b := fun i a b ha hb => by
    have h1 := (List.getElem?_eq_some_iff.1 ha).1
    have h2 := (List.getElem?_eq_some_iff.1 hb).1
    refine h i a b ?_ ?_
    · rw [digL, List.getElem?_append_left h1]; exact ha
    · rw [digL, List.getElem?_append_left h2]; exact hb
  obtain ⟨h1, h2⟩ := lack_mono (by rw [digB_len, digB_len]) (digB_lt hf 32 (Nat.le_refl _)) (digB_lt hg 32 (Nat.le_refl _)) hB
  have hC : ∀ j a b : Nat, j < 3 → [lackN (digB f 32) / 256, lackN (digB f 32) / 16 % 16, lackN (digB f 32) % 16][j]? = some a → [lackN (digB g 32) / 256, lackN (digB g 32) / 16 % 16, lackN (digB g 32) % 16][j]? = some b → a ≤ b := fun j a b hj ha hb => by
    refine h (64 + j) a b ?_ ?_
    · rw [digL, List.getElem?_append_right (by rw [digB_len]; omega), digB_len]
      have : 64 + j - 2 * 32 = j := by omega
      rw [this]; exact ha
    · rw [digL, List.getElem?_append_right (by rw [digB_len]; omega), digB_len]
      have : 64 + j - 2 * 32 = j := by omega
      rw [this]; exact hb
  have c0 := hC 0 _ _ (by omega) rfl rfl
  have c1 := hC 1 _ _ (by omega) rfl rfl
  have c2 := hC 2 _ _ (by omega) rfl rfl
  have l1 := lack_lt f
  have l2 := lack_lt g
  have he : lackN (digB g 32) = lackN (digB f 32) := by
    clear hC hB h2 h
    generalize lackN (digB g 32) = A at *
    generalize lackN (digB f 32) = B at *
    omega
  have hd := h2 he
  intro i hi
  have g1 := digB_get f 32 i hi
  have g2 := digB_get g 32 i hi
  rw [hd] at g1
  have e1 := g1.1.symm.trans g2.1
  have e2 := g1.2.symm.trans g2.2
  simp only [Option.some.injEq] at e1 e2
  omega
/-- Going along a chain. -/
def alF (tag : Nat → Nat) (chain start : Int) (v : Nat → Nat) : Nat → Nat → Nat
  | 0 => v
  | k + 1 => shaK (kl tag ++ (hb chain 2 ++ (hb (start + k) 2 ++ kl (alF tag chain start v k))))
theorem alF_lt (tag : Nat → Nat) (chain start : Int) {v : Nat → Nat} (h : ∀ i, i < 32 → v i < 256) : ∀ k i, i < 32 → alF tag chain start v k i < 256
  | 0, i, hi => h i hi
  | k + 1, i, _ => shaK_lt _ _
theorem alF_add (tag : Nat → Nat) (chain start : Int) (v : Nat → Nat) (a : Nat) : ∀ b, alF tag chain start v (a + b) = alF tag chain (start + a) (alF tag chain start v a) b
  | 0 => rfl
  | b + 1 => by
    rw [← Nat.add_assoc, alF, alF, alF_add tag chain start v a b]
    have : start + ((a + b : Nat) : Int) = start + a + b := by omega
    rw [this]
/-- "chain" -/
def sChain : List Nat := [99, 104, 97, 105, 110]
def begF (seed : Nat → Nat) (chain : Int) : Nat → Nat := derK seed sChain [hb chain 2]
/-- The chains' ends, one behind the other. -/
def endsL (tag : Nat → Nat) (ends : List (Nat → Nat)) : List Nat := kl tag ++ (ends.map kl).flatten
def pubF (seed tag : Nat → Nat) : Nat → Nat := shaK (endsL tag ((List.range 67).map fun (i : Nat) => alF tag (i : Int) 0 (begF seed i) 15))
def sigF (seed tag digest : Nat → Nat) : List (Nat → Nat) := (List.range 67).map fun (i : Nat) => alF tag (i : Int) 0 (begF seed i) ((digL digest).getD i 0)
def recF (tag digest : Nat → Nat) (l : List (Nat → Nat)) : Nat → Nat := shaK (endsL tag ((List.range 67).map fun (i : Nat) => alF tag (i : Int) ((digL digest).getD i 0) (l.getD i (fun _ => 0)) (15 - (digL digest).getD i 0)))
theorem sigF_get (seed tag digest : Nat → Nat) {i : Nat} (h : i < 67) : (sigF seed tag digest).getD i (fun _ => 0) = alF tag i 0 (begF seed i) ((digL digest).getD i 0) := by
  unfold sigF
  rw [List.getD_eq_getElem?_getD, List.getElem?_map, List.getElem?_range h, Option.map_some, Option.getD_some]
theorem digD_lt {digest : Nat → Nat} (hd : ∀ i, i < 32 → digest i < 256) (i : Nat) : (digL digest).getD i 0 < 16 := by
  rw [List.getD_eq_getElem?_getD]
  cases e : (digL digest)[i]? with
  | none => rw [Option.getD_none]; omega
  | some v => rw [Option.getD_some]; exact digL_lt hd v (List.mem_of_getElem? e)
theorem al_split (tag : Nat → Nat) (i : Int) (v : Nat → Nat) {d : Nat} (h : d < 16) : alF tag i (d : Int) (alF tag i 0 v d) (15 - d) = alF tag i 0 v 15 := by
  have e := alF_add tag i 0 v d (15 - d)
  rw [Int.zero_add] at e
  have e2 : d + (15 - d) = 15 := by omega
  rw [e2] at e
  exact e.symm
theorem rec_sig (seed tag digest : Nat → Nat) (hd : ∀ i, i < 32 → digest i < 256) : recF tag digest (sigF seed tag digest) = pubF seed tag := by
  unfold recF pubF
  refine congrArg shaK (congrArg (endsL tag) (List.map_congr_left fun i hi => ?_))
  rw [sigF_get seed tag digest (List.mem_range.1 hi)]
  exact al_split tag i (begF seed i) (digD_lt hd i)
end Go.Proofs.Ytlnlppmhiobgjaa
