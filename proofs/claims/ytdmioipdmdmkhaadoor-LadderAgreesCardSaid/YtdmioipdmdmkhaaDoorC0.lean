/- Plain facts on the reference's numbers: digits of 16 bits. -/
import Derived.Test.YtdmioipdmdmkhaaDoorA10
set_option linter.unusedVariables false
set_option linter.unusedSimpArgs false
namespace Go.Proofs.YtdmioipdmdmkhaaDoor
open Go.RowKit

def upd (f : Nat → Nat) (i v : Nat) : Nat → Nat := fun j => if j = i then v else f j
theorem upd_eq (f : Nat → Nat) (i v : Nat) : upd f i v i = v := if_pos rfl
theorem upd_ne (f : Nat → Nat) {i j : Nat} (v : Nat) (h : j ≠ i) : upd f i v j = f j := if_neg h
theorem below_drewN {B : Nat} {a w : World} (h : Below B a w) (n : Nat) : Below B a (w.drewN n) := ⟨h.os, h.tape, h.output, h.size, h.block⟩
abbrev nArr (f : Nat → Nat) : Array Value := #[.int .u64 (f 0 : Nat), .int .u64 (f 1 : Nat), .int .u64 (f 2 : Nat), .int .u64 (f 3 : Nat), .int .u64 (f 4 : Nat), .int .u64 (f 5 : Nat), .int .u64 (f 6 : Nat), .int .u64 (f 7 : Nat), .int .u64 (f 8 : Nat), .int .u64 (f 9 : Nat), .int .u64 (f 10 : Nat), .int .u64 (f 11 : Nat), .int .u64 (f 12 : Nat), .int .u64 (f 13 : Nat), .int .u64 (f 14 : Nat), .int .u64 (f 15 : Nat)]
theorem nArr_at (f : Nat → Nat) {i : Nat} (h : i < 16) : (nArr f)[i]? = some (.int .u64 (f i : Nat)) := by
  have h' : i = 0 ∨ i = 1 ∨ i = 2 ∨ i = 3 ∨ i = 4 ∨ i = 5 ∨ i = 6 ∨ i = 7 ∨ i = 8 ∨ i = 9 ∨ i = 10 ∨ i = 11 ∨ i = 12 ∨ i = 13 ∨ i = 14 ∨ i = 15 := by omega
  rcases h' with rfl | rfl | rfl | rfl | rfl | rfl | rfl | rfl | rfl | rfl | rfl | rfl | rfl | rfl | rfl | rfl <;> rfl
theorem nArr_set (f : Nat → Nat) {i : Nat} (h : i < 16) (v : Nat) : (nArr f).setIfInBounds i (.int .u64 (v : Nat)) = nArr (upd f i v) := by
  have h' : i = 0 ∨ i = 1 ∨ i = 2 ∨ i = 3 ∨ i = 4 ∨ i = 5 ∨ i = 6 ∨ i = 7 ∨ i = 8 ∨ i = 9 ∨ i = 10 ∨ i = 11 ∨ i = 12 ∨ i = 13 ∨ i = 14 ∨ i = 15 := by omega
  rcases h' with rfl | rfl | rfl | rfl | rfl | rfl | rfl | rfl | rfl | rfl | rfl | rfl | rfl | rfl | rfl | rfl <;> rfl
theorem nArr_one (f : Nat → Nat) : (nArr f).all (·.oneCell') = true := by kernel_rfl
theorem nArr_congr {f g : Nat → Nat} (h : ∀ i, i < 16 → f i = g i) : nArr f = nArr g := by
  unfold nArr; rw [h 0 (by omega), h 1 (by omega), h 2 (by omega), h 3 (by omega), h 4 (by omega), h 5 (by omega), h 6 (by omega), h 7 (by omega), h 8 (by omega), h 9 (by omega), h 10 (by omega), h 11 (by omega), h 12 (by omega), h 13 (by omega), h 14 (by omega), h 15 (by omega)]
abbrev dArr (f : Nat → Nat) : Array Value := #[.int .u64 (f 0 : Nat), .int .u64 (f 1 : Nat), .int .u64 (f 2 : Nat), .int .u64 (f 3 : Nat), .int .u64 (f 4 : Nat), .int .u64 (f 5 : Nat), .int .u64 (f 6 : Nat), .int .u64 (f 7 : Nat), .int .u64 (f 8 : Nat), .int .u64 (f 9 : Nat), .int .u64 (f 10 : Nat), .int .u64 (f 11 : Nat), .int .u64 (f 12 : Nat), .int .u64 (f 13 : Nat), .int .u64 (f 14 : Nat), .int .u64 (f 15 : Nat), .int .u64 (f 16 : Nat)]
theorem dArr_at (f : Nat → Nat) {i : Nat} (h : i < 17) : (dArr f)[i]? = some (.int .u64 (f i : Nat)) := by
  have h' : i = 0 ∨ i = 1 ∨ i = 2 ∨ i = 3 ∨ i = 4 ∨ i = 5 ∨ i = 6 ∨ i = 7 ∨ i = 8 ∨ i = 9 ∨ i = 10 ∨ i = 11 ∨ i = 12 ∨ i = 13 ∨ i = 14 ∨ i = 15 ∨ i = 16 := by omega
  rcases h' with rfl | rfl | rfl | rfl | rfl | rfl | rfl | rfl | rfl | rfl | rfl | rfl | rfl | rfl | rfl | rfl | rfl <;> rfl
theorem dArr_set (f : Nat → Nat) {i : Nat} (h : i < 17) (v : Nat) : (dArr f).setIfInBounds i (.int .u64 (v : Nat)) = dArr (upd f i v) := by
  have h' : i = 0 ∨ i = 1 ∨ i = 2 ∨ i = 3 ∨ i = 4 ∨ i = 5 ∨ i = 6 ∨ i = 7 ∨ i = 8 ∨ i = 9 ∨ i = 10 ∨ i = 11 ∨ i = 12 ∨ i = 13 ∨ i = 14 ∨ i = 15 ∨ i = 16 := by omega
  rcases h' with rfl | rfl | rfl | rfl | rfl | rfl | rfl | rfl | rfl | rfl | rfl | rfl | rfl | rfl | rfl | rfl | rfl <;> rfl
theorem dArr_one (f : Nat → Nat) : (dArr f).all (·.oneCell') = true := by kernel_rfl
theorem dArr_congr {f g : Nat → Nat} (h : ∀ i, i < 17 → f i = g i) : dArr f = dArr g := by
  unfold dArr; rw [h 0 (by omega), h 1 (by omega), h 2 (by omega), h 3 (by omega), h 4 (by omega), h 5 (by omega), h 6 (by omega), h 7 (by omega), h 8 (by omega), h 9 (by omega), h 10 (by omega), h 11 (by omega), h 12 (by omega), h 13 (by omega), h 14 (by omega), h 15 (by omega), h 16 (by omega)]
abbrev wArr (f : Nat → Nat) : Array Value := #[.int .u64 (f 0 : Nat), .int .u64 (f 1 : Nat), .int .u64 (f 2 : Nat), .int .u64 (f 3 : Nat), .int .u64 (f 4 : Nat), .int .u64 (f 5 : Nat), .int .u64 (f 6 : Nat), .int .u64 (f 7 : Nat), .int .u64 (f 8 : Nat), .int .u64 (f 9 : Nat), .int .u64 (f 10 : Nat), .int .u64 (f 11 : Nat), .int .u64 (f 12 : Nat), .int .u64 (f 13 : Nat), .int .u64 (f 14 : Nat), .int .u64 (f 15 : Nat), .int .u64 (f 16 : Nat), .int .u64 (f 17 : Nat), .int .u64 (f 18 : Nat), .int .u64 (f 19 : Nat), .int .u64 (f 20 : Nat), .int .u64 (f 21 : Nat), .int .u64 (f 22 : Nat), .int .u64 (f 23 : Nat), .int .u64 (f 24 : Nat), .int .u64 (f 25 : Nat), .int .u64 (f 26 : Nat), .int .u64 (f 27 : Nat), .int .u64 (f 28 : Nat), .int .u64 (f 29 : Nat), .int .u64 (f 30 : Nat), .int .u64 (f 31 : Nat)]
theorem wArr_at (f : Nat → Nat) {i : Nat} (h : i < 32) : (wArr f)[i]? = some (.int .u64 (f i : Nat)) := by
  have h' : i = 0 ∨ i = 1 ∨ i = 2 ∨ i = 3 ∨ i = 4 ∨ i = 5 ∨ i = 6 ∨ i = 7 ∨ i = 8 ∨ i = 9 ∨ i = 10 ∨ i = 11 ∨ i = 12 ∨ i = 13 ∨ i = 14 ∨ i = 15 ∨ i = 16 ∨ i = 17 ∨ i = 18 ∨ i = 19 ∨ i = 20 ∨ i = 21 ∨ i = 22 ∨ i = 23 ∨ i = 24 ∨ i = 25 ∨ i = 26 ∨ i = 27 ∨ i = 28 ∨ i = 29 ∨ i = 30 ∨ i = 31 := by omega
  rcases h' with rfl | rfl | rfl | rfl | rfl | rfl | rfl | rfl | rfl | rfl | rfl | rfl | rfl | rfl | rfl | rfl | rfl | rfl | rfl | rfl | rfl | rfl | rfl | rfl | rfl | rfl | rfl | rfl | rfl | rfl | rfl | rfl <;> rfl
theorem wArr_set (f : Nat → Nat) {i : Nat} (h : i < 32) (v : Nat) : (wArr f).setIfInBounds i (.int .u64 (v : Nat)) = wArr (upd f i v) := by
  have h' : i = 0 ∨ i = 1 ∨ i = 2 ∨ i = 3 ∨ i = 4 ∨ i = 5 ∨ i = 6 ∨ i = 7 ∨ i = 8 ∨ i = 9 ∨ i = 10 ∨ i = 11 ∨ i = 12 ∨ i = 13 ∨ i = 14 ∨ i = 15 ∨ i = 16 ∨ i = 17 ∨ i = 18 ∨ i = 19 ∨ i = 20 ∨ i = 21 ∨ i = 22 ∨ i = 23 ∨ i = 24 ∨ i = 25 ∨ i = 26 ∨ i = 27 ∨ i = 28 ∨ i = 29 ∨ i = 30 ∨ i = 31 := by omega
  rcases h' with rfl | rfl | rfl | rfl | rfl | rfl | rfl | rfl | rfl | rfl | rfl | rfl | rfl | rfl | rfl | rfl | rfl | rfl | rfl | rfl | rfl | rfl | rfl | rfl | rfl | rfl | rfl | rfl | rfl | rfl | rfl | rfl <;> rfl
theorem wArr_one (f : Nat → Nat) : (wArr f).all (·.oneCell') = true := by kernel_rfl
theorem wArr_congr {f g : Nat → Nat} (h : ∀ i, i < 32 → f i = g i) : wArr f = wArr g := by
  unfold wArr; rw [h 0 (by omega), h 1 (by omega), h 2 (by omega), h 3 (by omega), h 4 (by omega), h 5 (by omega), h 6 (by omega), h 7 (by omega), h 8 (by omega), h 9 (by omega), h 10 (by omega), h 11 (by omega), h 12 (by omega), h 13 (by omega), h 14 (by omega), h 15 (by omega), h 16 (by omega), h 17 (by omega), h 18 (by omega), h 19 (by omega), h 20 (by omega), h 21 (by omega), h 22 (by omega), h 23 (by omega), h 24 (by omega), h 25 (by omega), h 26 (by omega), h 27 (by omega), h 28 (by omega), h 29 (by omega), h 30 (by omega), h 31 (by omega)]

def dg (x i : Nat) : Nat := x / 65536 ^ i % 65536
theorem dg_lt (x i : Nat) : dg x i < 65536 := Nat.mod_lt _ (by omega)
/-- The number of the first n digits. -/
def dNum (f : Nat → Nat) : Nat → Nat
  | 0 => 0
  | n + 1 => dNum f n + f n * 65536 ^ n
theorem dNum0 (f : Nat → Nat) : dNum f 0 = 0 := rfl
theorem dNum_succ (f : Nat → Nat) (n : Nat) : dNum f (n + 1) = dNum f n + f n * 65536 ^ n := rfl
theorem dNum_congr {f g : Nat → Nat} : ∀ n, (∀ i, i < n → f i = g i) → dNum f n = dNum g n
  | 0, _ => rfl
  | n + 1, h => by rw [dNum, dNum, dNum_congr n (fun i hi => h i (by omega)), h n (by omega)]
theorem dNum_lt {f : Nat → Nat} : ∀ n, (∀ i, i < n → f i < 65536) → dNum f n < 65536 ^ n
  | 0, _ => by simp [dNum]
  | n + 1, h => by
    have h1 := dNum_lt n (fun i hi => h i (by omega))
    have h2 := h n (by omega)
    have h3 : f n * 65536 ^ n ≤ 65535 * 65536 ^ n := Nat.mul_le_mul_right _ (by omega)
    rw [dNum, Nat.pow_succ]
    omega
theorem dNum_le {f : Nat → Nat} (B : Nat) : ∀ n, (∀ i, i < n → f i ≤ B) → dNum f n ≤ B * 65536 ^ n
  | 0, _ => by simp [dNum]
  | n + 1, h => by
    have h1 := dNum_le B n (fun i hi => h i (by omega))
    have h2 : f n * 65536 ^ n ≤ B * 65536 ^ n := Nat.mul_le_mul_right _ (h n (by omega))
    rw [dNum, Nat.pow_succ, ← Nat.mul_assoc]
    omega
theorem dNum_dg (x : Nat) : ∀ n, dNum (dg x) n = x % 65536 ^ n
  | 0 => by rw [Nat.pow_zero, Nat.mod_one]; rfl
  | n + 1 => by
    rw [dNum, dNum_dg x n, dg, Nat.pow_succ, Nat.mod_mul, Nat.mul_comm (65536 ^ n)]
theorem dNum_dg_lt {x n : Nat} (h : x < 65536 ^ n) : dNum (dg x) n = x := by rw [dNum_dg, Nat.mod_eq_of_lt h]
theorem dg_dNum {f : Nat → Nat} : ∀ n, (∀ i, i < n → f i < 65536) → ∀ i, i < n → dg (dNum f n) i = f i
  | 0, _, i, hi => by omega
  | n + 1, h, i, hi => by
    have h1 := dNum_lt n (fun i hi => h i (by omega))
    by_cases e : i = n
    · subst e
      rw [dNum, dg, Nat.add_mul_div_right _ _ (Nat.pow_pos (by omega)), Nat.div_eq_of_lt h1, Nat.zero_add, Nat.mod_eq_of_lt (h i (by omega))]
    · rw [← dg_dNum n (fun i hi => h i (by omega)) i (by omega), dNum, dg, dg]
      obtain ⟨d, rfl⟩ : ∃ d, n = i + (d + 1) := ⟨n - i - 1, by omega⟩
      rw [Nat.pow_add, Nat.pow_succ, Nat.mul_left_comm, Nat.add_mul_div_left _ _ (Nat.pow_pos (by omega)), ← Nat.mul_assoc (f _), Nat.add_mul_mod_self_right]
theorem dNum_upd_ge (f : Nat → Nat) {i n : Nat} (v : Nat) (h : n ≤ i) : dNum (upd f i v) n = dNum f n := dNum_congr n (fun j hj => upd_ne f v (by omega))
/-- One digit changed. -/
theorem dNum_upd (f : Nat → Nat) (i v : Nat) : ∀ n, i < n → dNum (upd f i v) n + f i * 65536 ^ i = dNum f n + v * 65536 ^ i
  | 0, h => by omega
  | n + 1, h => by
    by_cases e : i = n
    · subst e
      rw [dNum, dNum, dNum_upd_ge f v (Nat.le_refl _), upd_eq]; omega
    · have := dNum_upd f i v n (by omega)
      rw [dNum, dNum, upd_ne f v (by omega)]; omega
theorem dNum_split (f : Nat → Nat) (a : Nat) : ∀ n, dNum f (a + n) = dNum f a + 65536 ^ a * dNum (fun j => f (a + j)) n
  | 0 => by simp [dNum]
  | n + 1 => by rw [← Nat.add_assoc, dNum, dNum_split f a n, dNum, Nat.mul_add, Nat.pow_add, Nat.add_assoc, Nat.mul_left_comm]
theorem dNum_zero (n : Nat) : dNum (fun _ => 0) n = 0 := by
  have := dNum_le (f := fun _ => 0) 0 n (fun _ _ => Nat.le_refl _); omega

/-! ### least: one pass -/
/-- Ahead of digit i of a pass that began with f. -/
structure Inn (f g : Nat → Nat) (i : Nat) : Prop where
  ii : i ≤ 16
  lo : ∀ j, j < i → g j < 65536
  hi : ∀ j, i < j → g j = f j
  at_ : g i ≤ f i + 274877906944
  num : dNum g 17 = dNum f 17
def innF (g : Nat → Nat) (i : Nat) : Nat → Nat := upd (upd g (i + 1) (g (i + 1) + g i / 65536)) i (g i % 65536)
theorem Inn.start (f : Nat → Nat) : Inn f f 0 := ⟨by omega, by omega, fun _ _ => rfl, by omega, rfl⟩
theorem Inn.step {f g : Nat → Nat} {i : Nat} (h : Inn f g i) (hi : i < 16) (hf : ∀ j, j < 17 → f j < 9007199254740992) : Inn f (innF g i) (i + 1) := by
  have hgi := h.at_
  have hfi := hf i (by omega)
  have hn : g (i + 1) = f (i + 1) := h.hi _ (by omega)
  refine ⟨by omega, fun j hj => ?_, fun j hj => ?_, ?_, ?_⟩
  · unfold innF
    by_cases e : j = i
    · subst e; rw [upd_eq]; omega
    · rw [upd_ne _ _ e, upd_ne _ _ (by omega)]; exact h.lo j (by omega)
  · unfold innF
    rw [upd_ne _ _ (by omega), upd_ne _ _ (by omega)]; exact h.hi j (by omega)
  · unfold innF
    rw [upd_ne _ _ (by omega), upd_eq, hn]; omega
  · rw [← h.num]
    unfold innF
    have e1 := dNum_upd (upd g (i + 1) (g (i + 1) + g i / 65536)) i (g i % 65536) 17 (by omega)
    have e2 := dNum_upd g (i + 1) (g (i + 1) + g i / 65536) 17 (by omega)
    rw [upd_ne _ _ (by omega)] at e1
    rw [Nat.pow_succ] at e2
    rw [Nat.add_mul] at e2
    have e3 : g i * 65536 ^ i = g i % 65536 * 65536 ^ i + g i / 65536 * (65536 ^ i * 65536) := by
      have := Nat.div_add_mod (g i) 65536
      rw [Nat.mul_comm (65536 ^ i), ← Nat.mul_assoc, ← Nat.add_mul, Nat.mul_comm _ 65536]
      congr 1; omega
    omega
/-- Behind k passes. -/
structure Pss (n : Nat) (f : Nat → Nat) (k : Nat) : Prop where
  kk : k ≤ 4
  num : dNum f 17 % pr = n % pr
  b0 : ∀ j, j < 17 → f j < 70368744177664 + k
  b1 : 0 < k → ∀ j, j < 16 → f j < 65536
  b2 : 1 < k → f 16 = 0 ∨ (f 16 = 1 ∧ dNum f 16 < 9007199254740992)
  b3 : 2 < k → f 16 = 0
def foldF (f : Nat → Nat) : Nat → Nat := upd (upd f 0 (f 0 + 38 * f 16)) 16 0
theorem foldF_num (f : Nat → Nat) : dNum (foldF f) 17 = dNum f 16 + 38 * f 16 := by
  unfold foldF
  have e1 := dNum_upd (upd f 0 (f 0 + 38 * f 16)) 16 0 17 (by omega)
  have e2 := dNum_upd f 0 (f 0 + 38 * f 16) 17 (by omega)
  rw [upd_ne _ _ (by omega)] at e1
  have e3 : dNum f 17 = dNum f 16 + f 16 * 65536 ^ 16 := rfl
  rw [Nat.pow_zero] at e2
  omega
theorem foldF_lt {n k : Nat} {f : Nat → Nat} (h : Pss n f k) : ∀ j, j < 17 → foldF f j < 9007199254740992 := by
  intro j hj
  have h16 := h.b0 16 (by omega)
  have hk := h.kk
  unfold foldF
  by_cases e : j = 16
  · subst e; rw [upd_eq]; omega
  · rw [upd_ne _ _ e]
    have := h.b0 0 (by omega)
    by_cases e0 : j = 0
    · subst e0; rw [upd_eq]; omega
    · rw [upd_ne _ _ e0]; have := h.b0 j hj; omega
theorem two256 : (65536 : Nat) ^ 16 = 2 * pr + 38 := by decide +kernel
theorem fold_mod (a c : Nat) : (a + 38 * c) % pr = (a + c * 65536 ^ 16) % pr := by
  have : a + c * 65536 ^ 16 = a + 38 * c + pr * (2 * c) := by
    rw [two256, Nat.mul_add, Nat.mul_comm c 38, Nat.mul_left_comm c, Nat.mul_left_comm pr, Nat.mul_comm c pr]; omega
  rw [this, Nat.add_mul_mod_self_left]
theorem Pss.next {n k : Nat} {f g : Nat → Nat} (h : Pss n f k) (hk : k < 4) (hg : Inn (foldF f) g 16) : Pss n g (k + 1) := by
  have e1 := foldF_num f
  rw [← hg.num] at e1
  have e2 : dNum g 17 = dNum g 16 + g 16 * 65536 ^ 16 := rfl
  have e3 : dNum f 17 = dNum f 16 + f 16 * 65536 ^ 16 := rfl
  have l1 := dNum_lt 16 hg.lo
  have l2 := dNum_le (70368744177664 + k) 16 (fun i hi => Nat.le_of_lt (h.b0 i (by omega)))
  have l3 := h.b0 16 (by omega)
  have l4 : 0 < k → dNum f 16 < 65536 ^ 16 := fun h0 => dNum_lt 16 (h.b1 h0)
  have hn := h.num
  have hb2 := h.b2
  have hm := fold_mod (dNum f 16) (f 16)
  have hlo := hg.lo
  clear h hg
  have e4 : dNum g 17 % pr = n % pr := by rw [e1, hm, ← e3, hn]
  rw [show (65536 : Nat) ^ 16 = 115792089237316195423570985008687907853269984665640564039457584007913129639936 from rfl] at *
  refine ⟨by omega, e4, ?_, fun _ => hlo, ?_, ?_⟩
  · intro j hj
    by_cases e : j = 16
    · subst e; omega
    · have := hlo j (by omega); omega
  · intro h1; have := l4 (by omega); omega
  · intro h1; have := l4 (by omega); have := hb2 (by omega); omega
theorem Pss.done {n : Nat} {f : Nat → Nat} (h : Pss n f 4) : dArr f = dArr (dg (dNum f 16)) ∧ dNum f 16 < 65536 ^ 16 ∧ dNum f 16 % pr = n % pr := by
  have e3 : dNum f 17 = dNum f 16 + f 16 * 65536 ^ 16 := rfl
  have l1 := dNum_lt 16 (h.b1 (by omega))
  have hz := h.b3 (by omega)
  rw [hz, Nat.zero_mul, Nat.add_zero] at e3
  refine ⟨dArr_congr fun i hi => ?_, l1, by rw [← e3]; exact h.num⟩
  by_cases e : i = 16
  · subst e
    rw [hz, dg, Nat.div_eq_of_lt l1, Nat.zero_mod]
  · exact (dg_dNum 16 (h.b1 (by omega)) i (by omega)).symm

/-! ### less -/
def prm (i : Nat) : Nat := if i = 0 then 65517 else if i = 15 then 32767 else if i = 16 then 0 else 65535
theorem prm_num : dNum prm 17 = pr ∧ dNum prm 16 = pr := by decide +kernel
theorem prm_lt (i : Nat) : prm i < 65536 := by
  unfold prm
  by_cases h0 : i = 0
  · rw [if_pos h0]; omega
  · rw [if_neg h0]
    by_cases h1 : i = 15
    · rw [if_pos h1]; omega
    · rw [if_neg h1]
      by_cases h2 : i = 16
      · rw [if_pos h2]; omega
      · rw [if_neg h2]; omega
/-- Ahead of digit i; b is the borrow. -/
structure Les (x : Nat) (g : Nat → Nat) (i b : Nat) : Prop where
  ii : i ≤ 17
  bb : b ≤ 1
  lo : ∀ j, j < 17 → g j < 65536
  num : dNum g i + dNum prm i = dNum (dg x) i + b * 65536 ^ i
theorem Les.start (x : Nat) : Les x (dg x) 0 0 := ⟨by omega, by omega, fun j _ => dg_lt x j, by simp [dNum]⟩
theorem Les.step {x i b : Nat} {g : Nat → Nat} (h : Les x g i b) (hi : i < 17) : Les x (upd g i ((dg x i + 65536 - prm i - b) % 65536)) (i + 1) (1 - (dg x i + 65536 - prm i - b) / 65536) := by
  have hb := h.bb
  have hx := dg_lt x i
  have hp := prm_lt i
  refine ⟨by omega, by omega, fun j hj => ?_, ?_⟩
  · by_cases e : j = i
    · subst e; rw [upd_eq]; omega
    · rw [upd_ne _ _ e]; exact h.lo j hj
  · have hn := h.num
    rw [dNum, dNum, dNum, dNum_upd_ge _ _ (Nat.le_refl _), upd_eq, Nat.pow_succ]
    have e : ((dg x i + 65536 - prm i - b) % 65536 + prm i + b) * 65536 ^ i = (dg x i + (1 - (dg x i + 65536 - prm i - b) / 65536) * 65536) * 65536 ^ i := by congr 1; omega
    rw [Nat.add_mul, Nat.add_mul, Nat.add_mul, Nat.mul_assoc, Nat.mul_comm 65536] at e
    omega
/-- p taken away once, if that may be. -/
def lessN (x : Nat) : Nat := if pr ≤ x then x - pr else x
theorem Les.done {x b : Nat} {g : Nat → Nat} (h : Les x g 17 b) (hx : x < 65536 ^ 16) : (b = 1 → dArr (dg x) = dArr (dg (lessN x))) ∧ (b = 0 → dArr g = dArr (dg (lessN x))) := by
  have hn := h.num
  rw [prm_num.1, dNum_dg_lt (show x < 65536 ^ 17 by omega)] at hn
  have hl := dNum_lt 17 h.lo
  unfold lessN
  refine ⟨fun e => ?_, fun e => ?_⟩
  · subst e; rw [if_neg (by omega)]
  · subst e; rw [if_pos (by omega)]
    have : x - pr = dNum g 17 := by omega
    rw [this]
    exact dArr_congr fun i hi => (dg_dNum 17 h.lo i hi).symm
theorem lessN_ge {x : Nat} (h : pr ≤ x) : lessN x = x - pr := by unfold lessN; rw [if_pos h]
theorem lessN_of {x : Nat} (h : x < pr) : lessN x = x := by unfold lessN; rw [if_neg (Nat.not_le.2 h)]
theorem less_three {x : Nat} (h : x < 65536 ^ 16) : lessN (lessN (lessN x)) = x % pr := by
  have hp : pr = 57896044618658097711785492504343953926634992332820282019728792003956564819949 := rfl
  rw [two256] at h
  rcases Nat.lt_or_ge x pr with h1 | h1
  · rw [lessN_of h1, lessN_of h1, lessN_of h1, Nat.mod_eq_of_lt h1]
  · rcases Nat.lt_or_ge x (2 * pr) with h2 | h2
    · have h3 : x - pr < pr := by omega
      rw [lessN_ge h1, lessN_of h3, lessN_of h3, Nat.mod_eq_sub_mod h1, Nat.mod_eq_of_lt h3]
    · have h3 : pr ≤ x - pr := by omega
      have h4 : x - pr - pr < pr := by omega
      rw [lessN_ge h1, lessN_ge h3, lessN_of h4, Nat.mod_eq_sub_mod h1, Nat.mod_eq_sub_mod h3, Nat.mod_eq_of_lt h4]
theorem lessN_lt {x : Nat} (h : x < 65536 ^ 16) : lessN x < 65536 ^ 16 := by unfold lessN; split <;> omega

/-! ### Sub -/
/-- Ahead of digit i: the borrow is m - 1. -/
structure Sbs (x y : Nat) (g : Nat → Nat) (i m : Nat) : Prop where
  ii : i ≤ 16
  mm : m ≤ 2
  lo : ∀ j, j < 17 → g j < 65536
  z : g 16 = 0
  num : dNum g i + dNum (dg y) i + 65536 ^ i = dNum (dg x) i + dNum prm i + m * 65536 ^ i
theorem Sbs.start (x y : Nat) : Sbs x y (fun _ => 0) 0 1 := ⟨by omega, by omega, fun _ _ => by omega, rfl, by simp [dNum]⟩
theorem Sbs.step {x y i m : Nat} {g : Nat → Nat} (h : Sbs x y g i m) (hi : i < 16) : Sbs x y (upd g i ((dg x i + prm i + 131073 - dg y i - m) % 65536)) (i + 1) (3 - (dg x i + prm i + 131073 - dg y i - m) / 65536) := by
  have hm := h.mm
  have hx := dg_lt x i
  have hy := dg_lt y i
  have hp := prm_lt i
  refine ⟨by omega, by omega, fun j hj => ?_, by rw [upd_ne _ _ (by omega)]; exact h.z, ?_⟩
  · by_cases e : j = i
    · subst e; rw [upd_eq]; omega
    · rw [upd_ne _ _ e]; exact h.lo j hj
  · have hn := h.num
    rw [dNum, dNum, dNum, dNum, dNum_upd_ge _ _ (Nat.le_refl _), upd_eq, Nat.pow_succ]
    have e : (m + (dg x i + prm i + 131073 - dg y i - m) % 65536 + dg y i + 65536) * 65536 ^ i = (1 + dg x i + prm i + (3 - (dg x i + prm i + 131073 - dg y i - m) / 65536) * 65536) * 65536 ^ i := by congr 1; omega
    generalize (dg x i + prm i + 131073 - dg y i - m) % 65536 = r at *
    generalize 3 - (dg x i + prm i + 131073 - dg y i - m) / 65536 = q at *
    simp only [Nat.add_mul, Nat.mul_assoc, Nat.one_mul] at e
    rw [Nat.mul_comm (65536 ^ i) 65536]
    omega
theorem Sbs.done {x y m : Nat} {g : Nat → Nat} (h : Sbs x y g 16 m) (hx : x < pr) (hy : y < pr) : dNum g 17 = x + (pr - y) := by
  have hn := h.num
  have hp := two256
  have hl := dNum_lt 16 (fun i hi => h.lo i (by omega))
  rw [dNum_dg_lt (by omega), dNum_dg_lt (by omega), prm_num.2] at hn
  rw [dNum, h.z, Nat.zero_mul, Nat.add_zero]
  have hm := h.mm
  have hm' : m = 0 ∨ m = 1 ∨ m = 2 := by omega
  rcases hm' with rfl | rfl | rfl <;> omega

/-! ### Mul -/
structure Mls (x y : Nat) (g : Nat → Nat) (i j : Nat) : Prop where
  ii : i ≤ 16
  jj : j ≤ 16
  lo : ∀ k, k < 32 → g k ≤ (i + 1) * 4294836225
  hi : ∀ k, k < 32 → i + j ≤ k → g k ≤ i * 4294836225
  num : dNum g 32 = dNum (dg x) i * y + dg x i * 65536 ^ i * dNum (dg y) j
theorem Mls.start (x y : Nat) : Mls x y (fun _ => 0) 0 0 := ⟨by omega, by omega, fun _ _ => Nat.zero_le _, fun _ _ _ => Nat.zero_le _, by rw [dNum_zero, dNum0, dNum0, Nat.zero_mul, Nat.mul_zero]⟩
theorem Mls.step {x y i j : Nat} {g : Nat → Nat} (h : Mls x y g i j) (hi : i < 16) (hj : j < 16) : Mls x y (upd g (i + j) (g (i + j) + dg x i * dg y j)) i (j + 1) := by
  have hp : dg x i * dg y j ≤ 65535 * 65535 := Nat.mul_le_mul (by have := dg_lt x i; omega) (by have := dg_lt y j; omega)
  have h1 := h.hi (i + j) (by omega) (Nat.le_refl _)
  refine ⟨by omega, by omega, fun k hk => ?_, fun k hk hk2 => ?_, ?_⟩
  · by_cases e : k = i + j
    · subst e; rw [upd_eq]; omega
    · rw [upd_ne _ _ e]; exact h.lo k hk
  · rw [upd_ne _ _ (by omega)]; exact h.hi k hk (by omega)
  · have e1 := dNum_upd g (i + j) (g (i + j) + dg x i * dg y j) 32 (by omega)
    rw [h.num, Nat.add_mul (g (i + j))] at e1
    have e2 : dg x i * 65536 ^ i * dNum (dg y) (j + 1) = dg x i * 65536 ^ i * dNum (dg y) j + dg x i * dg y j * 65536 ^ (i + j) := by
      rw [dNum, Nat.mul_add, Nat.pow_add]
      congr 1
      simp only [Nat.mul_comm, Nat.mul_left_comm, Nat.mul_assoc]
    omega
theorem Mls.turn {x y i : Nat} {g : Nat → Nat} (h : Mls x y g i 16) (hi : i < 16) (hy : y < pr) : Mls x y g (i + 1) 0 := by
  have hp := two256
  refine ⟨by omega, by omega, fun k hk => Nat.le_trans (h.lo k hk) (Nat.mul_le_mul_right _ (by omega)), fun k hk hk2 => h.lo k hk, ?_⟩
  rw [h.num, dNum_dg_lt (show y < 65536 ^ 16 by omega), dNum0, Nat.mul_zero, Nat.add_zero, dNum_succ, Nat.add_mul]
theorem Mls.done {x y : Nat} {g : Nat → Nat} (h : Mls x y g 16 0) (hx : x < pr) : dNum g 32 = x * y ∧ ∀ k, k < 32 → g k ≤ 73012215825 := by
  have hp := two256
  refine ⟨?_, fun k hk => Nat.le_trans (h.lo k hk) (by decide)⟩
  rw [h.num, dNum_dg_lt (show x < 65536 ^ 16 by omega), dNum0, Nat.mul_zero, Nat.add_zero]
/-- The first m digits of F; zeros behind them. -/
def bld (F : Nat → Nat) (m i : Nat) : Nat := if i < m then F i else 0
theorem bld_zero (F : Nat → Nat) : bld F 0 = fun _ => 0 := by funext i; unfold bld; rw [if_neg (by omega)]
theorem bld_upd (F : Nat → Nat) (m : Nat) : upd (bld F m) m (F m) = bld F (m + 1) := by
  funext i
  unfold upd bld
  by_cases e : i = m
  · subst e; rw [if_pos rfl, if_pos (by omega)]
  · rw [if_neg e]
    by_cases h : i < m
    · rw [if_pos h, if_pos (by omega)]
    · rw [if_neg h, if_neg (by omega)]
theorem bld_num (F : Nat → Nat) (m : Nat) : ∀ n, m ≤ n → dNum (bld F m) n = dNum F m
  | 0, h => by obtain rfl : m = 0 := by omega
               rfl
  | n + 1, h => by
    by_cases e : m = n + 1
    · subst e; exact dNum_congr _ (fun i hi => by unfold bld; rw [if_pos hi])
    · rw [dNum, bld_num F m n (by omega)]; unfold bld; rw [if_neg (by omega)]; omega
theorem dNum_mul (g : Nat → Nat) (c : Nat) : ∀ n, dNum (fun i => c * g i) n = c * dNum g n
  | 0 => rfl
  | n + 1 => by rw [dNum, dNum, dNum_mul g c n, Nat.mul_add, Nat.mul_assoc]
theorem dNum_add (g h : Nat → Nat) : ∀ n, dNum (fun i => g i + h i) n = dNum g n + dNum h n
  | 0 => rfl
  | n + 1 => by rw [dNum, dNum, dNum, dNum_add g h n, Nat.add_mul]; omega
/-- What Mul brings below p. -/
def mulD (w : Nat → Nat) (i : Nat) : Nat := w i + 38 * w (i + 16)
theorem mulD_num (w : Nat → Nat) : dNum (bld (mulD w) 16) 17 % pr = dNum w 32 % pr := by
  have e1 : dNum (bld (mulD w) 16) 17 = dNum w 16 + 38 * dNum (fun j => w (16 + j)) 16 := by
    rw [bld_num _ _ _ (by omega), ← dNum_mul, ← dNum_add]
    exact dNum_congr _ (fun i hi => by unfold mulD; rw [Nat.add_comm 16 i])
  rw [e1, fold_mod, show (32 : Nat) = 16 + 16 from rfl, dNum_split, Nat.mul_comm (65536 ^ 16)]

/-! ### Key, Of -/
theorem byte_even (x i : Nat) : byteOf x (2 * i) = dg x i % 256 := by
  unfold byteOf dg
  rw [Nat.pow_mul, show (256 : Nat) ^ 2 = 65536 from rfl]
  omega
theorem byte_odd (x i : Nat) : byteOf x (2 * i + 1) = dg x i / 256 := by
  unfold byteOf dg
  rw [Nat.pow_succ, Nat.pow_mul, show (256 : Nat) ^ 2 = 65536 from rfl, ← Nat.div_div_eq_div_mul]
  omega
theorem kNum_pair (f : Nat → Nat) : ∀ n, dNum (fun i => f (2 * i) + 256 * f (2 * i + 1)) n = kNum f (2 * n)
  | 0 => rfl
  | n + 1 => by
    rw [dNum, kNum_pair f n, show 2 * (n + 1) = 2 * n + 1 + 1 by omega, kNum, kNum, Nat.pow_succ, Nat.pow_mul, show (256 : Nat) ^ 2 = 65536 from rfl, Nat.add_mul]
    have : 256 * f (2 * n + 1) * 65536 ^ n = f (2 * n + 1) * (65536 ^ n * 256) := by
      simp only [Nat.mul_comm, Nat.mul_left_comm, Nat.mul_assoc]
    omega

end Go.Proofs.YtdmioipdmdmkhaaDoor
