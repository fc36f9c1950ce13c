/- Key of package field: the bytes of the number. -/
import Derived.Test.YtdmioipdmdmkhaaDoorA5
import Derived.Test.YtdmioipdmdmkhaaDoorA9
set_option linter.unusedVariables false
set_option linter.unusedSimpArgs false
namespace Go.Proofs.YtdmioipdmdmkhaaDoor
open Go.RowKit

abbrev kArr (f : Nat → Nat) : Array Value := #[.int .u8 (f 0 : Nat), .int .u8 (f 1 : Nat), .int .u8 (f 2 : Nat), .int .u8 (f 3 : Nat), .int .u8 (f 4 : Nat), .int .u8 (f 5 : Nat), .int .u8 (f 6 : Nat), .int .u8 (f 7 : Nat), .int .u8 (f 8 : Nat), .int .u8 (f 9 : Nat), .int .u8 (f 10 : Nat), .int .u8 (f 11 : Nat), .int .u8 (f 12 : Nat), .int .u8 (f 13 : Nat), .int .u8 (f 14 : Nat), .int .u8 (f 15 : Nat), .int .u8 (f 16 : Nat), .int .u8 (f 17 : Nat), .int .u8 (f 18 : Nat), .int .u8 (f 19 : Nat), .int .u8 (f 20 : Nat), .int .u8 (f 21 : Nat), .int .u8 (f 22 : Nat), .int .u8 (f 23 : Nat), .int .u8 (f 24 : Nat), .int .u8 (f 25 : Nat), .int .u8 (f 26 : Nat), .int .u8 (f 27 : Nat), .int .u8 (f 28 : Nat), .int .u8 (f 29 : Nat), .int .u8 (f 30 : Nat), .int .u8 (f 31 : Nat)]
def byteOf (x b : Nat) : Nat := x / 256 ^ b % 256
def keyOf (x : Nat) : Value := .agg (kArr (byteOf x))
theorem kArr_congr {f g : Nat → Nat} (h : ∀ b, b < 32 → f b = g b) : kArr f = kArr g := by
  unfold kArr
  rw [h 0 (by omega), h 1 (by omega), h 2 (by omega), h 3 (by omega), h 4 (by omega), h 5 (by omega), h 6 (by omega), h 7 (by omega), h 8 (by omega), h 9 (by omega), h 10 (by omega), h 11 (by omega), h 12 (by omega), h 13 (by omega), h 14 (by omega), h 15 (by omega), h 16 (by omega), h 17 (by omega), h 18 (by omega), h 19 (by omega), h 20 (by omega), h 21 (by omega), h 22 (by omega), h 23 (by omega), h 24 (by omega), h 25 (by omega), h 26 (by omega), h 27 (by omega), h 28 (by omega), h 29 (by omega), h 30 (by omega), h 31 (by omega)]
/-- The first m bytes of Y, the others of X. -/
def mix (X Y m b : Nat) : Nat := if b < m then byteOf Y b else byteOf X b
theorem mix_lt {X Y m b : Nat} (h : b < m) : mix X Y m b = byteOf Y b := by unfold mix; rw [if_pos h]
theorem mix_ge {X Y m b : Nat} (h : m ≤ b) : mix X Y m b = byteOf X b := by unfold mix; rw [if_neg (by omega)]
theorem kArr_set {X Y m : Nat} {v : Nat} (hm : m < 32) (hv : v = byteOf Y m) : (kArr (mix X Y m)).setIfInBounds m (.int .u8 v) = kArr (mix X Y (m + 1)) := by
  subst hv
  have e : ∀ b, b ≠ m → mix X Y m b = mix X Y (m + 1) b := by
    intro b hb
    unfold mix
    by_cases h : b < m
    · rw [if_pos h, if_pos (by omega)]
    · rw [if_neg h, if_neg (by omega)]
  have e2 : mix X Y (m + 1) m = byteOf Y m := mix_lt (by omega)
  have hm' : m = 0 ∨ m = 1 ∨ m = 2 ∨ m = 3 ∨ m = 4 ∨ m = 5 ∨ m = 6 ∨ m = 7 ∨ m = 8 ∨ m = 9 ∨ m = 10 ∨ m = 11 ∨ m = 12 ∨ m = 13 ∨ m = 14 ∨ m = 15 ∨ m = 16 ∨ m = 17 ∨ m = 18 ∨ m = 19 ∨ m = 20 ∨ m = 21 ∨ m = 22 ∨ m = 23 ∨ m = 24 ∨ m = 25 ∨ m = 26 ∨ m = 27 ∨ m = 28 ∨ m = 29 ∨ m = 30 ∨ m = 31 := by omega
  unfold kArr
  rcases hm' with rfl | rfl | rfl | rfl | rfl | rfl | rfl | rfl | rfl | rfl | rfl | rfl | rfl | rfl | rfl | rfl | rfl | rfl | rfl | rfl | rfl | rfl | rfl | rfl | rfl | rfl | rfl | rfl | rfl | rfl | rfl | rfl
  · rw [e 1 (by omega), e 2 (by omega), e 3 (by omega), e 4 (by omega), e 5 (by omega), e 6 (by omega), e 7 (by omega), e 8 (by omega), e 9 (by omega), e 10 (by omega), e 11 (by omega), e 12 (by omega), e 13 (by omega), e 14 (by omega), e 15 (by omega), e 16 (by omega), e 17 (by omega), e 18 (by omega), e 19 (by omega), e 20 (by omega), e 21 (by omega), e 22 (by omega), e 23 (by omega), e 24 (by omega), e 25 (by omega), e 26 (by omega), e 27 (by omega), e 28 (by omega), e 29 (by omega), e 30 (by omega), e 31 (by omega), ← e2]; rfl
  · rw [e 0 (by omega), e 2 (by omega), e 3 (by omega), e 4 (by omega), e 5 (by omega), e 6 (by omega), e 7 (by omega), e 8 (by omega), e 9 (by omega), e 10 (by omega), e 11 (by omega), e 12 (by omega), e 13 (by omega), e 14 (by omega), e 15 (by omega), e 16 (by omega), e 17 (by omega), e 18 (by omega), e 19 (by omega), e 20 (by omega), e 21 (by omega), e 22 (by omega), e 23 (by omega), e 24 (by omega), e 25 (by omega), e 26 (by omega), e 27 (by omega), e 28 (by omega), e 29 (by omega), e 30 (by omega), e 31 (by omega), ← e2]; rfl
  · rw [e 0 (by omega), e 1 (by omega), e 3 (by omega), e 4 (by omega), e 5 (by omega), e 6 (by omega), e 7 (by omega), e 8 (by omega), e 9 (by omega), e 10 (by omega), e 11 (by omega), e 12 (by omega), e 13 (by omega), e 14 (by omega), e 15 (by omega), e 16 (by omega), e 17 (by omega), e 18 (by omega), e 19 (by omega), e 20 (by omega), e 21 (by omega), e 22 (by omega), e 23 (by omega), e 24 (by omega), e 25 (by omega), e 26 (by omega), e 27 (by omega), e 28 (by omega), e 29 (by omega), e 30 (by omega), e 31 (by omega), ← e2]; rfl
  · rw [e 0 (by omega), e 1 (by omega), e 2 (by omega), e 4 (by omega), e 5 (by omega), e 6 (by omega), e 7 (by omega), e 8 (by omega), e 9 (by omega), e 10 (by omega), e 11 (by omega), e 12 (by omega), e 13 (by omega), e 14 (by omega), e 15 (by omega), e 16 (by omega), e 17 (by omega), e 18 (by omega), e 19 (by omega), e 20 (by omega), e 21 (by omega), e 22 (by omega), e 23 (by omega), e 24 (by omega), e 25 (by omega), e 26 (by omega), e 27 (by omega), e 28 (by omega), e 29 (by omega), e 30 (by omega), e 31 (by omega), ← e2]; rfl
  · rw [e 0 (by omega), e 1 (by omega), e 2 (by omega), e 3 (by omega), e 5 (by omega), e 6 (by omega), e 7 (by omega), e 8 (by omega), e 9 (by omega), e 10 (by omega), e 11 (by omega), e 12 (by omega), e 13 (by omega), e 14 (by omega), e 15 (by omega), e 16 (by omega), e 17 (by omega), e 18 (by omega), e 19 (by omega), e 20 (by omega), e 21 (by omega), e 22 (by omega), e 23 (by omega), e 24 (by omega), e 25 (by omega), e 26 (by omega), e 27 (by omega), e 28 (by omega), e 29 (by omega), e 30 (by omega), e 31 (by omega), ← e2]; rfl
  · rw [e 0 (by omega), e 1 (by omega), e 2 (by omega), e 3 (by omega), e 4 (by omega), e 6 (by omega), e 7 (by omega), e 8 (by omega), e 9 (by omega), e 10 (by omega), e 11 (by omega), e 12 (by omega), e 13 (by omega), e 14 (by omega), e 15 (by omega), e 16 (by omega), e 17 (by omega), e 18 (by omega), e 19 (by omega), e 20 (by omega), e 21 (by omega), e 22 (by omega), e 23 (by omega), e 24 (by omega), e 25 (by omega), e 26 (by omega), e 27 (by omega), e 28 (by omega), e 29 (by omega), e 30 (by omega), e 31 (by omega), ← e2]; rfl
  · rw [e 0 (by omega), e 1 (by omega), e 2 (by omega), e 3 (by omega), e 4 (by omega), e 5 (by omega), e 7 (by omega), e 8 (by omega), e 9 (by omega), e 10 (by omega), e 11 (by omega), e 12 (by omega), e 13 (by omega), e 14 (by omega), e 15 (by omega), e 16 (by omega), e 17 (by omega), e 18 (by omega), e 19 (by omega), e 20 (by omega), e 21 (by omega), e 22 (by omega), e 23 (by omega), e 24 (by omega), e 25 (by omega), e 26 (by omega), e 27 (by omega), e 28 (by omega), e 29 (by omega), e 30 (by omega), e 31 (by omega), ← e2]; rfl
  · rw [e 0 (by omega), e 1 (by omega), e 2 (by omega), e 3 (by omega), e 4 (by omega), e 5 (by omega), e 6 (by omega), e 8 (by omega), e 9 (by omega), e 10 (by omega), e 11 (by omega), e 12 (by omega), e 13 (by omega), e 14 (by omega), e 15 (by omega), e 16 (by omega), e 17 (by omega), e 18 (by omega), e 19 (by omega), e 20 (by omega), e 21 (by omega), e 22 (by omega), e 23 (by omega), e 24 (by omega), e 25 (by omega), e 26 (by omega), e 27 (by omega), e 28 (by omega), e 29 (by omega), e 30 (by omega), e 31 (by omega), ← e2]; rfl
  · rw [e 0 (by omega), e 1 (by omega), e 2 (by omega), e 3 (by omega), e 4 (by omega), e 5 (by omega), e 6 (by omega), e 7 (by omega), e 9 (by omega), e 10 (by omega), e 11 (by omega), e 12 (by omega), e 13 (by omega), e 14 (by omega), e 15 (by omega), e 16 (by omega), e 17 (by omega), e 18 (by omega), e 19 (by omega), e 20 (by omega), e 21 (by omega), e 22 (by omega), e 23 (by omega), e 24 (by omega), e 25 (by omega), e 26 (by omega), e 27 (by omega), e 28 (by omega), e 29 (by omega), e 30 (by omega), e 31 (by omega), ← e2]; rfl
  · rw [e 0 (by omega), e 1 (by omega), e 2 (by omega), e 3 (by omega), e 4 (by omega), e 5 (by omega), e 6 (by omega), e 7 (by omega), e 8 (by omega), e 10 (by omega), e 11 (by omega), e 12 (by omega), e 13 (by omega), e 14 (by omega), e 15 (by omega), e 16 (by omega), e 17 (by omega), e 18 (by omega), e 19 (by omega), e 20 (by omega), e 21 (by omega), e 22 (by omega), e 23 (by omega), e 24 (by omega), e 25 (by omega), e 26 (by omega), e 27 (by omega), e 28 (by omega), e 29 (by omega), e 30 (by omega), e 31 (by omega), ← e2]; rfl
  · rw [e 0 (by omega), e 1 (by omega), e 2 (by omega), e 3 (by omega), e 4 (by omega), e 5 (by omega), e 6 (by omega), e 7 (by omega), e 8 (by omega), e 9 (by omega), e 11 (by omega), e 12 (by omega), e 13 (by omega), e 14 (by omega), e 15 (by omega), e 16 (by omega), e 17 (by omega), e 18 (by omega), e 19 (by omega), e 20 (by omega), e 21 (by omega), e 22 (by omega), e 23 (by omega), e 24 (by omega), e 25 (by omega), e 26 (by omega), e 27 (by omega), e 28 (by omega), e 29 (by omega), e 30 (by omega), e 31 (by omega), ← e2]; rfl
  · rw [e 0 (by omega), e 1 (by omega), e 2 (by omega), e 3 (by omega), e 4 (by omega), e 5 (by omega), e 6 (by omega), e 7 (by omega), e 8 (by omega), e 9 (by omega), e 10 (by omega), e 12 (by omega), e 13 (by omega), e 14 (by omega), e 15 (by omega), e 16 (by omega), e 17 (by omega), e 18 (by omega), e 19 (by omega), e 20 (by omega), e 21 (by omega), e 22 (by omega), e 23 (by omega), e 24 (by omega), e 25 (by omega), e 26 (by omega), e 27 (by omega), e 28 (by omega), e 29 (by omega), e 30 (by omega), e 31 (by omega), ← e2]; rfl
  · rw [e 0 (by omega), e 1 (by omega), e 2 (by omega), e 3 (by omega), e 4 (by omega), e 5 (by omega), e 6 (by omega), e 7 (by omega), e 8 (by omega), e 9 (by omega), e 10 (by omega), e 11 (by omega), e 13 (by omega), e 14 (by omega), e 15 (by omega), e 16 (by omega), e 17 (by omega), e 18 (by omega), e 19 (by omega), e 20 (by omega), e 21 (by omega), e 22 (by omega), e 23 (by omega), e 24 (by omega), e 25 (by omega), e 26 (by omega), e 27 (by omega), e 28 (by omega), e 29 (by omega), e 30 (by omega), e 31 (by omega), ← e2]; rfl
  · rw [e 0 (by omega), e 1 (by omega), e 2 (by omega), e 3 (by omega), e 4 (by omega), e 5 (by omega), e 6 (by omega), e 7 (by omega), e 8 (by omega), e 9 (by omega), e 10 (by omega), e 11 (by omega), e 12 (by omega), e 14 (by omega), e 15 (by omega), e 16 (by omega), e 17 (by omega), e 18 (by omega), e 19 (by omega), e 20 (by omega), e 21 (by omega), e 22 (by omega), e 23 (by omega), e 24 (by omega), e 25 (by omega), e 26 (by omega), e 27 (by omega), e 28 (by omega), e 29 (by omega), e 30 (by omega), e 31 (by omega), ← e2]; rfl
  · rw [e 0 (by omega), e 1 (by omega), e 2 (by omega), e 3 (by omega), e 4 (by omega), e 5 (by omega), e 6 (by omega), e 7 (by omega), e 8 (by omega), e 9 (by omega), e 10 (by omega), e 11 (by omega), e 12 (by omega), e 13 (by omega), e 15 (by omega), e 16 (by omega), e 17 (by omega), e 18 (by omega), e 19 (by omega), e 20 (by omega), e 21 (by omega), e 22 (by omega), e 23 (by omega), e 24 (by omega), e 25 (by omega), e 26 (by omega), e 27 (by omega), e 28 (by omega), e 29 (by omega), e 30 (by omega), e 31 (by omega), ← e2]; rfl
  · rw [e 0 (by omega), e 1 (by omega), e 2 (by omega), e 3 (by omega), e 4 (by omega), e 5 (by omega), e 6 (by omega), e 7 (by omega), e 8 (by omega), e 9 (by omega), e 10 (by omega), e 11 (by omega), e 12 (by omega), e 13 (by omega), e 14 (by omega), e 16 (by omega), e 17 (by omega), e 18 (by omega), e 19 (by omega), e 20 (by omega), e 21 (by omega), e 22 (by omega), e 23 (by omega), e 24 (by omega), e 25 (by omega), e 26 (by omega), e 27 (by omega), e 28 (by omega), e 29 (by omega), e 30 (by omega), e 31 (by omega), ← e2]; rfl
  · rw [e 0 (by omega), e 1 (by omega), e 2 (by omega), e 3 (by omega), e 4 (by omega), e 5 (by omega), e 6 (by omega), e 7 (by omega), e 8 (by omega), e 9 (by omega), e 10 (by omega), e 11 (by omega), e 12 (by omega), e 13 (by omega), e 14 (by omega), e 15 (by omega), e 17 (by omega), e 18 (by omega), e 19 (by omega), e 20 (by omega), e 21 (by omega), e 22 (by omega), e 23 (by omega), e 24 (by omega), e 25 (by omega), e 26 (by omega), e 27 (by omega), e 28 (by omega), e 29 (by omega), e 30 (by omega), e 31 (by omega), ← e2]; rfl
  · rw [e 0 (by omega), e 1 (by omega), e 2 (by omega), e 3 (by omega), e 4 (by omega), e 5 (by omega), e 6 (by omega), e 7 (by omega), e 8 (by omega), e 9 (by omega), e 10 (by omega), e 11 (by omega), e 12 (by omega), e 13 (by omega), e 14 (by omega), e 15 (by omega), e 16 (by omega), e 18 (by omega), e 19 (by omega), e 20 (by omega), e 21 (by omega), e 22 (by omega), e 23 (by omega), e 24 (by omega), e 25 (by omega), e 26 (by omega), e 27 (by omega), e 28 (by omega), e 29 (by omega), e 30 (by omega), e 31 (by omega), ← e2]; rfl
  · rw [e 0 (by omega), e 1 (by omega), e 2 (by omega), e 3 (by omega), e 4 (by omega), e 5 (by omega), e 6 (by omega), e 7 (by omega), e 8 (by omega), e 9 (by omega), e 10 (by omega), e 11 (by omega), e 12 (by omega), e 13 (by omega), e 14 (by omega), e 15 (by omega), e 16 (by omega), e 17 (by omega), e 19 (by omega), e 20 (by omega), e 21 (by omega), e 22 (by omega), e 23 (by omega), e 24 (by omega), e 25 (by omega), e 26 (by omega), e 27 (by omega), e 28 (by omega), e 29 (by omega), e 30 (by omega), e 31 (by omega), ← e2]; rfl
  · rw [e 0 (by omega), e 1 (by omega), e 2 (by omega), e 3 (by omega), e 4 (by omega), e 5 (by omega), e 6 (by omega), e 7 (by omega), e 8 (by omega), e 9 (by omega), e 10 (by omega), e 11 (by omega), e 12 (by omega), e 13 (by omega), e 14 (by omega), e 15 (by omega), e 16 (by omega), e 17 (by omega), e 18 (by omega), e 20 (by omega), e 21 (by omega), e 22 (by omega), e 23 (by omega), e 24 (by omega), e 25 (by omega), e 26 (by omega), e 27 (by omega), e 28 (by omega), e 29 (by omega), e 30 (by omega), e 31 (by omega), ← e2]; rfl
  · rw [e 0 (by omega), e 1 (by omega), e 2 (by omega), e 3 (by omega), e 4 (by omega), e 5 (by omega), e 6 (by omega), e 7 (by omega), e 8 (by omega), e 9 (by omega), e 10 (by omega), e 11 (by omega), e 12 (by omega), e 13 (by omega), e 14 (by omega), e 15 (by omega), e 16 (by omega), e 17 (by omega), e 18 (by omega), e 19 (by omega), e 21 (by omega), e 22 (by omega), e 23 (by omega), e 24 (by omega), e 25 (by omega), e 26 (by omega), e 27 (by omega), e 28 (by omega), e 29 (by omega), e 30 (by omega), e 31 (by omega), ← e2]; rfl
  · rw [e 0 (by omega), e 1 (by omega), e 2 (by omega), e 3 (by omega), e 4 (by omega), e 5 (by omega), e 6 (by omega), e 7 (by omega), e 8 (by omega), e 9 (by omega), e 10 (by omega), e 11 (by omega), e 12 (by omega), e 13 (by omega), e 14 (by omega), e 15 (by omega), e 16 (by omega), e 17 (by omega), e 18 (by omega), e 19 (by omega), e 20 (by omega), e 22 (by omega), e 23 (by omega), e 24 (by omega), e 25 (by omega), e 26 (by omega), e 27 (by omega), e 28 (by omega), e 29 (by omega), e 30 (by omega), e 31 (by omega), ← e2]; rfl
  · rw [e 0 (by omega), e 1 (by omega), e 2 (by omega), e 3 (by omega), e 4 (by omega), e 5 (by omega), e 6 (by omega), e 7 (by omega), e 8 (by omega), e 9 (by omega), e 10 (by omega), e 11 (by omega), e 12 (by omega), e 13 (by omega), e 14 (by omega), e 15 (by omega), e 16 (by omega), e 17 (by omega), e 18 (by omega), e 19 (by omega), e 20 (by omega), e 21 (by omega), e 23 (by omega), e 24 (by omega), e 25 (by omega), e 26 (by omega), e 27 (by omega), e 28 (by omega), e 29 (by omega), e 30 (by omega), e 31 (by omega), ← e2]; rfl
  · rw [e 0 (by omega), e 1 (by omega), e 2 (by omega), e 3 (by omega), e 4 (by omega), e 5 (by omega), e 6 (by omega), e 7 (by omega), e 8 (by omega), e 9 (by omega), e 10 (by omega), e 11 (by omega), e 12 (by omega), e 13 (by omega), e 14 (by omega), e 15 (by omega), e 16 (by omega), e 17 (by omega), e 18 (by omega), e 19 (by omega), e 20 (by omega), e 21 (by omega), e 22 (by omega), e 24 (by omega), e 25 (by omega), e 26 (by omega), e 27 (by omega), e 28 (by omega), e 29 (by omega), e 30 (by omega), e 31 (by omega), ← e2]; rfl
  · rw [e 0 (by omega), e 1 (by omega), e 2 (by omega), e 3 (by omega), e 4 (by omega), e 5 (by omega), e 6 (by omega), e 7 (by omega), e 8 (by omega), e 9 (by omega), e 10 (by omega), e 11 (by omega), e 12 (by omega), e 13 (by omega), e 14 (by omega), e 15 (by omega), e 16 (by omega), e 17 (by omega), e 18 (by omega), e 19 (by omega), e 20 (by omega), e 21 (by omega), e 22 (by omega), e 23 (by omega), e 25 (by omega), e 26 (by omega), e 27 (by omega), e 28 (by omega), e 29 (by omega), e 30 (by omega), e 31 (by omega), ← e2]; rfl
  · rw [e 0 (by omega), e 1 (by omega), e 2 (by omega), e 3 (by omega), e 4 (by omega), e 5 (by omega), e 6 (by omega), e 7 (by omega), e 8 (by omega), e 9 (by omega), e 10 (by omega), e 11 (by omega), e 12 (by omega), e 13 (by omega), e 14 (by omega), e 15 (by omega), e 16 (by omega), e 17 (by omega), e 18 (by omega), e 19 (by omega), e 20 (by omega), e 21 (by omega), e 22 (by omega), e 23 (by omega), e 24 (by omega), e 26 (by omega), e 27 (by omega), e 28 (by omega), e 29 (by omega), e 30 (by omega), e 31 (by omega), ← e2]; rfl
  · rw [e 0 (by omega), e 1 (by omega), e 2 (by omega), e 3 (by omega), e 4 (by omega), e 5 (by omega), e 6 (by omega), e 7 (by omega), e 8 (by omega), e 9 (by omega), e 10 (by omega), e 11 (by omega), e 12 (by omega), e 13 (by omega), e 14 (by omega), e 15 (by omega), e 16 (by omega), e 17 (by omega), e 18 (by omega), e 19 (by omega), e 20 (by omega), e 21 (by omega), e 22 (by omega), e 23 (by omega), e 24 (by omega), e 25 (by omega), e 27 (by omega), e 28 (by omega), e 29 (by omega), e 30 (by omega), e 31 (by omega), ← e2]; rfl
  · rw [e 0 (by omega), e 1 (by omega), e 2 (by omega), e 3 (by omega), e 4 (by omega), e 5 (by omega), e 6 (by omega), e 7 (by omega), e 8 (by omega), e 9 (by omega), e 10 (by omega), e 11 (by omega), e 12 (by omega), e 13 (by omega), e 14 (by omega), e 15 (by omega), e 16 (by omega), e 17 (by omega), e 18 (by omega), e 19 (by omega), e 20 (by omega), e 21 (by omega), e 22 (by omega), e 23 (by omega), e 24 (by omega), e 25 (by omega), e 26 (by omega), e 28 (by omega), e 29 (by omega), e 30 (by omega), e 31 (by omega), ← e2]; rfl
  · rw [e 0 (by omega), e 1 (by omega), e 2 (by omega), e 3 (by omega), e 4 (by omega), e 5 (by omega), e 6 (by omega), e 7 (by omega), e 8 (by omega), e 9 (by omega), e 10 (by omega), e 11 (by omega), e 12 (by omega), e 13 (by omega), e 14 (by omega), e 15 (by omega), e 16 (by omega), e 17 (by omega), e 18 (by omega), e 19 (by omega), e 20 (by omega), e 21 (by omega), e 22 (by omega), e 23 (by omega), e 24 (by omega), e 25 (by omega), e 26 (by omega), e 27 (by omega), e 29 (by omega), e 30 (by omega), e 31 (by omega), ← e2]; rfl
  · rw [e 0 (by omega), e 1 (by omega), e 2 (by omega), e 3 (by omega), e 4 (by omega), e 5 (by omega), e 6 (by omega), e 7 (by omega), e 8 (by omega), e 9 (by omega), e 10 (by omega), e 11 (by omega), e 12 (by omega), e 13 (by omega), e 14 (by omega), e 15 (by omega), e 16 (by omega), e 17 (by omega), e 18 (by omega), e 19 (by omega), e 20 (by omega), e 21 (by omega), e 22 (by omega), e 23 (by omega), e 24 (by omega), e 25 (by omega), e 26 (by omega), e 27 (by omega), e 28 (by omega), e 30 (by omega), e 31 (by omega), ← e2]; rfl
  · rw [e 0 (by omega), e 1 (by omega), e 2 (by omega), e 3 (by omega), e 4 (by omega), e 5 (by omega), e 6 (by omega), e 7 (by omega), e 8 (by omega), e 9 (by omega), e 10 (by omega), e 11 (by omega), e 12 (by omega), e 13 (by omega), e 14 (by omega), e 15 (by omega), e 16 (by omega), e 17 (by omega), e 18 (by omega), e 19 (by omega), e 20 (by omega), e 21 (by omega), e 22 (by omega), e 23 (by omega), e 24 (by omega), e 25 (by omega), e 26 (by omega), e 27 (by omega), e 28 (by omega), e 29 (by omega), e 31 (by omega), ← e2]; rfl
  · rw [e 0 (by omega), e 1 (by omega), e 2 (by omega), e 3 (by omega), e 4 (by omega), e 5 (by omega), e 6 (by omega), e 7 (by omega), e 8 (by omega), e 9 (by omega), e 10 (by omega), e 11 (by omega), e 12 (by omega), e 13 (by omega), e 14 (by omega), e 15 (by omega), e 16 (by omega), e 17 (by omega), e 18 (by omega), e 19 (by omega), e 20 (by omega), e 21 (by omega), e 22 (by omega), e 23 (by omega), e 24 (by omega), e 25 (by omega), e 26 (by omega), e 27 (by omega), e 28 (by omega), e 29 (by omega), e 30 (by omega), ← e2]; rfl
theorem or_u8 (a b : Nat) (ha : a < 256) (hb : b < 256) : bits .or .u8 (a : Int) (b : Int) = ((a ||| b : Nat) : Int) := by
  have hx : a ||| b < 2 ^ 8 := Nat.or_lt_two_pow (by omega) (by omega)
  have h1 : (BitVec.ofInt 8 (a : Int)).toNat = a := by
    rw [BitVec.ofInt_natCast, BitVec.toNat_ofNat]; exact Nat.mod_eq_of_lt (by omega)
  have h2 : (BitVec.ofInt 8 (b : Int)).toNat = b := by
    rw [BitVec.ofInt_natCast, BitVec.toNat_ofNat]; exact Nat.mod_eq_of_lt (by omega)
  show IntKind.u8.wrap ((BitVec.ofInt 8 (a : Int) ||| BitVec.ofInt 8 (b : Int)).toNat : Int) = _
  rw [BitVec.toNat_or, h1, h2, u8_of _ (a ||| b) rfl]
  omega
theorem byteOf_lt (x b : Nat) : byteOf x b < 256 := Nat.mod_lt _ (by omega)
theorem byteOf_add_lo {X y a b : Nat} (h : b < a) : byteOf (X + y * 256 ^ a) b = byteOf X b := by
  unfold byteOf
  obtain ⟨d, rfl⟩ : ∃ d, a = b + (d + 1) := ⟨a - b - 1, by omega⟩
  rw [Nat.pow_add, Nat.pow_succ, Nat.mul_comm y, Nat.mul_assoc, Nat.add_mul_div_left _ _ (Nat.pow_pos (by omega)), Nat.mul_comm (256 ^ d), Nat.mul_assoc, Nat.add_mul_mod_self_left]
theorem byteOf_add_hi {X y a j : Nat} : byteOf (X + y * 256 ^ a) (a + j) = byteOf (X / 256 ^ a + y) j := by
  unfold byteOf
  rw [Nat.pow_add, ← Nat.div_div_eq_div_mul, Nat.add_mul_div_right _ _ (Nat.pow_pos (by omega))]
theorem byteOf_hi' {X a j : Nat} : byteOf X (a + j) = byteOf (X / 256 ^ a) j := by
  unfold byteOf
  rw [Nat.pow_add, ← Nat.div_div_eq_div_mul]
theorem byteOf_zero {X b : Nat} (h : X < 256 ^ b) : byteOf X b = 0 := by
  unfold byteOf
  rw [Nat.div_eq_of_lt h]
theorem orb_0_0 (q r : Nat) (hq : q < 1) : byteOf q 0 ||| (r * 1 / 1 % 256) = byteOf (q + r * 1) 0 := by
  unfold byteOf
  rw [Nat.pow_zero, Nat.div_one, Nat.div_one, Nat.div_one]
  have := Nat.two_pow_add_eq_or_of_lt (i := 0) (b := q) (by omega) (r * 1 % 256 / 1)
  rw [show 2 ^ 0 * (r * 1 % 256 / 1) = r * 1 % 256 by omega, Nat.or_comm] at this
  rw [Nat.mod_eq_of_lt (show q < 256 by omega), ← this]
  omega
theorem orb_0_1 (q r : Nat) (hq : q < 1) : byteOf q 1 ||| (r * 1 / 256 % 256) = byteOf (q + r * 1) 1 := by
  rw [byteOf_zero (Nat.lt_of_lt_of_le hq (by decide)), Nat.zero_or]
  unfold byteOf
  rw [show 256 ^ 1 = 256 from rfl, show (q + r * 1) / 256 = r * 1 / 256 by omega]
theorem orb_0_2 (q r : Nat) (hq : q < 1) : byteOf q 2 ||| (r * 1 / 65536 % 256) = byteOf (q + r * 1) 2 := by
  rw [byteOf_zero (Nat.lt_of_lt_of_le hq (by decide)), Nat.zero_or]
  unfold byteOf
  rw [show 256 ^ 2 = 65536 from rfl, show (q + r * 1) / 65536 = r * 1 / 65536 by omega]
theorem orb_0_3 (q r : Nat) (hq : q < 1) : byteOf q 3 ||| (r * 1 / 16777216 % 256) = byteOf (q + r * 1) 3 := by
  rw [byteOf_zero (Nat.lt_of_lt_of_le hq (by decide)), Nat.zero_or]
  unfold byteOf
  rw [show 256 ^ 3 = 16777216 from rfl, show (q + r * 1) / 16777216 = r * 1 / 16777216 by omega]
theorem orb_0_4 (q r : Nat) (hq : q < 1) : byteOf q 4 ||| (r * 1 / 4294967296 % 256) = byteOf (q + r * 1) 4 := by
  rw [byteOf_zero (Nat.lt_of_lt_of_le hq (by decide)), Nat.zero_or]
  unfold byteOf
  rw [show 256 ^ 4 = 4294967296 from rfl, show (q + r * 1) / 4294967296 = r * 1 / 4294967296 by omega]
theorem orb_0_5 (q r : Nat) (hq : q < 1) : byteOf q 5 ||| (r * 1 / 1099511627776 % 256) = byteOf (q + r * 1) 5 := by
  rw [byteOf_zero (Nat.lt_of_lt_of_le hq (by decide)), Nat.zero_or]
  unfold byteOf
  rw [show 256 ^ 5 = 1099511627776 from rfl, show (q + r * 1) / 1099511627776 = r * 1 / 1099511627776 by omega]
theorem orb_0_6 (q r : Nat) (hq : q < 1) : byteOf q 6 ||| (r * 1 / 281474976710656 % 256) = byteOf (q + r * 1) 6 := by
  rw [byteOf_zero (Nat.lt_of_lt_of_le hq (by decide)), Nat.zero_or]
  unfold byteOf
  rw [show 256 ^ 6 = 281474976710656 from rfl, show (q + r * 1) / 281474976710656 = r * 1 / 281474976710656 by omega]
theorem orb_0_7 (q r : Nat) (hq : q < 1) : byteOf q 7 ||| (r * 1 / 72057594037927936 % 256) = byteOf (q + r * 1) 7 := by
  rw [byteOf_zero (Nat.lt_of_lt_of_le hq (by decide)), Nat.zero_or]
  unfold byteOf
  rw [show 256 ^ 7 = 72057594037927936 from rfl, show (q + r * 1) / 72057594037927936 = r * 1 / 72057594037927936 by omega]
theorem orb_1_0 (q r : Nat) (hq : q < 2) : byteOf q 0 ||| (r * 2 / 1 % 256) = byteOf (q + r * 2) 0 := by
  unfold byteOf
  rw [Nat.pow_zero, Nat.div_one, Nat.div_one, Nat.div_one]
  have := Nat.two_pow_add_eq_or_of_lt (i := 1) (b := q) (by omega) (r * 2 % 256 / 2)
  rw [show 2 ^ 1 * (r * 2 % 256 / 2) = r * 2 % 256 by omega, Nat.or_comm] at this
  rw [Nat.mod_eq_of_lt (show q < 256 by omega), ← this]
  omega
theorem orb_1_1 (q r : Nat) (hq : q < 2) : byteOf q 1 ||| (r * 2 / 256 % 256) = byteOf (q + r * 2) 1 := by
  rw [byteOf_zero (Nat.lt_of_lt_of_le hq (by decide)), Nat.zero_or]
  unfold byteOf
  rw [show 256 ^ 1 = 256 from rfl, show (q + r * 2) / 256 = r * 2 / 256 by omega]
theorem orb_1_2 (q r : Nat) (hq : q < 2) : byteOf q 2 ||| (r * 2 / 65536 % 256) = byteOf (q + r * 2) 2 := by
  rw [byteOf_zero (Nat.lt_of_lt_of_le hq (by decide)), Nat.zero_or]
  unfold byteOf
  rw [show 256 ^ 2 = 65536 from rfl, show (q + r * 2) / 65536 = r * 2 / 65536 by omega]
theorem orb_1_3 (q r : Nat) (hq : q < 2) : byteOf q 3 ||| (r * 2 / 16777216 % 256) = byteOf (q + r * 2) 3 := by
  rw [byteOf_zero (Nat.lt_of_lt_of_le hq (by decide)), Nat.zero_or]
  unfold byteOf
  rw [show 256 ^ 3 = 16777216 from rfl, show (q + r * 2) / 16777216 = r * 2 / 16777216 by omega]
theorem orb_1_4 (q r : Nat) (hq : q < 2) : byteOf q 4 ||| (r * 2 / 4294967296 % 256) = byteOf (q + r * 2) 4 := by
  rw [byteOf_zero (Nat.lt_of_lt_of_le hq (by decide)), Nat.zero_or]
  unfold byteOf
  rw [show 256 ^ 4 = 4294967296 from rfl, show (q + r * 2) / 4294967296 = r * 2 / 4294967296 by omega]
theorem orb_1_5 (q r : Nat) (hq : q < 2) : byteOf q 5 ||| (r * 2 / 1099511627776 % 256) = byteOf (q + r * 2) 5 := by
  rw [byteOf_zero (Nat.lt_of_lt_of_le hq (by decide)), Nat.zero_or]
  unfold byteOf
  rw [show 256 ^ 5 = 1099511627776 from rfl, show (q + r * 2) / 1099511627776 = r * 2 / 1099511627776 by omega]
theorem orb_1_6 (q r : Nat) (hq : q < 2) : byteOf q 6 ||| (r * 2 / 281474976710656 % 256) = byteOf (q + r * 2) 6 := by
  rw [byteOf_zero (Nat.lt_of_lt_of_le hq (by decide)), Nat.zero_or]
  unfold byteOf
  rw [show 256 ^ 6 = 281474976710656 from rfl, show (q + r * 2) / 281474976710656 = r * 2 / 281474976710656 by omega]
theorem orb_1_7 (q r : Nat) (hq : q < 2) : byteOf q 7 ||| (r * 2 / 72057594037927936 % 256) = byteOf (q + r * 2) 7 := by
  rw [byteOf_zero (Nat.lt_of_lt_of_le hq (by decide)), Nat.zero_or]
  unfold byteOf
  rw [show 256 ^ 7 = 72057594037927936 from rfl, show (q + r * 2) / 72057594037927936 = r * 2 / 72057594037927936 by omega]
theorem orb_3_0 (q r : Nat) (hq : q < 8) : byteOf q 0 ||| (r * 8 / 1 % 256) = byteOf (q + r * 8) 0 := by
  unfold byteOf
  rw [Nat.pow_zero, Nat.div_one, Nat.div_one, Nat.div_one]
  have := Nat.two_pow_add_eq_or_of_lt (i := 3) (b := q) (by omega) (r * 8 % 256 / 8)
  rw [show 2 ^ 3 * (r * 8 % 256 / 8) = r * 8 % 256 by omega, Nat.or_comm] at this
  rw [Nat.mod_eq_of_lt (show q < 256 by omega), ← this]
  omega
theorem orb_3_1 (q r : Nat) (hq : q < 8) : byteOf q 1 ||| (r * 8 / 256 % 256) = byteOf (q + r * 8) 1 := by
  rw [byteOf_zero (Nat.lt_of_lt_of_le hq (by decide)), Nat.zero_or]
  unfold byteOf
  rw [show 256 ^ 1 = 256 from rfl, show (q + r * 8) / 256 = r * 8 / 256 by omega]
theorem orb_3_2 (q r : Nat) (hq : q < 8) : byteOf q 2 ||| (r * 8 / 65536 % 256) = byteOf (q + r * 8) 2 := by
  rw [byteOf_zero (Nat.lt_of_lt_of_le hq (by decide)), Nat.zero_or]
  unfold byteOf
  rw [show 256 ^ 2 = 65536 from rfl, show (q + r * 8) / 65536 = r * 8 / 65536 by omega]
theorem orb_3_3 (q r : Nat) (hq : q < 8) : byteOf q 3 ||| (r * 8 / 16777216 % 256) = byteOf (q + r * 8) 3 := by
  rw [byteOf_zero (Nat.lt_of_lt_of_le hq (by decide)), Nat.zero_or]
  unfold byteOf
  rw [show 256 ^ 3 = 16777216 from rfl, show (q + r * 8) / 16777216 = r * 8 / 16777216 by omega]
theorem orb_3_4 (q r : Nat) (hq : q < 8) : byteOf q 4 ||| (r * 8 / 4294967296 % 256) = byteOf (q + r * 8) 4 := by
  rw [byteOf_zero (Nat.lt_of_lt_of_le hq (by decide)), Nat.zero_or]
  unfold byteOf
  rw [show 256 ^ 4 = 4294967296 from rfl, show (q + r * 8) / 4294967296 = r * 8 / 4294967296 by omega]
theorem orb_3_5 (q r : Nat) (hq : q < 8) : byteOf q 5 ||| (r * 8 / 1099511627776 % 256) = byteOf (q + r * 8) 5 := by
  rw [byteOf_zero (Nat.lt_of_lt_of_le hq (by decide)), Nat.zero_or]
  unfold byteOf
  rw [show 256 ^ 5 = 1099511627776 from rfl, show (q + r * 8) / 1099511627776 = r * 8 / 1099511627776 by omega]
theorem orb_3_6 (q r : Nat) (hq : q < 8) : byteOf q 6 ||| (r * 8 / 281474976710656 % 256) = byteOf (q + r * 8) 6 := by
  rw [byteOf_zero (Nat.lt_of_lt_of_le hq (by decide)), Nat.zero_or]
  unfold byteOf
  rw [show 256 ^ 6 = 281474976710656 from rfl, show (q + r * 8) / 281474976710656 = r * 8 / 281474976710656 by omega]
theorem orb_3_7 (q r : Nat) (hq : q < 8) : byteOf q 7 ||| (r * 8 / 72057594037927936 % 256) = byteOf (q + r * 8) 7 := by
  rw [byteOf_zero (Nat.lt_of_lt_of_le hq (by decide)), Nat.zero_or]
  unfold byteOf
  rw [show 256 ^ 7 = 72057594037927936 from rfl, show (q + r * 8) / 72057594037927936 = r * 8 / 72057594037927936 by omega]
theorem orb_4_0 (q r : Nat) (hq : q < 16) : byteOf q 0 ||| (r * 16 / 1 % 256) = byteOf (q + r * 16) 0 := by
  unfold byteOf
  rw [Nat.pow_zero, Nat.div_one, Nat.div_one, Nat.div_one]
  have := Nat.two_pow_add_eq_or_of_lt (i := 4) (b := q) (by omega) (r * 16 % 256 / 16)
  rw [show 2 ^ 4 * (r * 16 % 256 / 16) = r * 16 % 256 by omega, Nat.or_comm] at this
  rw [Nat.mod_eq_of_lt (show q < 256 by omega), ← this]
  omega
theorem orb_4_1 (q r : Nat) (hq : q < 16) : byteOf q 1 ||| (r * 16 / 256 % 256) = byteOf (q + r * 16) 1 := by
  rw [byteOf_zero (Nat.lt_of_lt_of_le hq (by decide)), Nat.zero_or]
  unfold byteOf
  rw [show 256 ^ 1 = 256 from rfl, show (q + r * 16) / 256 = r * 16 / 256 by omega]
theorem orb_4_2 (q r : Nat) (hq : q < 16) : byteOf q 2 ||| (r * 16 / 65536 % 256) = byteOf (q + r * 16) 2 := by
  rw [byteOf_zero (Nat.lt_of_lt_of_le hq (by decide)), Nat.zero_or]
  unfold byteOf
  rw [show 256 ^ 2 = 65536 from rfl, show (q + r * 16) / 65536 = r * 16 / 65536 by omega]
theorem orb_4_3 (q r : Nat) (hq : q < 16) : byteOf q 3 ||| (r * 16 / 16777216 % 256) = byteOf (q + r * 16) 3 := by
  rw [byteOf_zero (Nat.lt_of_lt_of_le hq (by decide)), Nat.zero_or]
  unfold byteOf
  rw [show 256 ^ 3 = 16777216 from rfl, show (q + r * 16) / 16777216 = r * 16 / 16777216 by omega]
theorem orb_4_4 (q r : Nat) (hq : q < 16) : byteOf q 4 ||| (r * 16 / 4294967296 % 256) = byteOf (q + r * 16) 4 := by
  rw [byteOf_zero (Nat.lt_of_lt_of_le hq (by decide)), Nat.zero_or]
  unfold byteOf
  rw [show 256 ^ 4 = 4294967296 from rfl, show (q + r * 16) / 4294967296 = r * 16 / 4294967296 by omega]
theorem orb_4_5 (q r : Nat) (hq : q < 16) : byteOf q 5 ||| (r * 16 / 1099511627776 % 256) = byteOf (q + r * 16) 5 := by
  rw [byteOf_zero (Nat.lt_of_lt_of_le hq (by decide)), Nat.zero_or]
  unfold byteOf
  rw [show 256 ^ 5 = 1099511627776 from rfl, show (q + r * 16) / 1099511627776 = r * 16 / 1099511627776 by omega]
theorem orb_4_6 (q r : Nat) (hq : q < 16) : byteOf q 6 ||| (r * 16 / 281474976710656 % 256) = byteOf (q + r * 16) 6 := by
  rw [byteOf_zero (Nat.lt_of_lt_of_le hq (by decide)), Nat.zero_or]
  unfold byteOf
  rw [show 256 ^ 6 = 281474976710656 from rfl, show (q + r * 16) / 281474976710656 = r * 16 / 281474976710656 by omega]
theorem orb_4_7 (q r : Nat) (hq : q < 16) : byteOf q 7 ||| (r * 16 / 72057594037927936 % 256) = byteOf (q + r * 16) 7 := by
  rw [byteOf_zero (Nat.lt_of_lt_of_le hq (by decide)), Nat.zero_or]
  unfold byteOf
  rw [show 256 ^ 7 = 72057594037927936 from rfl, show (q + r * 16) / 72057594037927936 = r * 16 / 72057594037927936 by omega]
theorem orb_6_0 (q r : Nat) (hq : q < 64) : byteOf q 0 ||| (r * 64 / 1 % 256) = byteOf (q + r * 64) 0 := by
  unfold byteOf
  rw [Nat.pow_zero, Nat.div_one, Nat.div_one, Nat.div_one]
  have := Nat.two_pow_add_eq_or_of_lt (i := 6) (b := q) (by omega) (r * 64 % 256 / 64)
  rw [show 2 ^ 6 * (r * 64 % 256 / 64) = r * 64 % 256 by omega, Nat.or_comm] at this
  rw [Nat.mod_eq_of_lt (show q < 256 by omega), ← this]
  omega
theorem orb_6_1 (q r : Nat) (hq : q < 64) : byteOf q 1 ||| (r * 64 / 256 % 256) = byteOf (q + r * 64) 1 := by
  rw [byteOf_zero (Nat.lt_of_lt_of_le hq (by decide)), Nat.zero_or]
  unfold byteOf
  rw [show 256 ^ 1 = 256 from rfl, show (q + r * 64) / 256 = r * 64 / 256 by omega]
theorem orb_6_2 (q r : Nat) (hq : q < 64) : byteOf q 2 ||| (r * 64 / 65536 % 256) = byteOf (q + r * 64) 2 := by
  rw [byteOf_zero (Nat.lt_of_lt_of_le hq (by decide)), Nat.zero_or]
  unfold byteOf
  rw [show 256 ^ 2 = 65536 from rfl, show (q + r * 64) / 65536 = r * 64 / 65536 by omega]
theorem orb_6_3 (q r : Nat) (hq : q < 64) : byteOf q 3 ||| (r * 64 / 16777216 % 256) = byteOf (q + r * 64) 3 := by
  rw [byteOf_zero (Nat.lt_of_lt_of_le hq (by decide)), Nat.zero_or]
  unfold byteOf
  rw [show 256 ^ 3 = 16777216 from rfl, show (q + r * 64) / 16777216 = r * 64 / 16777216 by omega]
theorem orb_6_4 (q r : Nat) (hq : q < 64) : byteOf q 4 ||| (r * 64 / 4294967296 % 256) = byteOf (q + r * 64) 4 := by
  rw [byteOf_zero (Nat.lt_of_lt_of_le hq (by decide)), Nat.zero_or]
  unfold byteOf
  rw [show 256 ^ 4 = 4294967296 from rfl, show (q + r * 64) / 4294967296 = r * 64 / 4294967296 by omega]
theorem orb_6_5 (q r : Nat) (hq : q < 64) : byteOf q 5 ||| (r * 64 / 1099511627776 % 256) = byteOf (q + r * 64) 5 := by
  rw [byteOf_zero (Nat.lt_of_lt_of_le hq (by decide)), Nat.zero_or]
  unfold byteOf
  rw [show 256 ^ 5 = 1099511627776 from rfl, show (q + r * 64) / 1099511627776 = r * 64 / 1099511627776 by omega]
theorem orb_6_6 (q r : Nat) (hq : q < 64) : byteOf q 6 ||| (r * 64 / 281474976710656 % 256) = byteOf (q + r * 64) 6 := by
  rw [byteOf_zero (Nat.lt_of_lt_of_le hq (by decide)), Nat.zero_or]
  unfold byteOf
  rw [show 256 ^ 6 = 281474976710656 from rfl, show (q + r * 64) / 281474976710656 = r * 64 / 281474976710656 by omega]
theorem orb_6_7 (q r : Nat) (hq : q < 64) : byteOf q 7 ||| (r * 64 / 72057594037927936 % 256) = byteOf (q + r * 64) 7 := by
  rw [byteOf_zero (Nat.lt_of_lt_of_le hq (by decide)), Nat.zero_or]
  unfold byteOf
  rw [show 256 ^ 7 = 72057594037927936 from rfl, show (q + r * 64) / 72057594037927936 = r * 64 / 72057594037927936 by omega]

/-- What the first i limbs are together. -/
def xv (r0 r1 r2 r3 r4 : Nat) : Nat → Nat
  | 0 => 0
  | 1 => r0 * 1 * 256 ^ 0
  | 2 => r0 * 1 * 256 ^ 0 + r1 * 8 * 256 ^ 6
  | 3 => r0 * 1 * 256 ^ 0 + r1 * 8 * 256 ^ 6 + r2 * 64 * 256 ^ 12
  | 4 => r0 * 1 * 256 ^ 0 + r1 * 8 * 256 ^ 6 + r2 * 64 * 256 ^ 12 + r3 * 2 * 256 ^ 19
  | _ => r0 * 1 * 256 ^ 0 + r1 * 8 * 256 ^ 6 + r2 * 64 * 256 ^ 12 + r3 * 2 * 256 ^ 19 + r4 * 16 * 256 ^ 25
theorem xv_end (r0 r1 r2 r3 r4 : Nat) : xv r0 r1 r2 r3 r4 5 = valN r0 r1 r2 r3 r4 := by
  unfold xv valN
  simp only [Nat.reducePow]
  omega
theorem xv_next0 (r0 r1 r2 r3 r4 : Nat) : xv r0 r1 r2 r3 r4 1 = xv r0 r1 r2 r3 r4 0 + r0 * 1 * 256 ^ 0 := by
  exact (Nat.zero_add _).symm
theorem xv_lt0 {r0 r1 r2 r3 r4 : Nat} (h0 : r0 < 2251799813685248) (h1 : r1 < 2251799813685248) (h2 : r2 < 2251799813685248) (h3 : r3 < 2251799813685248) (h4 : r4 < 2251799813685248) : xv r0 r1 r2 r3 r4 0 < 1 * 256 ^ 0 := by
  unfold xv; simp only [Nat.reducePow]; omega
theorem xv_div0 {r0 r1 r2 r3 r4 : Nat} (h0 : r0 < 2251799813685248) (h1 : r1 < 2251799813685248) (h2 : r2 < 2251799813685248) (h3 : r3 < 2251799813685248) (h4 : r4 < 2251799813685248) : xv r0 r1 r2 r3 r4 0 / 256 ^ 0 < 1 := by
  rw [Nat.div_lt_iff_lt_mul (Nat.pow_pos (by omega))]
  exact xv_lt0 h0 h1 h2 h3 h4
theorem kstart0 (r0 r1 r2 r3 r4 : Nat) : kArr (byteOf (xv r0 r1 r2 r3 r4 0)) = kArr (mix (xv r0 r1 r2 r3 r4 0) (xv r0 r1 r2 r3 r4 1) 0) := by
  apply kArr_congr
  intro b hb
  by_cases h : b < 0
  · rw [mix_lt h, xv_next0, byteOf_add_lo h]
  · rw [mix_ge (by omega)]
theorem kend0 {r0 r1 r2 r3 r4 : Nat} (h0 : r0 < 2251799813685248) (h1 : r1 < 2251799813685248) (h2 : r2 < 2251799813685248) (h3 : r3 < 2251799813685248) (h4 : r4 < 2251799813685248) : kArr (mix (xv r0 r1 r2 r3 r4 0) (xv r0 r1 r2 r3 r4 1) 8) = kArr (byteOf (xv r0 r1 r2 r3 r4 1)) := by
  apply kArr_congr
  intro b hb
  by_cases h : b < 8
  · rw [mix_lt h]
  · have hp : 256 ^ 8 ≤ 256 ^ b := Nat.pow_le_pow_right (by omega) (by omega)
    have l1 := xv_lt0 h0 h1 h2 h3 h4
    have l2 : xv r0 r1 r2 r3 r4 1 < 256 ^ 8 := by
      rw [xv_next0]
      have : 1 * 256 ^ 0 + 2251799813685248*1 * 256 ^ 0 ≤ 256 ^ 8 := by decide
      have m : r0 * 1 * 256 ^ 0 ≤ 2251799813685248*1 * 256 ^ 0 := Nat.mul_le_mul_right _ (Nat.mul_le_mul_right _ (Nat.le_of_lt h0))
      exact Nat.lt_of_lt_of_le (Nat.add_lt_add_of_lt_of_le l1 m) this
    rw [mix_ge (by omega), byteOf_zero (Nat.lt_of_lt_of_le l2 hp), byteOf_zero (Nat.lt_of_lt_of_le (Nat.lt_of_le_of_lt (by rw [xv_next0]; exact Nat.le_add_right _ _) l2) hp)]
theorem kor0_0 {r0 r1 r2 r3 r4 : Nat} (h0 : r0 < 2251799813685248) (h1 : r1 < 2251799813685248) (h2 : r2 < 2251799813685248) (h3 : r3 < 2251799813685248) (h4 : r4 < 2251799813685248) : bits .or .u8 ((mix (xv r0 r1 r2 r3 r4 0) (xv r0 r1 r2 r3 r4 1) 0 0 : Nat) : Int) ((r0 * 1 / 1 % 256 : Nat) : Int) = ((byteOf (xv r0 r1 r2 r3 r4 1) 0 : Nat) : Int) := by
  rw [mix_ge (Nat.le_refl _), or_u8 _ _ (byteOf_lt _ _) (Nat.mod_lt _ (by omega))]
  congr 1
  rw [xv_next0, show 0 = 0 + 0 from rfl, byteOf_add_hi, byteOf_hi']
  exact orb_0_0 _ r0 (xv_div0 h0 h1 h2 h3 h4)
theorem kor0_1 {r0 r1 r2 r3 r4 : Nat} (h0 : r0 < 2251799813685248) (h1 : r1 < 2251799813685248) (h2 : r2 < 2251799813685248) (h3 : r3 < 2251799813685248) (h4 : r4 < 2251799813685248) : bits .or .u8 ((mix (xv r0 r1 r2 r3 r4 0) (xv r0 r1 r2 r3 r4 1) 1 1 : Nat) : Int) ((r0 * 1 / 256 % 256 : Nat) : Int) = ((byteOf (xv r0 r1 r2 r3 r4 1) 1 : Nat) : Int) := by
  rw [mix_ge (Nat.le_refl _), or_u8 _ _ (byteOf_lt _ _) (Nat.mod_lt _ (by omega))]
  congr 1
  rw [xv_next0, show 1 = 0 + 1 from rfl, byteOf_add_hi, byteOf_hi']
  exact orb_0_1 _ r0 (xv_div0 h0 h1 h2 h3 h4)
theorem kor0_2 {r0 r1 r2 r3 r4 : Nat} (h0 : r0 < 2251799813685248) (h1 : r1 < 2251799813685248) (h2 : r2 < 2251799813685248) (h3 : r3 < 2251799813685248) (h4 : r4 < 2251799813685248) : bits .or .u8 ((mix (xv r0 r1 r2 r3 r4 0) (xv r0 r1 r2 r3 r4 1) 2 2 : Nat) : Int) ((r0 * 1 / 65536 % 256 : Nat) : Int) = ((byteOf (xv r0 r1 r2 r3 r4 1) 2 : Nat) : Int) := by
  rw [mix_ge (Nat.le_refl _), or_u8 _ _ (byteOf_lt _ _) (Nat.mod_lt _ (by omega))]
  congr 1
  rw [xv_next0, show 2 = 0 + 2 from rfl, byteOf_add_hi, byteOf_hi']
  exact orb_0_2 _ r0 (xv_div0 h0 h1 h2 h3 h4)
theorem kor0_3 {r0 r1 r2 r3 r4 : Nat} (h0 : r0 < 2251799813685248) (h1 : r1 < 2251799813685248) (h2 : r2 < 2251799813685248) (h3 : r3 < 2251799813685248) (h4 : r4 < 2251799813685248) : bits .or .u8 ((mix (xv r0 r1 r2 r3 r4 0) (xv r0 r1 r2 r3 r4 1) 3 3 : Nat) : Int) ((r0 * 1 / 16777216 % 256 : Nat) : Int) = ((byteOf (xv r0 r1 r2 r3 r4 1) 3 : Nat) : Int) := by
  rw [mix_ge (Nat.le_refl _), or_u8 _ _ (byteOf_lt _ _) (Nat.mod_lt _ (by omega))]
  congr 1
  rw [xv_next0, show 3 = 0 + 3 from rfl, byteOf_add_hi, byteOf_hi']
  exact orb_0_3 _ r0 (xv_div0 h0 h1 h2 h3 h4)
theorem kor0_4 {r0 r1 r2 r3 r4 : Nat} (h0 : r0 < 2251799813685248) (h1 : r1 < 2251799813685248) (h2 : r2 < 2251799813685248) (h3 : r3 < 2251799813685248) (h4 : r4 < 2251799813685248) : bits .or .u8 ((mix (xv r0 r1 r2 r3 r4 0) (xv r0 r1 r2 r3 r4 1) 4 4 : Nat) : Int) ((r0 * 1 / 4294967296 % 256 : Nat) : Int) = ((byteOf (xv r0 r1 r2 r3 r4 1) 4 : Nat) : Int) := by
  rw [mix_ge (Nat.le_refl _), or_u8 _ _ (byteOf_lt _ _) (Nat.mod_lt _ (by omega))]
  congr 1
  rw [xv_next0, show 4 = 0 + 4 from rfl, byteOf_add_hi, byteOf_hi']
  exact orb_0_4 _ r0 (xv_div0 h0 h1 h2 h3 h4)
theorem kor0_5 {r0 r1 r2 r3 r4 : Nat} (h0 : r0 < 2251799813685248) (h1 : r1 < 2251799813685248) (h2 : r2 < 2251799813685248) (h3 : r3 < 2251799813685248) (h4 : r4 < 2251799813685248) : bits .or .u8 ((mix (xv r0 r1 r2 r3 r4 0) (xv r0 r1 r2 r3 r4 1) 5 5 : Nat) : Int) ((r0 * 1 / 1099511627776 % 256 : Nat) : Int) = ((byteOf (xv r0 r1 r2 r3 r4 1) 5 : Nat) : Int) := by
  rw [mix_ge (Nat.le_refl _), or_u8 _ _ (byteOf_lt _ _) (Nat.mod_lt _ (by omega))]
  congr 1
  rw [xv_next0, show 5 = 0 + 5 from rfl, byteOf_add_hi, byteOf_hi']
  exact orb_0_5 _ r0 (xv_div0 h0 h1 h2 h3 h4)
theorem kor0_6 {r0 r1 r2 r3 r4 : Nat} (h0 : r0 < 2251799813685248) (h1 : r1 < 2251799813685248) (h2 : r2 < 2251799813685248) (h3 : r3 < 2251799813685248) (h4 : r4 < 2251799813685248) : bits .or .u8 ((mix (xv r0 r1 r2 r3 r4 0) (xv r0 r1 r2 r3 r4 1) 6 6 : Nat) : Int) ((r0 * 1 / 281474976710656 % 256 : Nat) : Int) = ((byteOf (xv r0 r1 r2 r3 r4 1) 6 : Nat) : Int) := by
  rw [mix_ge (Nat.le_refl _), or_u8 _ _ (byteOf_lt _ _) (Nat.mod_lt _ (by omega))]
  congr 1
  rw [xv_next0, show 6 = 0 + 6 from rfl, byteOf_add_hi, byteOf_hi']
  exact orb_0_6 _ r0 (xv_div0 h0 h1 h2 h3 h4)
theorem kor0_7 {r0 r1 r2 r3 r4 : Nat} (h0 : r0 < 2251799813685248) (h1 : r1 < 2251799813685248) (h2 : r2 < 2251799813685248) (h3 : r3 < 2251799813685248) (h4 : r4 < 2251799813685248) : bits .or .u8 ((mix (xv r0 r1 r2 r3 r4 0) (xv r0 r1 r2 r3 r4 1) 7 7 : Nat) : Int) ((r0 * 1 / 72057594037927936 % 256 : Nat) : Int) = ((byteOf (xv r0 r1 r2 r3 r4 1) 7 : Nat) : Int) := by
  rw [mix_ge (Nat.le_refl _), or_u8 _ _ (byteOf_lt _ _) (Nat.mod_lt _ (by omega))]
  congr 1
  rw [xv_next0, show 7 = 0 + 7 from rfl, byteOf_add_hi, byteOf_hi']
  exact orb_0_7 _ r0 (xv_div0 h0 h1 h2 h3 h4)
theorem xv_next1 (r0 r1 r2 r3 r4 : Nat) : xv r0 r1 r2 r3 r4 2 = xv r0 r1 r2 r3 r4 1 + r1 * 8 * 256 ^ 6 := by
  rfl
theorem xv_lt1 {r0 r1 r2 r3 r4 : Nat} (h0 : r0 < 2251799813685248) (h1 : r1 < 2251799813685248) (h2 : r2 < 2251799813685248) (h3 : r3 < 2251799813685248) (h4 : r4 < 2251799813685248) : xv r0 r1 r2 r3 r4 1 < 8 * 256 ^ 6 := by
  unfold xv; simp only [Nat.reducePow]; omega
theorem xv_div1 {r0 r1 r2 r3 r4 : Nat} (h0 : r0 < 2251799813685248) (h1 : r1 < 2251799813685248) (h2 : r2 < 2251799813685248) (h3 : r3 < 2251799813685248) (h4 : r4 < 2251799813685248) : xv r0 r1 r2 r3 r4 1 / 256 ^ 6 < 8 := by
  rw [Nat.div_lt_iff_lt_mul (Nat.pow_pos (by omega))]
  exact xv_lt1 h0 h1 h2 h3 h4
theorem kstart1 (r0 r1 r2 r3 r4 : Nat) : kArr (byteOf (xv r0 r1 r2 r3 r4 1)) = kArr (mix (xv r0 r1 r2 r3 r4 1) (xv r0 r1 r2 r3 r4 2) 6) := by
  apply kArr_congr
  intro b hb
  by_cases h : b < 6
  · rw [mix_lt h, xv_next1, byteOf_add_lo h]
  · rw [mix_ge (by omega)]
theorem kend1 {r0 r1 r2 r3 r4 : Nat} (h0 : r0 < 2251799813685248) (h1 : r1 < 2251799813685248) (h2 : r2 < 2251799813685248) (h3 : r3 < 2251799813685248) (h4 : r4 < 2251799813685248) : kArr (mix (xv r0 r1 r2 r3 r4 1) (xv r0 r1 r2 r3 r4 2) 14) = kArr (byteOf (xv r0 r1 r2 r3 r4 2)) := by
  apply kArr_congr
  intro b hb
  by_cases h : b < 14
  · rw [mix_lt h]
  · have hp : 256 ^ 14 ≤ 256 ^ b := Nat.pow_le_pow_right (by omega) (by omega)
    have l1 := xv_lt1 h0 h1 h2 h3 h4
    have l2 : xv r0 r1 r2 r3 r4 2 < 256 ^ 14 := by
      rw [xv_next1]
      have : 8 * 256 ^ 6 + 2251799813685248*8 * 256 ^ 6 ≤ 256 ^ 14 := by decide
      have m : r1 * 8 * 256 ^ 6 ≤ 2251799813685248*8 * 256 ^ 6 := Nat.mul_le_mul_right _ (Nat.mul_le_mul_right _ (Nat.le_of_lt h1))
      exact Nat.lt_of_lt_of_le (Nat.add_lt_add_of_lt_of_le l1 m) this
    rw [mix_ge (by omega), byteOf_zero (Nat.lt_of_lt_of_le l2 hp), byteOf_zero (Nat.lt_of_lt_of_le (Nat.lt_of_le_of_lt (by rw [xv_next1]; exact Nat.le_add_right _ _) l2) hp)]
theorem kor1_0 {r0 r1 r2 r3 r4 : Nat} (h0 : r0 < 2251799813685248) (h1 : r1 < 2251799813685248) (h2 : r2 < 2251799813685248) (h3 : r3 < 2251799813685248) (h4 : r4 < 2251799813685248) : bits .or .u8 ((mix (xv r0 r1 r2 r3 r4 1) (xv r0 r1 r2 r3 r4 2) 6 6 : Nat) : Int) ((r1 * 8 / 1 % 256 : Nat) : Int) = ((byteOf (xv r0 r1 r2 r3 r4 2) 6 : Nat) : Int) := by
  rw [mix_ge (Nat.le_refl _), or_u8 _ _ (byteOf_lt _ _) (Nat.mod_lt _ (by omega))]
  congr 1
  rw [xv_next1, show 6 = 6 + 0 from rfl, byteOf_add_hi, byteOf_hi']
  exact orb_3_0 _ r1 (xv_div1 h0 h1 h2 h3 h4)
theorem kor1_1 {r0 r1 r2 r3 r4 : Nat} (h0 : r0 < 2251799813685248) (h1 : r1 < 2251799813685248) (h2 : r2 < 2251799813685248) (h3 : r3 < 2251799813685248) (h4 : r4 < 2251799813685248) : bits .or .u8 ((mix (xv r0 r1 r2 r3 r4 1) (xv r0 r1 r2 r3 r4 2) 7 7 : Nat) : Int) ((r1 * 8 / 256 % 256 : Nat) : Int) = ((byteOf (xv r0 r1 r2 r3 r4 2) 7 : Nat) : Int) := by
  rw [mix_ge (Nat.le_refl _), or_u8 _ _ (byteOf_lt _ _) (Nat.mod_lt _ (by omega))]
  congr 1
  rw [xv_next1, show 7 = 6 + 1 from rfl, byteOf_add_hi, byteOf_hi']
  exact orb_3_1 _ r1 (xv_div1 h0 h1 h2 h3 h4)
theorem kor1_2 {r0 r1 r2 r3 r4 : Nat} (h0 : r0 < 2251799813685248) (h1 : r1 < 2251799813685248) (h2 : r2 < 2251799813685248) (h3 : r3 < 2251799813685248) (h4 : r4 < 2251799813685248) : bits .or .u8 ((mix (xv r0 r1 r2 r3 r4 1) (xv r0 r1 r2 r3 r4 2) 8 8 : Nat) : Int) ((r1 * 8 / 65536 % 256 : Nat) : Int) = ((byteOf (xv r0 r1 r2 r3 r4 2) 8 : Nat) : Int) := by
  rw [mix_ge (Nat.le_refl _), or_u8 _ _ (byteOf_lt _ _) (Nat.mod_lt _ (by omega))]
  congr 1
  rw [xv_next1, show 8 = 6 + 2 from rfl, byteOf_add_hi, byteOf_hi']
  exact orb_3_2 _ r1 (xv_div1 h0 h1 h2 h3 h4)
theorem kor1_3 {r0 r1 r2 r3 r4 : Nat} (h0 : r0 < 2251799813685248) (h1 : r1 < 2251799813685248) (h2 : r2 < 2251799813685248) (h3 : r3 < 2251799813685248) (h4 : r4 < 2251799813685248) : bits .or .u8 ((mix (xv r0 r1 r2 r3 r4 1) (xv r0 r1 r2 r3 r4 2) 9 9 : Nat) : Int) ((r1 * 8 / 16777216 % 256 : Nat) : Int) = ((byteOf (xv r0 r1 r2 r3 r4 2) 9 : Nat) : Int) := by
  rw [mix_ge (Nat.le_refl _), or_u8 _ _ (byteOf_lt _ _) (Nat.mod_lt _ (by omega))]
  congr 1
  rw [xv_next1, show 9 = 6 + 3 from rfl, byteOf_add_hi, byteOf_hi']
  exact orb_3_3 _ r1 (xv_div1 h0 h1 h2 h3 h4)
theorem kor1_4 {r0 r1 r2 r3 r4 : Nat} (h0 : r0 < 2251799813685248) (h1 : r1 < 2251799813685248) (h2 : r2 < 2251799813685248) (h3 : r3 < 2251799813685248) (h4 : r4 < 2251799813685248) : bits .or .u8 ((mix (xv r0 r1 r2 r3 r4 1) (xv r0 r1 r2 r3 r4 2) 10 10 : Nat) : Int) ((r1 * 8 / 4294967296 % 256 : Nat) : Int) = ((byteOf (xv r0 r1 r2 r3 r4 2) 10 : Nat) : Int) := by
  rw [mix_ge (Nat.le_refl _), or_u8 _ _ (byteOf_lt _ _) (Nat.mod_lt _ (by omega))]
  congr 1
  rw [xv_next1, show 10 = 6 + 4 from rfl, byteOf_add_hi, byteOf_hi']
  exact orb_3_4 _ r1 (xv_div1 h0 h1 h2 h3 h4)
theorem kor1_5 {r0 r1 r2 r3 r4 : Nat} (h0 : r0 < 2251799813685248) (h1 : r1 < 2251799813685248) (h2 : r2 < 2251799813685248) (h3 : r3 < 2251799813685248) (h4 : r4 < 2251799813685248) : bits .or .u8 ((mix (xv r0 r1 r2 r3 r4 1) (xv r0 r1 r2 r3 r4 2) 11 11 : Nat) : Int) ((r1 * 8 / 1099511627776 % 256 : Nat) : Int) = ((byteOf (xv r0 r1 r2 r3 r4 2) 11 : Nat) : Int) := by
  rw [mix_ge (Nat.le_refl _), or_u8 _ _ (byteOf_lt _ _) (Nat.mod_lt _ (by omega))]
  congr 1
  rw [xv_next1, show 11 = 6 + 5 from rfl, byteOf_add_hi, byteOf_hi']
  exact orb_3_5 _ r1 (xv_div1 h0 h1 h2 h3 h4)
theorem kor1_6 {r0 r1 r2 r3 r4 : Nat} (h0 : r0 < 2251799813685248) (h1 : r1 < 2251799813685248) (h2 : r2 < 2251799813685248) (h3 : r3 < 2251799813685248) (h4 : r4 < 2251799813685248) : bits .or .u8 ((mix (xv r0 r1 r2 r3 r4 1) (xv r0 r1 r2 r3 r4 2) 12 12 : Nat) : Int) ((r1 * 8 / 281474976710656 % 256 : Nat) : Int) = ((byteOf (xv r0 r1 r2 r3 r4 2) 12 : Nat) : Int) := by
  rw [mix_ge (Nat.le_refl _), or_u8 _ _ (byteOf_lt _ _) (Nat.mod_lt _ (by omega))]
  congr 1
  rw [xv_next1, show 12 = 6 + 6 from rfl, byteOf_add_hi, byteOf_hi']
  exact orb_3_6 _ r1 (xv_div1 h0 h1 h2 h3 h4)
theorem kor1_7 {r0 r1 r2 r3 r4 : Nat} (h0 : r0 < 2251799813685248) (h1 : r1 < 2251799813685248) (h2 : r2 < 2251799813685248) (h3 : r3 < 2251799813685248) (h4 : r4 < 2251799813685248) : bits .or .u8 ((mix (xv r0 r1 r2 r3 r4 1) (xv r0 r1 r2 r3 r4 2) 13 13 : Nat) : Int) ((r1 * 8 / 72057594037927936 % 256 : Nat) : Int) = ((byteOf (xv r0 r1 r2 r3 r4 2) 13 : Nat) : Int) := by
  rw [mix_ge (Nat.le_refl _), or_u8 _ _ (byteOf_lt _ _) (Nat.mod_lt _ (by omega))]
  congr 1
  rw [xv_next1, show 13 = 6 + 7 from rfl, byteOf_add_hi, byteOf_hi']
  exact orb_3_7 _ r1 (xv_div1 h0 h1 h2 h3 h4)
theorem xv_next2 (r0 r1 r2 r3 r4 : Nat) : xv r0 r1 r2 r3 r4 3 = xv r0 r1 r2 r3 r4 2 + r2 * 64 * 256 ^ 12 := by
  rfl
theorem xv_lt2 {r0 r1 r2 r3 r4 : Nat} (h0 : r0 < 2251799813685248) (h1 : r1 < 2251799813685248) (h2 : r2 < 2251799813685248) (h3 : r3 < 2251799813685248) (h4 : r4 < 2251799813685248) : xv r0 r1 r2 r3 r4 2 < 64 * 256 ^ 12 := by
  unfold xv; simp only [Nat.reducePow]; omega
theorem xv_div2 {r0 r1 r2 r3 r4 : Nat} (h0 : r0 < 2251799813685248) (h1 : r1 < 2251799813685248) (h2 : r2 < 2251799813685248) (h3 : r3 < 2251799813685248) (h4 : r4 < 2251799813685248) : xv r0 r1 r2 r3 r4 2 / 256 ^ 12 < 64 := by
  rw [Nat.div_lt_iff_lt_mul (Nat.pow_pos (by omega))]
  exact xv_lt2 h0 h1 h2 h3 h4
theorem kstart2 (r0 r1 r2 r3 r4 : Nat) : kArr (byteOf (xv r0 r1 r2 r3 r4 2)) = kArr (mix (xv r0 r1 r2 r3 r4 2) (xv r0 r1 r2 r3 r4 3) 12) := by
  apply kArr_congr
  intro b hb
  by_cases h : b < 12
  · rw [mix_lt h, xv_next2, byteOf_add_lo h]
  · rw [mix_ge (by omega)]
theorem kend2 {r0 r1 r2 r3 r4 : Nat} (h0 : r0 < 2251799813685248) (h1 : r1 < 2251799813685248) (h2 : r2 < 2251799813685248) (h3 : r3 < 2251799813685248) (h4 : r4 < 2251799813685248) : kArr (mix (xv r0 r1 r2 r3 r4 2) (xv r0 r1 r2 r3 r4 3) 20) = kArr (byteOf (xv r0 r1 r2 r3 r4 3)) := by
  apply kArr_congr
  intro b hb
  by_cases h : b < 20
  · rw [mix_lt h]
  · have hp : 256 ^ 20 ≤ 256 ^ b := Nat.pow_le_pow_right (by omega) (by omega)
    have l1 := xv_lt2 h0 h1 h2 h3 h4
    have l2 : xv r0 r1 r2 r3 r4 3 < 256 ^ 20 := by
      rw [xv_next2]
      have : 64 * 256 ^ 12 + 2251799813685248*64 * 256 ^ 12 ≤ 256 ^ 20 := by decide
      have m : r2 * 64 * 256 ^ 12 ≤ 2251799813685248*64 * 256 ^ 12 := Nat.mul_le_mul_right _ (Nat.mul_le_mul_right _ (Nat.le_of_lt h2))
      exact Nat.lt_of_lt_of_le (Nat.add_lt_add_of_lt_of_le l1 m) this
    rw [mix_ge (by omega), byteOf_zero (Nat.lt_of_lt_of_le l2 hp), byteOf_zero (Nat.lt_of_lt_of_le (Nat.lt_of_le_of_lt (by rw [xv_next2]; exact Nat.le_add_right _ _) l2) hp)]
theorem kor2_0 {r0 r1 r2 r3 r4 : Nat} (h0 : r0 < 2251799813685248) (h1 : r1 < 2251799813685248) (h2 : r2 < 2251799813685248) (h3 : r3 < 2251799813685248) (h4 : r4 < 2251799813685248) : bits .or .u8 ((mix (xv r0 r1 r2 r3 r4 2) (xv r0 r1 r2 r3 r4 3) 12 12 : Nat) : Int) ((r2 * 64 / 1 % 256 : Nat) : Int) = ((byteOf (xv r0 r1 r2 r3 r4 3) 12 : Nat) : Int) := by
  rw [mix_ge (Nat.le_refl _), or_u8 _ _ (byteOf_lt _ _) (Nat.mod_lt _ (by omega))]
  congr 1
  rw [xv_next2, show 12 = 12 + 0 from rfl, byteOf_add_hi, byteOf_hi']
  exact orb_6_0 _ r2 (xv_div2 h0 h1 h2 h3 h4)
theorem kor2_1 {r0 r1 r2 r3 r4 : Nat} (h0 : r0 < 2251799813685248) (h1 : r1 < 2251799813685248) (h2 : r2 < 2251799813685248) (h3 : r3 < 2251799813685248) (h4 : r4 < 2251799813685248) : bits .or .u8 ((mix (xv r0 r1 r2 r3 r4 2) (xv r0 r1 r2 r3 r4 3) 13 13 : Nat) : Int) ((r2 * 64 / 256 % 256 : Nat) : Int) = ((byteOf (xv r0 r1 r2 r3 r4 3) 13 : Nat) : Int) := by
  rw [mix_ge (Nat.le_refl _), or_u8 _ _ (byteOf_lt _ _) (Nat.mod_lt _ (by omega))]
  congr 1
  rw [xv_next2, show 13 = 12 + 1 from rfl, byteOf_add_hi, byteOf_hi']
  exact orb_6_1 _ r2 (xv_div2 h0 h1 h2 h3 h4)
theorem kor2_2 {r0 r1 r2 r3 r4 : Nat} (h0 : r0 < 2251799813685248) (h1 : r1 < 2251799813685248) (h2 : r2 < 2251799813685248) (h3 : r3 < 2251799813685248) (h4 : r4 < 2251799813685248) : bits .or .u8 ((mix (xv r0 r1 r2 r3 r4 2) (xv r0 r1 r2 r3 r4 3) 14 14 : Nat) : Int) ((r2 * 64 / 65536 % 256 : Nat) : Int) = ((byteOf (xv r0 r1 r2 r3 r4 3) 14 : Nat) : Int) := by
  rw [mix_ge (Nat.le_refl _), or_u8 _ _ (byteOf_lt _ _) (Nat.mod_lt _ (by omega))]
  congr 1
  rw [xv_next2, show 14 = 12 + 2 from rfl, byteOf_add_hi, byteOf_hi']
  exact orb_6_2 _ r2 (xv_div2 h0 h1 h2 h3 h4)
theorem kor2_3 {r0 r1 r2 r3 r4 : Nat} (h0 : r0 < 2251799813685248) (h1 : r1 < 2251799813685248) (h2 : r2 < 2251799813685248) (h3 : r3 < 2251799813685248) (h4 : r4 < 2251799813685248) : bits .or .u8 ((mix (xv r0 r1 r2 r3 r4 2) (xv r0 r1 r2 r3 r4 3) 15 15 : Nat) : Int) ((r2 * 64 / 16777216 % 256 : Nat) : Int) = ((byteOf (xv r0 r1 r2 r3 r4 3) 15 : Nat) : Int) := by
  rw [mix_ge (Nat.le_refl _), or_u8 _ _ (byteOf_lt _ _) (Nat.mod_lt _ (by omega))]
  congr 1
  rw [xv_next2, show 15 = 12 + 3 from rfl, byteOf_add_hi, byteOf_hi']
  exact orb_6_3 _ r2 (xv_div2 h0 h1 h2 h3 h4)
theorem kor2_4 {r0 r1 r2 r3 r4 : Nat} (h0 : r0 < 2251799813685248) (h1 : r1 < 2251799813685248) (h2 : r2 < 2251799813685248) (h3 : r3 < 2251799813685248) (h4 : r4 < 2251799813685248) : bits .or .u8 ((mix (xv r0 r1 r2 r3 r4 2) (xv r0 r1 r2 r3 r4 3) 16 16 : Nat) : Int) ((r2 * 64 / 4294967296 % 256 : Nat) : Int) = ((byteOf (xv r0 r1 r2 r3 r4 3) 16 : Nat) : Int) := by
  rw [mix_ge (Nat.le_refl _), or_u8 _ _ (byteOf_lt _ _) (Nat.mod_lt _ (by omega))]
  congr 1
  rw [xv_next2, show 16 = 12 + 4 from rfl, byteOf_add_hi, byteOf_hi']
  exact orb_6_4 _ r2 (xv_div2 h0 h1 h2 h3 h4)
theorem kor2_5 {r0 r1 r2 r3 r4 : Nat} (h0 : r0 < 2251799813685248) (h1 : r1 < 2251799813685248) (h2 : r2 < 2251799813685248) (h3 : r3 < 2251799813685248) (h4 : r4 < 2251799813685248) : bits .or .u8 ((mix (xv r0 r1 r2 r3 r4 2) (xv r0 r1 r2 r3 r4 3) 17 17 : Nat) : Int) ((r2 * 64 / 1099511627776 % 256 : Nat) : Int) = ((byteOf (xv r0 r1 r2 r3 r4 3) 17 : Nat) : Int) := by
  rw [mix_ge (Nat.le_refl _), or_u8 _ _ (byteOf_lt _ _) (Nat.mod_lt _ (by omega))]
  congr 1
  rw [xv_next2, show 17 = 12 + 5 from rfl, byteOf_add_hi, byteOf_hi']
  exact orb_6_5 _ r2 (xv_div2 h0 h1 h2 h3 h4)
theorem kor2_6 {r0 r1 r2 r3 r4 : Nat} (h0 : r0 < 2251799813685248) (h1 : r1 < 2251799813685248) (h2 : r2 < 2251799813685248) (h3 : r3 < 2251799813685248) (h4 : r4 < 2251799813685248) : bits .or .u8 ((mix (xv r0 r1 r2 r3 r4 2) (xv r0 r1 r2 r3 r4 3) 18 18 : Nat) : Int) ((r2 * 64 / 281474976710656 % 256 : Nat) : Int) = ((byteOf (xv r0 r1 r2 r3 r4 3) 18 : Nat) : Int) := by
  rw [mix_ge (Nat.le_refl _), or_u8 _ _ (byteOf_lt _ _) (Nat.mod_lt _ (by omega))]
  congr 1
  rw [xv_next2, show 18 = 12 + 6 from rfl, byteOf_add_hi, byteOf_hi']
  exact orb_6_6 _ r2 (xv_div2 h0 h1 h2 h3 h4)
theorem kor2_7 {r0 r1 r2 r3 r4 : Nat} (h0 : r0 < 2251799813685248) (h1 : r1 < 2251799813685248) (h2 : r2 < 2251799813685248) (h3 : r3 < 2251799813685248) (h4 : r4 < 2251799813685248) : bits .or .u8 ((mix (xv r0 r1 r2 r3 r4 2) (xv r0 r1 r2 r3 r4 3) 19 19 : Nat) : Int) ((r2 * 64 / 72057594037927936 % 256 : Nat) : Int) = ((byteOf (xv r0 r1 r2 r3 r4 3) 19 : Nat) : Int) := by
  rw [mix_ge (Nat.le_refl _), or_u8 _ _ (byteOf_lt _ _) (Nat.mod_lt _ (by omega))]
  congr 1
  rw [xv_next2, show 19 = 12 + 7 from rfl, byteOf_add_hi, byteOf_hi']
  exact orb_6_7 _ r2 (xv_div2 h0 h1 h2 h3 h4)
theorem xv_next3 (r0 r1 r2 r3 r4 : Nat) : xv r0 r1 r2 r3 r4 4 = xv r0 r1 r2 r3 r4 3 + r3 * 2 * 256 ^ 19 := by
  rfl
theorem xv_lt3 {r0 r1 r2 r3 r4 : Nat} (h0 : r0 < 2251799813685248) (h1 : r1 < 2251799813685248) (h2 : r2 < 2251799813685248) (h3 : r3 < 2251799813685248) (h4 : r4 < 2251799813685248) : xv r0 r1 r2 r3 r4 3 < 2 * 256 ^ 19 := by
  unfold xv; simp only [Nat.reducePow]; omega
theorem xv_div3 {r0 r1 r2 r3 r4 : Nat} (h0 : r0 < 2251799813685248) (h1 : r1 < 2251799813685248) (h2 : r2 < 2251799813685248) (h3 : r3 < 2251799813685248) (h4 : r4 < 2251799813685248) : xv r0 r1 r2 r3 r4 3 / 256 ^ 19 < 2 := by
  rw [Nat.div_lt_iff_lt_mul (Nat.pow_pos (by omega))]
  exact xv_lt3 h0 h1 h2 h3 h4
theorem kstart3 (r0 r1 r2 r3 r4 : Nat) : kArr (byteOf (xv r0 r1 r2 r3 r4 3)) = kArr (mix (xv r0 r1 r2 r3 r4 3) (xv r0 r1 r2 r3 r4 4) 19) := by
  apply kArr_congr
  intro b hb
  by_cases h : b < 19
  · rw [mix_lt h, xv_next3, byteOf_add_lo h]
  · rw [mix_ge (by omega)]
theorem kend3 {r0 r1 r2 r3 r4 : Nat} (h0 : r0 < 2251799813685248) (h1 : r1 < 2251799813685248) (h2 : r2 < 2251799813685248) (h3 : r3 < 2251799813685248) (h4 : r4 < 2251799813685248) : kArr (mix (xv r0 r1 r2 r3 r4 3) (xv r0 r1 r2 r3 r4 4) 27) = kArr (byteOf (xv r0 r1 r2 r3 r4 4)) := by
  apply kArr_congr
  intro b hb
  by_cases h : b < 27
  · rw [mix_lt h]
  · have hp : 256 ^ 27 ≤ 256 ^ b := Nat.pow_le_pow_right (by omega) (by omega)
    have l1 := xv_lt3 h0 h1 h2 h3 h4
    have l2 : xv r0 r1 r2 r3 r4 4 < 256 ^ 27 := by
      rw [xv_next3]
      have : 2 * 256 ^ 19 + 2251799813685248*2 * 256 ^ 19 ≤ 256 ^ 27 := by decide
      have m : r3 * 2 * 256 ^ 19 ≤ 2251799813685248*2 * 256 ^ 19 := Nat.mul_le_mul_right _ (Nat.mul_le_mul_right _ (Nat.le_of_lt h3))
      exact Nat.lt_of_lt_of_le (Nat.add_lt_add_of_lt_of_le l1 m) this
    rw [mix_ge (by omega), byteOf_zero (Nat.lt_of_lt_of_le l2 hp), byteOf_zero (Nat.lt_of_lt_of_le (Nat.lt_of_le_of_lt (by rw [xv_next3]; exact Nat.le_add_right _ _) l2) hp)]
theorem kor3_0 {r0 r1 r2 r3 r4 : Nat} (h0 : r0 < 2251799813685248) (h1 : r1 < 2251799813685248) (h2 : r2 < 2251799813685248) (h3 : r3 < 2251799813685248) (h4 : r4 < 2251799813685248) : bits .or .u8 ((mix (xv r0 r1 r2 r3 r4 3) (xv r0 r1 r2 r3 r4 4) 19 19 : Nat) : Int) ((r3 * 2 / 1 % 256 : Nat) : Int) = ((byteOf (xv r0 r1 r2 r3 r4 4) 19 : Nat) : Int) := by
  rw [mix_ge (Nat.le_refl _), or_u8 _ _ (byteOf_lt _ _) (Nat.mod_lt _ (by omega))]
  congr 1
  rw [xv_next3, show 19 = 19 + 0 from rfl, byteOf_add_hi, byteOf_hi']
  exact orb_1_0 _ r3 (xv_div3 h0 h1 h2 h3 h4)
theorem kor3_1 {r0 r1 r2 r3 r4 : Nat} (h0 : r0 < 2251799813685248) (h1 : r1 < 2251799813685248) (h2 : r2 < 2251799813685248) (h3 : r3 < 2251799813685248) (h4 : r4 < 2251799813685248) : bits .or .u8 ((mix (xv r0 r1 r2 r3 r4 3) (xv r0 r1 r2 r3 r4 4) 20 20 : Nat) : Int) ((r3 * 2 / 256 % 256 : Nat) : Int) = ((byteOf (xv r0 r1 r2 r3 r4 4) 20 : Nat) : Int) := by
  rw [mix_ge (Nat.le_refl _), or_u8 _ _ (byteOf_lt _ _) (Nat.mod_lt _ (by omega))]
  congr 1
  rw [xv_next3, show 20 = 19 + 1 from rfl, byteOf_add_hi, byteOf_hi']
  exact orb_1_1 _ r3 (xv_div3 h0 h1 h2 h3 h4)
theorem kor3_2 {r0 r1 r2 r3 r4 : Nat} (h0 : r0 < 2251799813685248) (h1 : r1 < 2251799813685248) (h2 : r2 < 2251799813685248) (h3 : r3 < 2251799813685248) (h4 : r4 < 2251799813685248) : bits .or .u8 ((mix (xv r0 r1 r2 r3 r4 3) (xv r0 r1 r2 r3 r4 4) 21 21 : Nat) : Int) ((r3 * 2 / 65536 % 256 : Nat) : Int) = ((byteOf (xv r0 r1 r2 r3 r4 4) 21 : Nat) : Int) := by
  rw [mix_ge (Nat.le_refl _), or_u8 _ _ (byteOf_lt _ _) (Nat.mod_lt _ (by omega))]
  congr 1
  rw [xv_next3, show 21 = 19 + 2 from rfl, byteOf_add_hi, byteOf_hi']
  exact orb_1_2 _ r3 (xv_div3 h0 h1 h2 h3 h4)
theorem kor3_3 {r0 r1 r2 r3 r4 : Nat} (h0 : r0 < 2251799813685248) (h1 : r1 < 2251799813685248) (h2 : r2 < 2251799813685248) (h3 : r3 < 2251799813685248) (h4 : r4 < 2251799813685248) : bits .or .u8 ((mix (xv r0 r1 r2 r3 r4 3) (xv r0 r1 r2 r3 r4 4) 22 22 : Nat) : Int) ((r3 * 2 / 16777216 % 256 : Nat) : Int) = ((byteOf (xv r0 r1 r2 r3 r4 4) 22 : Nat) : Int) := by
  rw [mix_ge (Nat.le_refl _), or_u8 _ _ (byteOf_lt _ _) (Nat.mod_lt _ (by omega))]
  congr 1
  rw [xv_next3, show 22 = 19 + 3 from rfl, byteOf_add_hi, byteOf_hi']
  exact orb_1_3 _ r3 (xv_div3 h0 h1 h2 h3 h4)
theorem kor3_4 {r0 r1 r2 r3 r4 : Nat} (h0 : r0 < 2251799813685248) (h1 : r1 < 2251799813685248) (h2 : r2 < 2251799813685248) (h3 : r3 < 2251799813685248) (h4 : r4 < 2251799813685248) : bits .or .u8 ((mix (xv r0 r1 r2 r3 r4 3) (xv r0 r1 r2 r3 r4 4) 23 23 : Nat) : Int) ((r3 * 2 / 4294967296 % 256 : Nat) : Int) = ((byteOf (xv r0 r1 r2 r3 r4 4) 23 : Nat) : Int) := by
  rw [mix_ge (Nat.le_refl _), or_u8 _ _ (byteOf_lt _ _) (Nat.mod_lt _ (by omega))]
  congr 1
  rw [xv_next3, show 23 = 19 + 4 from rfl, byteOf_add_hi, byteOf_hi']
  exact orb_1_4 _ r3 (xv_div3 h0 h1 h2 h3 h4)
theorem kor3_5 {r0 r1 r2 r3 r4 : Nat} (h0 : r0 < 2251799813685248) (h1 : r1 < 2251799813685248) (h2 : r2 < 2251799813685248) (h3 : r3 < 2251799813685248) (h4 : r4 < 2251799813685248) : bits .or .u8 ((mix (xv r0 r1 r2 r3 r4 3) (xv r0 r1 r2 r3 r4 4) 24 24 : Nat) : Int) ((r3 * 2 / 1099511627776 % 256 : Nat) : Int) = ((byteOf (xv r0 r1 r2 r3 r4 4) 24 : Nat) : Int) := by
  rw [mix_ge (Nat.le_refl _), or_u8 _ _ (byteOf_lt _ _) (Nat.mod_lt _ (by omega))]
  congr 1
  rw [xv_next3, show 24 = 19 + 5 from rfl, byteOf_add_hi, byteOf_hi']
  exact orb_1_5 _ r3 (xv_div3 h0 h1 h2 h3 h4)
theorem kor3_6 {r0 r1 r2 r3 r4 : Nat} (h0 : r0 < 2251799813685248) (h1 : r1 < 2251799813685248) (h2 : r2 < 2251799813685248) (h3 : r3 < 2251799813685248) (h4 : r4 < 2251799813685248) : bits .or .u8 ((mix (xv r0 r1 r2 r3 r4 3) (xv r0 r1 r2 r3 r4 4) 25 25 : Nat) : Int) ((r3 * 2 / 281474976710656 % 256 : Nat) : Int) = ((byteOf (xv r0 r1 r2 r3 r4 4) 25 : Nat) : Int) := by
  rw [mix_ge (Nat.le_refl _), or_u8 _ _ (byteOf_lt _ _) (Nat.mod_lt _ (by omega))]
  congr 1
  rw [xv_next3, show 25 = 19 + 6 from rfl, byteOf_add_hi, byteOf_hi']
  exact orb_1_6 _ r3 (xv_div3 h0 h1 h2 h3 h4)
theorem kor3_7 {r0 r1 r2 r3 r4 : Nat} (h0 : r0 < 2251799813685248) (h1 : r1 < 2251799813685248) (h2 : r2 < 2251799813685248) (h3 : r3 < 2251799813685248) (h4 : r4 < 2251799813685248) : bits .or .u8 ((mix (xv r0 r1 r2 r3 r4 3) (xv r0 r1 r2 r3 r4 4) 26 26 : Nat) : Int) ((r3 * 2 / 72057594037927936 % 256 : Nat) : Int) = ((byteOf (xv r0 r1 r2 r3 r4 4) 26 : Nat) : Int) := by
  rw [mix_ge (Nat.le_refl _), or_u8 _ _ (byteOf_lt _ _) (Nat.mod_lt _ (by omega))]
  congr 1
  rw [xv_next3, show 26 = 19 + 7 from rfl, byteOf_add_hi, byteOf_hi']
  exact orb_1_7 _ r3 (xv_div3 h0 h1 h2 h3 h4)
theorem xv_next4 (r0 r1 r2 r3 r4 : Nat) : xv r0 r1 r2 r3 r4 5 = xv r0 r1 r2 r3 r4 4 + r4 * 16 * 256 ^ 25 := by
  rfl
theorem xv_lt4 {r0 r1 r2 r3 r4 : Nat} (h0 : r0 < 2251799813685248) (h1 : r1 < 2251799813685248) (h2 : r2 < 2251799813685248) (h3 : r3 < 2251799813685248) (h4 : r4 < 2251799813685248) : xv r0 r1 r2 r3 r4 4 < 16 * 256 ^ 25 := by
  unfold xv; simp only [Nat.reducePow]; omega
theorem xv_div4 {r0 r1 r2 r3 r4 : Nat} (h0 : r0 < 2251799813685248) (h1 : r1 < 2251799813685248) (h2 : r2 < 2251799813685248) (h3 : r3 < 2251799813685248) (h4 : r4 < 2251799813685248) : xv r0 r1 r2 r3 r4 4 / 256 ^ 25 < 16 := by
  rw [Nat.div_lt_iff_lt_mul (Nat.pow_pos (by omega))]
  exact xv_lt4 h0 h1 h2 h3 h4
theorem kstart4 (r0 r1 r2 r3 r4 : Nat) : kArr (byteOf (xv r0 r1 r2 r3 r4 4)) = kArr (mix (xv r0 r1 r2 r3 r4 4) (xv r0 r1 r2 r3 r4 5) 25) := by
  apply kArr_congr
  intro b hb
  by_cases h : b < 25
  · rw [mix_lt h, xv_next4, byteOf_add_lo h]
  · rw [mix_ge (by omega)]
theorem kend4 {r0 r1 r2 r3 r4 : Nat} (h0 : r0 < 2251799813685248) (h1 : r1 < 2251799813685248) (h2 : r2 < 2251799813685248) (h3 : r3 < 2251799813685248) (h4 : r4 < 2251799813685248) : kArr (mix (xv r0 r1 r2 r3 r4 4) (xv r0 r1 r2 r3 r4 5) 33) = kArr (byteOf (xv r0 r1 r2 r3 r4 5)) := by
  apply kArr_congr
  intro b hb
  by_cases h : b < 33
  · rw [mix_lt h]
  · have hp : 256 ^ 33 ≤ 256 ^ b := Nat.pow_le_pow_right (by omega) (by omega)
    have l1 := xv_lt4 h0 h1 h2 h3 h4
    have l2 : xv r0 r1 r2 r3 r4 5 < 256 ^ 33 := by
      rw [xv_next4]
      have : 16 * 256 ^ 25 + 2251799813685248*16 * 256 ^ 25 ≤ 256 ^ 33 := by decide
      have m : r4 * 16 * 256 ^ 25 ≤ 2251799813685248*16 * 256 ^ 25 := Nat.mul_le_mul_right _ (Nat.mul_le_mul_right _ (Nat.le_of_lt h4))
      exact Nat.lt_of_lt_of_le (Nat.add_lt_add_of_lt_of_le l1 m) this
    rw [mix_ge (by omega), byteOf_zero (Nat.lt_of_lt_of_le l2 hp), byteOf_zero (Nat.lt_of_lt_of_le (Nat.lt_of_le_of_lt (by rw [xv_next4]; exact Nat.le_add_right _ _) l2) hp)]
theorem kor4_0 {r0 r1 r2 r3 r4 : Nat} (h0 : r0 < 2251799813685248) (h1 : r1 < 2251799813685248) (h2 : r2 < 2251799813685248) (h3 : r3 < 2251799813685248) (h4 : r4 < 2251799813685248) : bits .or .u8 ((mix (xv r0 r1 r2 r3 r4 4) (xv r0 r1 r2 r3 r4 5) 25 25 : Nat) : Int) ((r4 * 16 / 1 % 256 : Nat) : Int) = ((byteOf (xv r0 r1 r2 r3 r4 5) 25 : Nat) : Int) := by
  rw [mix_ge (Nat.le_refl _), or_u8 _ _ (byteOf_lt _ _) (Nat.mod_lt _ (by omega))]
  congr 1
  rw [xv_next4, show 25 = 25 + 0 from rfl, byteOf_add_hi, byteOf_hi']
  exact orb_4_0 _ r4 (xv_div4 h0 h1 h2 h3 h4)
theorem kor4_1 {r0 r1 r2 r3 r4 : Nat} (h0 : r0 < 2251799813685248) (h1 : r1 < 2251799813685248) (h2 : r2 < 2251799813685248) (h3 : r3 < 2251799813685248) (h4 : r4 < 2251799813685248) : bits .or .u8 ((mix (xv r0 r1 r2 r3 r4 4) (xv r0 r1 r2 r3 r4 5) 26 26 : Nat) : Int) ((r4 * 16 / 256 % 256 : Nat) : Int) = ((byteOf (xv r0 r1 r2 r3 r4 5) 26 : Nat) : Int) := by
  rw [mix_ge (Nat.le_refl _), or_u8 _ _ (byteOf_lt _ _) (Nat.mod_lt _ (by omega))]
  congr 1
  rw [xv_next4, show 26 = 25 + 1 from rfl, byteOf_add_hi, byteOf_hi']
  exact orb_4_1 _ r4 (xv_div4 h0 h1 h2 h3 h4)
theorem kor4_2 {r0 r1 r2 r3 r4 : Nat} (h0 : r0 < 2251799813685248) (h1 : r1 < 2251799813685248) (h2 : r2 < 2251799813685248) (h3 : r3 < 2251799813685248) (h4 : r4 < 2251799813685248) : bits .or .u8 ((mix (xv r0 r1 r2 r3 r4 4) (xv r0 r1 r2 r3 r4 5) 27 27 : Nat) : Int) ((r4 * 16 / 65536 % 256 : Nat) : Int) = ((byteOf (xv r0 r1 r2 r3 r4 5) 27 : Nat) : Int) := by
  rw [mix_ge (Nat.le_refl _), or_u8 _ _ (byteOf_lt _ _) (Nat.mod_lt _ (by omega))]
  congr 1
  rw [xv_next4, show 27 = 25 + 2 from rfl, byteOf_add_hi, byteOf_hi']
  exact orb_4_2 _ r4 (xv_div4 h0 h1 h2 h3 h4)
theorem kor4_3 {r0 r1 r2 r3 r4 : Nat} (h0 : r0 < 2251799813685248) (h1 : r1 < 2251799813685248) (h2 : r2 < 2251799813685248) (h3 : r3 < 2251799813685248) (h4 : r4 < 2251799813685248) : bits .or .u8 ((mix (xv r0 r1 r2 r3 r4 4) (xv r0 r1 r2 r3 r4 5) 28 28 : Nat) : Int) ((r4 * 16 / 16777216 % 256 : Nat) : Int) = ((byteOf (xv r0 r1 r2 r3 r4 5) 28 : Nat) : Int) := by
  rw [mix_ge (Nat.le_refl _), or_u8 _ _ (byteOf_lt _ _) (Nat.mod_lt _ (by omega))]
  congr 1
  rw [xv_next4, show 28 = 25 + 3 from rfl, byteOf_add_hi, byteOf_hi']
  exact orb_4_3 _ r4 (xv_div4 h0 h1 h2 h3 h4)
theorem kor4_4 {r0 r1 r2 r3 r4 : Nat} (h0 : r0 < 2251799813685248) (h1 : r1 < 2251799813685248) (h2 : r2 < 2251799813685248) (h3 : r3 < 2251799813685248) (h4 : r4 < 2251799813685248) : bits .or .u8 ((mix (xv r0 r1 r2 r3 r4 4) (xv r0 r1 r2 r3 r4 5) 29 29 : Nat) : Int) ((r4 * 16 / 4294967296 % 256 : Nat) : Int) = ((byteOf (xv r0 r1 r2 r3 r4 5) 29 : Nat) : Int) := by
  rw [mix_ge (Nat.le_refl _), or_u8 _ _ (byteOf_lt _ _) (Nat.mod_lt _ (by omega))]
  congr 1
  rw [xv_next4, show 29 = 25 + 4 from rfl, byteOf_add_hi, byteOf_hi']
  exact orb_4_4 _ r4 (xv_div4 h0 h1 h2 h3 h4)
theorem kor4_5 {r0 r1 r2 r3 r4 : Nat} (h0 : r0 < 2251799813685248) (h1 : r1 < 2251799813685248) (h2 : r2 < 2251799813685248) (h3 : r3 < 2251799813685248) (h4 : r4 < 2251799813685248) : bits .or .u8 ((mix (xv r0 r1 r2 r3 r4 4) (xv r0 r1 r2 r3 r4 5) 30 30 : Nat) : Int) ((r4 * 16 / 1099511627776 % 256 : Nat) : Int) = ((byteOf (xv r0 r1 r2 r3 r4 5) 30 : Nat) : Int) := by
  rw [mix_ge (Nat.le_refl _), or_u8 _ _ (byteOf_lt _ _) (Nat.mod_lt _ (by omega))]
  congr 1
  rw [xv_next4, show 30 = 25 + 5 from rfl, byteOf_add_hi, byteOf_hi']
  exact orb_4_5 _ r4 (xv_div4 h0 h1 h2 h3 h4)
theorem kor4_6 {r0 r1 r2 r3 r4 : Nat} (h0 : r0 < 2251799813685248) (h1 : r1 < 2251799813685248) (h2 : r2 < 2251799813685248) (h3 : r3 < 2251799813685248) (h4 : r4 < 2251799813685248) : bits .or .u8 ((mix (xv r0 r1 r2 r3 r4 4) (xv r0 r1 r2 r3 r4 5) 31 31 : Nat) : Int) ((r4 * 16 / 281474976710656 % 256 : Nat) : Int) = ((byteOf (xv r0 r1 r2 r3 r4 5) 31 : Nat) : Int) := by
  rw [mix_ge (Nat.le_refl _), or_u8 _ _ (byteOf_lt _ _) (Nat.mod_lt _ (by omega))]
  congr 1
  rw [xv_next4, show 31 = 25 + 6 from rfl, byteOf_add_hi, byteOf_hi']
  exact orb_4_6 _ r4 (xv_div4 h0 h1 h2 h3 h4)
end Go.Proofs.YtdmioipdmdmkhaaDoor
