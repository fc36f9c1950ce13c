/- Plain laws of numbers modulo p: inverses. -/
import Derived.Test.YtdmioipdmdmkhaaDoorB0
import Derived.Test.YtdmioipdmdmkhaaDoorP1
set_option linter.unusedVariables false
set_option linter.unusedSimpArgs false
namespace Go.Proofs.YtdmioipdmdmkhaaDoor
open Go.RowKit

theorem pSquares (x y : Nat) (hy : y < pr) : (x + y) % pr * subP x y % pr = subP (x * x % pr) (y * y % pr) := by
  unfold subP
  rw [← Nat.mul_mod]
  refine sub_mod_m (m := x + y) ?_
  obtain ⟨z, hz⟩ : ∃ z, pr = y + z := ⟨pr - y, by omega⟩
  rw [hz, Nat.add_sub_cancel_left]
  simp only [Nat.add_mul, Nat.mul_add, Nat.mul_comm, Nat.add_comm, Nat.add_left_comm, Nat.add_assoc]
theorem zero_powP : ∀ n, 0 < n → powP 0 n = 0 := fun n h => by unfold powP; rw [Nat.zero_pow h]; exact Nat.zero_mod _
theorem inv_zero : powP 0 invE = 0 := zero_powP _ (by decide +kernel)
theorem inv_ne {x : Nat} (h : x % pr ≠ 0) : powP x invE % pr ≠ 0 := fun h0 => by
  have h1 := inv_mul h
  rw [Nat.mul_mod, h0, Nat.mul_zero] at h1
  exact absurd h1 (by decide)
theorem inv_inv {x : Nat} (hx : x < pr) : powP (powP x invE) invE = x := by
  rcases Nat.eq_zero_or_pos x with rfl | h0
  · rw [inv_zero, inv_zero]
  · have hm : x % pr ≠ 0 := by rw [Nat.mod_eq_of_lt hx]; omega
    have h1 := inv_mul hm
    have h2 := inv_mul (inv_ne hm)
    have lz : powP (powP x invE) invE < pr := powP_lt _ _
    generalize powP (powP x invE) invE = z at h2 lz
    generalize powP x invE = y at h1 h2
    have e : x * y * z % pr = x * (y * z) % pr := by rw [Nat.mul_assoc]
    rw [← Nat.mod_mul_mod, h1, Nat.one_mul, Nat.mod_eq_of_lt lz, ← Nat.mul_mod_mod, h2, Nat.mul_one, Nat.mod_eq_of_lt hx] at e
    exact e
theorem pBackAdd (x y : Nat) (hx : x < pr) (hy : y < pr) : subP ((x + y) % pr) y = x := by
  unfold subP
  rw [Nat.mod_add_mod, show x + y + (pr - y) = x + pr by omega, Nat.add_mod_right, Nat.mod_eq_of_lt hx]
theorem pBackSub (x y : Nat) (hx : x < pr) (hy : y < pr) : (subP x y + y) % pr = x := by
  unfold subP
  rw [Nat.mod_add_mod, show x + (pr - y) + y = x + pr by omega, Nat.add_mod_right, Nat.mod_eq_of_lt hx]
theorem pAddZero (x : Nat) (hx : x < pr) : (x + 0) % pr = x := Nat.mod_eq_of_lt hx
theorem pMulOne (x : Nat) (hx : x < pr) : x * 1 % pr = x := by rw [Nat.mul_one, Nat.mod_eq_of_lt hx]
theorem pMulZero (x : Nat) : x * 0 % pr = 0 := by rw [Nat.mul_zero, Nat.zero_mod]
theorem pSubSelf (x : Nat) (hx : x < pr) : subP x x = 0 := by
  unfold subP
  rw [show x + (pr - x) = pr by omega, Nat.mod_self]
theorem pInvOne (x : Nat) (hx : x < pr) : decide (x * powP x invE % pr = 1) = !decide (x = 0) ∧ decide (x * powP x invE % pr = 0) = decide (x = 0) := by
  rcases Nat.eq_zero_or_pos x with rfl | h0
  · rw [Nat.zero_mul]; decide
  · have hm : x % pr ≠ 0 := by rw [Nat.mod_eq_of_lt hx]; omega
    have hz : x ≠ 0 := by omega
    rw [inv_mul hm]
    simp [hz]

end Go.Proofs.YtdmioipdmdmkhaaDoor
