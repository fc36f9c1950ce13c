/- Plain laws of numbers modulo p. -/
import Derived.Test.YtdmioipdmdmkhaaDoorA18
set_option linter.unusedVariables false
set_option linter.unusedSimpArgs false
namespace Go.Proofs.YtdmioipdmdmkhaaDoor
open Go.RowKit

theorem equal_true {v u : Value} {x y : Nat} (hv : El v x) (hu : El u y) (h : x = y) (w : World) : Calls Tryd.prog 27 #[v, u] w fun r w' => r = .returned (.bool true) ∧ Below w.heap.size w w' := by
  have := equal_any hv hu w
  rwa [decide_eq_true h] at this
theorem pAdd_assoc (a b c : Nat) : ((a + b) % pr + c) % pr = (a + (b + c) % pr) % pr := by rw [Nat.mod_add_mod, Nat.add_mod_mod, Nat.add_assoc]
theorem pMul_assoc (a b c : Nat) : a * b % pr * c % pr = a * (b * c % pr) % pr := by simp only [Nat.mul_mod_mod, Nat.mod_mul_mod, Nat.mul_assoc]
theorem pDist (a b c : Nat) : a * ((b + c) % pr) % pr = (a * b % pr + a * c % pr) % pr := by simp only [Nat.mul_mod_mod, Nat.add_mod_mod, Nat.mod_add_mod, Nat.mul_add]
theorem sub_mod_m {d a b m : Nat} (h : d + b = a + m * pr) : d % pr = subP (a % pr) (b % pr) := by
  have e1 : (d + 4 * pr) + b = (a + m * pr) + 4 * pr := by omega
  have e2 := sub_mod (d := d + 4 * pr) (a := a + m * pr) (b := b) e1
  rwa [Nat.add_mul_mod_self_right, Nat.add_mul_mod_self_right] at e2
theorem pDistSub (a b c : Nat) (hc : c < pr) : a * subP b c % pr = subP (a * b % pr) (a * c % pr) := by
  unfold subP
  rw [Nat.mul_mod_mod]
  refine sub_mod_m (m := a) ?_
  rw [← Nat.mul_add, Nat.add_assoc, Nat.sub_add_cancel (Nat.le_of_lt hc), Nat.mul_add]
theorem pow_sum (x n k : Nat) : powP x (n + k) = powP x n * powP x k % pr := (pow_mul_pow x n k).symm
theorem pow_prod (x y n : Nat) : powP (x * y % pr) n = powP x n * powP y n % pr := by
  unfold powP
  rw [← Nat.pow_mod, Nat.mul_pow, Nat.mul_mod]

end Go.Proofs.YtdmioipdmdmkhaaDoor
