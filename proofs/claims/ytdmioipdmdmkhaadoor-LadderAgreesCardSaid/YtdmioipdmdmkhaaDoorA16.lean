/- Plain facts on the chapter's examples. -/
import Derived.Test.YtdmioipdmdmkhaaDoorA15
set_option linter.unusedVariables false
set_option linter.unusedSimpArgs false
namespace Go.Proofs.YtdmioipdmdmkhaaDoor
open Go.RowKit

/-! ### Two, inverted -/
def mI : Nat → Nat
  | 0 => 2
  | i + 1 => mI i * mI i % pr * 2 % pr
theorem mI_pow : ∀ i, powP 2 (eI i) = mI i
  | 0 => by rw [eI, mI]; exact pow_one 2 (by decide)
  | i + 1 => by
    rw [eI, mI, ← pow_mul_self 2 _ (by decide), show eI i * 2 = eI i + eI i by omega, ← pow_mul_pow, mI_pow i]
def s5 (n : Nat) : Nat := let a := n * n % pr; let b := a * a % pr; let c := b * b % pr; let d := c * c % pr; d * d % pr
theorem sq5 (x n : Nat) : sqN (powP x n) 5 = powP x (n * 32) := by
  have := sq_pow x n 5
  rwa [show (2 : Nat) ^ 5 = 32 from rfl] at this
theorem two_inv : powP 2 invE * 2 % pr = 1 := by
  have h : powP 2 invE = s5 (mI 249) * 2048 % pr := by
    rw [← eI_end, ← pow_mul_pow, ← sq5, mI_pow]
    generalize mI 249 = m
    rfl
  rw [h]
  decide +kernel
theorem minus_key : byteOf (subP 0 1) 0 = 236 ∧ byteOf (subP 0 1) 1 = 255 ∧ byteOf (subP 0 1) 31 = 127 ∧ subP 0 1 = pr - 1 := by decide +kernel
theorem kArr_get (g : Nat → Nat) : ∀ {i : Nat}, i < 32 → (kArr g)[i]? = some (.int .u8 (g i : Nat))
  | 0, _ => rfl
  | 1, _ => rfl
  | 2, _ => rfl
  | 3, _ => rfl
  | 4, _ => rfl
  | 5, _ => rfl
  | 6, _ => rfl
  | 7, _ => rfl
  | 8, _ => rfl
  | 9, _ => rfl
  | 10, _ => rfl
  | 11, _ => rfl
  | 12, _ => rfl
  | 13, _ => rfl
  | 14, _ => rfl
  | 15, _ => rfl
  | 16, _ => rfl
  | 17, _ => rfl
  | 18, _ => rfl
  | 19, _ => rfl
  | 20, _ => rfl
  | 21, _ => rfl
  | 22, _ => rfl
  | 23, _ => rfl
  | 24, _ => rfl
  | 25, _ => rfl
  | 26, _ => rfl
  | 27, _ => rfl
  | 28, _ => rfl
  | 29, _ => rfl
  | 30, _ => rfl
  | 31, _ => rfl
  | i + 32, h => absurd h (by omega)
def allY : Nat := 115792089237316195423570985008687907853269984665640564039457584007913129639935
theorem allY_byte : ∀ m, m < 32 → 255 = byteOf allY m := by decide +kernel
theorem allY_val : kVal (byteOf allY) = allY := by unfold kVal; exact kNum_bytes _ 32 (by decide +kernel)
theorem minus_val : kVal (byteOf (subP 0 1)) = pr - 1 := by
  unfold kVal
  rw [minus_key.2.2.2]
  exact kNum_bytes _ 32 (by decide +kernel)
theorem all_el : allY % 57896044618658097711785492504343953926634992332820282019728792003956564819968 % pr = 18 := by decide +kernel

end Go.Proofs.YtdmioipdmdmkhaaDoor
