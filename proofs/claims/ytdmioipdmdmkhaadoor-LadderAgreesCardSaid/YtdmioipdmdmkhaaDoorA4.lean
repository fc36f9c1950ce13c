/- math/bits.Mul64, math/bits.Add64, and (*wide).add of package field. -/
import Derived.Test.YtdmioipdmdmkhaaDoorA1
import Derived.Lib.Mul64
import Derived.Laws.Externs
set_option linter.unusedVariables false
set_option linter.unusedSimpArgs false
namespace Go.Proofs.YtdmioipdmdmkhaaDoor
open Go.RowKit

namespace Mul
theorem maskN (a : Nat) (ha : a < 18446744073709551616) : bits .and .u64 (a : Int) 4294967295 = ((a % 4294967296 : Nat) : Int) := by
  have h := bits_and_u64_nat a 4294967295 ha (by omega)
  have e : a &&& 4294967295 = a % 4294967296 := Nat.and_two_pow_sub_one_eq_mod a 32
  rw [e] at h
  exact h
theorem divN (a : Nat) : (a : Int) / 4294967296 = ((a / 4294967296 : Nat) : Int) := by omega
theorem mulN (a b : Nat) : (a : Int) * (b : Int) = ((a * b : Nat) : Int) := (Int.natCast_mul a b).symm
theorem addN (a b : Nat) : (a : Int) + (b : Int) = ((a + b : Nat) : Int) := (Int.natCast_add a b).symm
theorem wrapN (a : Nat) (ha : a < 18446744073709551616) : IntKind.u64.wrap (a : Int) = (a : Int) := by rw [IntKind.wrap_u64]; omega
theorem wrapM (a : Nat) : IntKind.u64.wrap (a : Int) = ((a % 18446744073709551616 : Nat) : Int) := by rw [IntKind.wrap_u64]; omega
end Mul

set_option maxHeartbeats 1000000 in
theorem mul64_any (x y : Nat) (hx : x < 18446744073709551616) (hy : y < 18446744073709551616) (w : World) :
    Calls Tryd.prog 66 #[.int .u64 x, .int .u64 y] w fun e w' => e = .returned (.tuple #[.int .u64 ((x * y / 18446744073709551616 : Nat) : Int), .int .u64 ((x * y % 18446744073709551616 : Nat) : Int)]) ∧ w' = w := by
  obtain ⟨bd, bt, bw, hhi⟩ := Lib.mul64_hi x y hx hy
  have ba := Lib.half_mul_le (a := x / 4294967296) (b := y / 4294967296) (by omega) (by omega)
  have bb := Lib.half_mul_le (a := x / 4294967296) (b := y % 4294967296) (by omega) (by omega)
  have bc := Lib.half_mul_le (a := x % 4294967296) (b := y / 4294967296) (by omega) (by omega)
  have ba' : x / 4294967296 * (y / 4294967296) < 18446744073709551616 := by omega
  have bb' : x / 4294967296 * (y % 4294967296) < 18446744073709551616 := by omega
  have bc' : x % 4294967296 * (y / 4294967296) < 18446744073709551616 := by omega
  have bh1 : x / 4294967296 * (y / 4294967296) + (x / 4294967296 * (y % 4294967296) + x % 4294967296 * (y % 4294967296) / 4294967296) / 4294967296 < 18446744073709551616 := by omega
  have bh : x / 4294967296 * (y / 4294967296) + (x / 4294967296 * (y % 4294967296) + x % 4294967296 * (y % 4294967296) / 4294967296) / 4294967296 + ((x / 4294967296 * (y % 4294967296) + x % 4294967296 * (y % 4294967296) / 4294967296) % 4294967296 + x % 4294967296 * (y / 4294967296)) / 4294967296 < 18446744073709551616 := by
    rw [hhi]
    have : x * y < 18446744073709551616 * 18446744073709551616 := Nat.mul_lt_mul'' hx hy
    omega
  go_enter Tryd.func66, Tryd.ntmps66
  go_wp2
  simp only [Mul.maskN x hx, Mul.maskN y hy, Mul.divN, Mul.mulN, Mul.addN, Mul.wrapN _ bd, Mul.wrapN _ bb', Mul.wrapN _ bt, Mul.maskN _ bt, Mul.wrapN _ bc', Mul.wrapN _ bw, Mul.wrapN _ ba', Mul.wrapN _ bh1, Mul.wrapN _ bh, Mul.wrapM (x * y)]
  rw [hhi]
  go_ret2
  exact ⟨rfl, rfl⟩

theorem add64_run (x y c : Nat) (hc : c ≤ 1) (w : World) :
    (callFunc 58 #[.int .u64 x, .int .u64 y, .int .u64 c]).run Tryd.prog w =
      .ok (.value (.tuple #[.int .u64 (((x + y + c) % 18446744073709551616 : Nat) : Int), .int .u64 (((x + y + c) / 18446744073709551616 : Nat) : Int)])) w := by
  rw [run_callFunc_extern Tryd.func58 (by kernel_rfl) (by kernel_rfl) (by kernel_rfl) (e := add64Entry) (by kernel_rfl), run_add64 x y c (by omega) (by omega) (by omega) (by omega)]
  simp only [Result.andThen]
  congr 5 <;> omega

theorem two_words {h l x y : Nat} (hl : l < 18446744073709551616) (hfit : h * 18446744073709551616 + l + x * y < 340282366920938463463374607431768211456) :
    h + x * y / 18446744073709551616 + (l + x * y % 18446744073709551616) / 18446744073709551616 < 18446744073709551616 ∧
    (h + x * y / 18446744073709551616 + (l + x * y % 18446744073709551616) / 18446744073709551616) * 18446744073709551616 + (l + x * y % 18446744073709551616) % 18446744073709551616 = h * 18446744073709551616 + l + x * y := by
  generalize x * y = z at *
  omega
set_option maxRecDepth 100000 in
set_option maxHeartbeats 2000000 in
/-- add: the sum in two words, if it fits. -/
theorem wadd_any (b off h l x y : Nat) (w : World) (ch : w.cell? ⟨b, off, none⟩ = some (.int .u64 h)) (cl : w.cell? ⟨b, off + 1, none⟩ = some (.int .u64 l)) (fh : w.frozen? ⟨b, off, none⟩ = false) (fl : w.frozen? ⟨b, off + 1, none⟩ = false)
    (hl : l < 18446744073709551616) (hx : x < 18446744073709551616) (hy : y < 18446744073709551616) (hfit : h * 18446744073709551616 + l + x * y < 340282366920938463463374607431768211456) :
    Calls Tryd.prog 57 #[.pointer (some ⟨b, off, none⟩), .int .u64 x, .int .u64 y] w fun e w' => e = .returned (.tuple #[]) ∧ ∃ t s : Nat, w' = (w.setCell ⟨b, off + 1, none⟩ (.int .u64 s)).setCell ⟨b, off, none⟩ (.int .u64 t) ∧ t < 18446744073709551616 ∧ s < 18446744073709551616 ∧ t * 18446744073709551616 + s = h * 18446744073709551616 + l + x * y := by
  have HM := Lib.hid (mul64_any x y hx hy)
  obtain ⟨f1, f2⟩ := two_words hl hfit
  obtain ⟨p, hp⟩ : ∃ p : Nat, p = x * y / 18446744073709551616 := ⟨_, rfl⟩
  obtain ⟨q, hq⟩ : ∃ q : Nat, q = x * y % 18446744073709551616 := ⟨_, rfl⟩
  rw [← hp, ← hq] at f1 f2 HM
  obtain ⟨s, hs⟩ : ∃ s : Nat, s = (l + q) % 18446744073709551616 := ⟨_, rfl⟩
  obtain ⟨c, hc⟩ : ∃ c : Nat, c = (l + q) / 18446744073709551616 := ⟨_, rfl⟩
  rw [← hc] at f1 f2
  rw [← hs] at f2
  obtain ⟨t, ht⟩ : ∃ t : Nat, t = h + p + c := ⟨_, rfl⟩
  rw [← ht] at f1 f2
  have hs2 : s < 18446744073709551616 := by rw [hs]; omega
  have A1 : ∀ w, (callFunc 58 #[.int .u64 l, .int .u64 q, .int .u64 0]).run Tryd.prog w = .ok (.value (.tuple #[.int .u64 s, .int .u64 c])) w := fun w => by
    have := add64_run l q 0 (by omega) w
    rw [hs, hc]
    simpa using this
  have A2 : ∀ w, (callFunc 58 #[.int .u64 h, .int .u64 p, .int .u64 c]).run Tryd.prog w = .ok (.value (.tuple #[.int .u64 t, .int .u64 0])) w := fun w => by
    have := add64_run h p c (by rw [hc]; omega) w
    rw [← ht, Nat.mod_eq_of_lt f1, Nat.div_eq_of_lt f1] at this
    simpa using this
  have HFIN := Lib.hid (And.intro f1 (And.intro hs2 f2))
  clear hp hq hs hc ht f1 f2 hfit hs2
  go_enter Tryd.func57, Tryd.ntmps57
  go_wp2_with fail
  refine (HM.out _).mono ?_
  rintro e w1 ⟨rfl, rfl⟩
  go_wp2
  go_end0
  exact ⟨rfl, t, s, rfl, HFIN.out⟩

end Go.Proofs.YtdmioipdmdmkhaaDoor
