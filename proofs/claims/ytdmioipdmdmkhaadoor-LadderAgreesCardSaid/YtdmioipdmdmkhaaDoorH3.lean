/- A walk by rules: octets and natural numbers. -/
import Derived.Test.YtdmioipdmdmkhaaDoorH2
import Derived.Test.YtdmioipdmdmkhaaDoorE3
set_option linter.unusedVariables false
set_option linter.unusedSimpArgs false
namespace Go.Proofs.YtdmioipdmdmkhaaDoor
open Go Go.RowKit
theorem bv8 (a : Nat) (ha : a < 256) : (BitVec.ofInt 8 (a : Int)).toNat = a := by
  rw [BitVec.ofInt_natCast, BitVec.toNat_ofNat]
  exact Nat.mod_eq_of_lt (by simpa using ha)
theorem bv64 (a : Nat) (ha : a < 18446744073709551616) : (BitVec.ofInt 64 (a : Int)).toNat = a := by
  rw [BitVec.ofInt_natCast, BitVec.toNat_ofNat]
  exact Nat.mod_eq_of_lt (by simpa using ha)
theorem wr8 {a : Nat} (h : a < 256) : IntKind.u8.wrap (a : Int) = a := by rw [IntKind.wrap_u8]; omega
theorem wru64 {a : Nat} (h : a < 18446744073709551616) : IntKind.u64.wrap (a : Int) = a := by
  have : IntKind.u64.wrap (a : Int) = (a : Int) % 18446744073709551616 := by first | exact IntKind.wrap_u64 | rfl
  rw [this]; omega
theorem i_and8 {a b : Nat} (ha : a < 256) (hb : b < 256) : intRes .and .u8 a b = some (.int .u8 ((a &&& b : Nat) : Int)) := by
  have h : (BitVec.ofInt 8 (a : Int) &&& BitVec.ofInt 8 (b : Int)).toNat = a &&& b := by rw [BitVec.toNat_and, bv8 a ha, bv8 b hb]
  show some (Value.int .u8 (IntKind.u8.wrap ((BitVec.ofInt 8 (a : Int) &&& BitVec.ofInt 8 (b : Int)).toNat : Int))) = _
  rw [h, wr8 (Nat.lt_of_le_of_lt Nat.and_le_left ha)]
theorem i_or8 {a b : Nat} (ha : a < 256) (hb : b < 256) : intRes .or .u8 a b = some (.int .u8 ((a ||| b : Nat) : Int)) := by
  have h : (BitVec.ofInt 8 (a : Int) ||| BitVec.ofInt 8 (b : Int)).toNat = a ||| b := by rw [BitVec.toNat_or, bv8 a ha, bv8 b hb]
  show some (Value.int .u8 (IntKind.u8.wrap ((BitVec.ofInt 8 (a : Int) ||| BitVec.ofInt 8 (b : Int)).toNat : Int))) = _
  rw [h, wr8 (Nat.or_lt_two_pow (n := 8) ha hb)]
theorem i_xor8 {a b : Nat} (ha : a < 256) (hb : b < 256) : intRes .xor .u8 a b = some (.int .u8 ((a ^^^ b : Nat) : Int)) := by
  have h : (BitVec.ofInt 8 (a : Int) ^^^ BitVec.ofInt 8 (b : Int)).toNat = a ^^^ b := by rw [BitVec.toNat_xor, bv8 a ha, bv8 b hb]
  show some (Value.int .u8 (IntKind.u8.wrap ((BitVec.ofInt 8 (a : Int) ^^^ BitVec.ofInt 8 (b : Int)).toNat : Int))) = _
  rw [h, wr8 (Nat.xor_lt_two_pow (n := 8) ha hb)]
theorem i_quo64 {a b : Nat} (hb : 0 < b) (ha : a < 9223372036854775808) : intRes .quo .i64 a b = some (.int .i64 ((a / b : Nat) : Int)) := by
  have h0 : (b : Int) ≠ 0 := by omega
  have h1 : a / b ≤ a := Nat.div_le_self _ _
  simp only [intRes, if_neg h0]
  rw [Int.tdiv_eq_ediv_of_nonneg (by omega), ← Int.natCast_ediv]
  generalize a / b = q at *
  rw [wr_i64 ⟨by omega, by omega⟩]
theorem i_rem64 {a b : Nat} (hb : 0 < b) : intRes .rem .i64 a b = some (.int .i64 ((a % b : Nat) : Int)) := by
  have h0 : (b : Int) ≠ 0 := by omega
  simp only [intRes, if_neg h0]
  rw [Int.tmod_eq_emod_of_nonneg (by omega), ← Int.natCast_emod]
theorem i_eqn {k : IntKind} {a b : Nat} : intRes .eql k a b = some (.bool (a == b)) := by
  simp only [intRes, Option.some.injEq, Value.bool.injEq]
  rw [Bool.eq_iff_iff]; simp [Int.natCast_inj]
theorem shr8 {a n : Nat} (hn : n ≤ 8) : (Value.int .u8 ((a >>> n : Nat) : Int)) = .int .u8 ((a : Int).fdiv (2 ^ min ((n : Int)).toNat IntKind.u8.bits)) := by
  have h : min ((n : Int)).toNat IntKind.u8.bits = n := by
    simp only [Int.toNat_natCast]
    exact Nat.min_eq_left hn
  rw [h, Nat.shiftRight_eq_div_pow, Int.natCast_ediv, Int.natCast_pow]
  congr 1
  exact (Int.fdiv_eq_ediv_of_nonneg _ (Int.le_of_lt (Int.pow_pos (by decide)))).symm
theorem kArr_upd (f : Nat → Nat) {i : Nat} (h : i < 32) (v : Nat) : (kArr f).setIfInBounds i (.int .u8 v) = kArr (upd f i v) := by
  refine Array.ext_getElem? fun j => ?_
  have hs : (kArr f).size = 32 := rfl
  have hs2 : (kArr (upd f i v)).size = 32 := rfl
  rw [Array.getElem?_setIfInBounds]
  by_cases e : i = j
  · subst e
    rw [if_pos rfl, if_pos (by rw [hs]; exact h), kArr_get _ h]
    simp [upd]
  · rw [if_neg e]
    rcases Nat.lt_or_ge j 32 with hj | hj
    · rw [kArr_get _ hj, kArr_get _ hj]
      simp [upd, Ne.symm e]
    · rw [Array.getElem?_eq_none (by rw [hs]; exact hj), Array.getElem?_eq_none (by rw [hs2]; exact hj)]
theorem R_neqb {P : Program} {o : Oper} {V : List (Nat × Value)} {t t' : TypeId} {x y : Operand} (ho : o.op = .binOp .neq t x y t') {a b : Bool} (hx : evV V x = .bool a) (hy : evV V y = .bool b) (hu : P.underlying t = some .bool) {v : Bool} (hv : (a != b) = v) (w : World) : (execOp (evV V) o).run P w = .ok (.value (.bool v)) w := by
  subst hv
  have he : (Op.equalIn (9999 + 1) t (.bool a) (.bool b)).run P w = .ok (a == b) w := by
    unfold Op.equalIn
    rw [Sem.run_bind, run_underlying hu w]
    rfl
  unfold execOp
  simp only [ho, hx, hy]
  have hq : (Op.equal t (.bool a) (.bool b)).run P w = .ok (a == b) w := he
  simp [eqGuard, binOp, hq, Sem.run_bind, Sem.run_pure, go_sem]
  cases a <;> cases b <;> rfl
end Go.Proofs.YtdmioipdmdmkhaaDoor
