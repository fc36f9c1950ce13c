/- A walk by rules: words of thirty-two bits, shifts, elements of arrays. -/
import Derived.Test.YtlnlppmhiobgjaaJ2
import Derived.Test.YtlnlppmhiobgjaaS1
set_option linter.unusedVariables false
set_option linter.unusedSimpArgs false
namespace Go.Proofs.Ytlnlppmhiobgjaa
open Go Go.RowKit
theorem wru32 {a : Nat} (h : a < 4294967296) : IntKind.u32.wrap (a : Int) = a := by rw [IntKind.wrap_u32]; omega
theorem bv32 (a : Nat) (ha : a < 4294967296) : (BitVec.ofInt 32 (a : Int)).toNat = a := by
  rw [BitVec.ofInt_natCast, BitVec.toNat_ofNat]
  exact Nat.mod_eq_of_lt (by simpa using ha)
theorem i_add32 {a b : Nat} : intRes .add .u32 a b = some (.int .u32 ((add32 a b : Nat) : Int)) := by
  simp only [intRes, IntKind.wrap_u32, add32]
  rw [← Int.natCast_add]; congr 2
theorem i_and32 {a b : Nat} (ha : a < 4294967296) (hb : b < 4294967296) : intRes .and .u32 a b = some (.int .u32 ((a &&& b : Nat) : Int)) := by
  have h : (BitVec.ofInt 32 (a : Int) &&& BitVec.ofInt 32 (b : Int)).toNat = a &&& b := by rw [BitVec.toNat_and, bv32 a ha, bv32 b hb]
  show some (Value.int .u32 (IntKind.u32.wrap ((BitVec.ofInt 32 (a : Int) &&& BitVec.ofInt 32 (b : Int)).toNat : Int))) = _
  rw [h, wru32 (and32 ha)]
theorem i_or32 {a b : Nat} (ha : a < 4294967296) (hb : b < 4294967296) : intRes .or .u32 a b = some (.int .u32 ((a ||| b : Nat) : Int)) := by
  have h : (BitVec.ofInt 32 (a : Int) ||| BitVec.ofInt 32 (b : Int)).toNat = a ||| b := by rw [BitVec.toNat_or, bv32 a ha, bv32 b hb]
  show some (Value.int .u32 (IntKind.u32.wrap ((BitVec.ofInt 32 (a : Int) ||| BitVec.ofInt 32 (b : Int)).toNat : Int))) = _
  rw [h, wru32 (Nat.or_lt_two_pow (n := 32) ha hb)]
theorem i_xor32 {a b : Nat} (ha : a < 4294967296) (hb : b < 4294967296) : intRes .xor .u32 a b = some (.int .u32 ((a ^^^ b : Nat) : Int)) := by
  have h : (BitVec.ofInt 32 (a : Int) ^^^ BitVec.ofInt 32 (b : Int)).toNat = a ^^^ b := by rw [BitVec.toNat_xor, bv32 a ha, bv32 b hb]
  show some (Value.int .u32 (IntKind.u32.wrap ((BitVec.ofInt 32 (a : Int) ^^^ BitVec.ofInt 32 (b : Int)).toNat : Int))) = _
  rw [h, wru32 (xor32 ha hb)]
theorem i_sub32 {a : Nat} (ha : a < 4294967296) : intRes .sub .u32 ((4294967295 : Nat) : Int) a = some (.int .u32 ((4294967295 - a : Nat) : Int)) := by
  have h : ((4294967295 : Nat) : Int) - (a : Int) = ((4294967295 - a : Nat) : Int) := by omega
  simp only [intRes]
  rw [h, wru32 (by omega)]
theorem i_or64 {a b : Nat} (ha : a < 18446744073709551616) (hb : b < 18446744073709551616) : intRes .or .u64 a b = some (.int .u64 ((a ||| b : Nat) : Int)) := by
  have h : (BitVec.ofInt 64 (a : Int) ||| BitVec.ofInt 64 (b : Int)).toNat = a ||| b := by rw [BitVec.toNat_or, bv64 a ha, bv64 b hb]
  show some (Value.int .u64 (IntKind.u64.wrap ((BitVec.ofInt 64 (a : Int) ||| BitVec.ofInt 64 (b : Int)).toNat : Int))) = _
  rw [h, wru64 (Nat.or_lt_two_pow (n := 64) ha hb)]
theorem i_subn64 {a b : Nat} (h : b ≤ a) (ha : a < 9223372036854775808) : intRes .sub .i64 a b = some (.int .i64 ((a - b : Nat) : Int)) := by
  have e : (a : Int) - (b : Int) = ((a - b : Nat) : Int) := by omega
  simp only [intRes]; rw [e, wr_i64 (by omega)]
theorem i_muln64 {a b : Nat} (h : a * b < 9223372036854775808) : intRes .mul .i64 a b = some (.int .i64 ((a * b : Nat) : Int)) := by
  simp only [intRes]; rw [← Int.natCast_mul, wr_i64 (by omega)]
theorem i_gtn {k : IntKind} {a b : Nat} (h : b < a) : intRes .gtr k a b = some (.bool true) := by
  simp only [intRes, Option.some.injEq, Value.bool.injEq, decide_eq_true_eq]; omega
theorem i_ngtn {k : IntKind} {a b : Nat} (h : a ≤ b) : intRes .gtr k a b = some (.bool false) := by
  simp only [intRes, Option.some.injEq, Value.bool.injEq, decide_eq_false_iff_not]; omega
theorem min_bits {n b : Nat} (h : n ≤ b) : min ((n : Int)).toNat b = n := by
  rw [Int.toNat_natCast]; exact Nat.min_eq_left h
theorem shr_val {k : IntKind} {a n : Nat} (hn : n ≤ k.bits) : (Value.int k ((a >>> n : Nat) : Int)) = .int k ((a : Int).fdiv (2 ^ min ((n : Int)).toNat k.bits)) := by
  rw [min_bits hn, Nat.shiftRight_eq_div_pow, Int.natCast_ediv, Int.natCast_pow]
  congr 1
  exact (Int.fdiv_eq_ediv_of_nonneg _ (Int.le_of_lt (Int.pow_pos (by decide)))).symm
theorem shl32_val {a n : Nat} (hn : n ≤ 32) : (Value.int .u32 (((a <<< n) % 4294967296 : Nat) : Int)) = .int .u32 (IntKind.u32.wrap ((a : Int) * 2 ^ min ((n : Int)).toNat IntKind.u32.bits)) := by
  rw [min_bits (by exact hn), IntKind.wrap_u32, Nat.shiftLeft_eq, Int.natCast_emod, Int.natCast_mul, Int.natCast_pow]
  rfl
theorem shl64_val {a n : Nat} (hn : n ≤ 64) : (Value.int .u64 (((a <<< n) % 18446744073709551616 : Nat) : Int)) = .int .u64 (IntKind.u64.wrap ((a : Int) * 2 ^ min ((n : Int)).toNat IntKind.u64.bits)) := by
  have hw : ∀ x : Int, IntKind.u64.wrap x = x % 18446744073709551616 := fun x => by first | exact IntKind.wrap_u64 _ | rw [IntKind.wrap_u64] | rfl
  rw [min_bits (by exact hn), hw, Nat.shiftLeft_eq, Int.natCast_emod, Int.natCast_mul, Int.natCast_pow]
  rfl
section
variable {P : Program} {o : Oper} {V : List (Nat × Value)}
theorem R_shl {t t' : TypeId} {x y : Operand} (ho : o.op = .binOp .shl t x y t') {k yk : IntKind} {a b : Int} (hx : evV V x = .int k a) (hy : evV V y = .int yk b) (hb : 0 ≤ b) {v : Value} (hv : v = .int k (k.wrap (a * 2 ^ min b.toNat k.bits))) (w : World) : (execOp (evV V) o).run P w = .ok (.value v) w := by
  have hg : (eqGuard .shl t x y (.int k a) (.int yk b)).run P w = .ok () w := by
    unfold eqGuard
    simp [Sem.run_bind, Sem.run_pure, go_sem]
  subst hv
  unfold execOp
  simp only [ho, hx, hy, Sem.run_bind, hg, Result.andThen_ok]
  have : ¬ b < 0 := by omega
  simp [binOp, Op.shift, this, Sem.run_bind, Sem.run_pure, go_sem]
theorem R_not32 {t : TypeId} {x : Operand} (ho : o.op = .unOp .xor t x) {a : Nat} (hx : evV V x = .int .u32 a) (ha : a < 4294967296) (w : World) : (execOp (evV V) o).run P w = .ok (.value (.int .u32 ((4294967295 - a : Nat) : Int))) w := by
  have h1 : (BitVec.ofInt 32 (4294967295 : Int) ^^^ BitVec.ofInt 32 (a : Int)).toNat = 4294967295 - a := by
    have e : BitVec.ofInt 32 (4294967295 : Int) = BitVec.allOnes 32 := by decide
    rw [e, BitVec.allOnes_xor, BitVec.toNat_not, bv32 a ha]
  unfold execOp
  simp only [ho, hx]
  show (Sem.run P (do pure (Next.value (← Op.unary .xor (.int .u32 a)))) w) = _
  have h3 : Op.unary .xor (.int .u32 a) = pure (.int .u32 (IntKind.u32.wrap ((BitVec.ofInt 32 (4294967295 : Int) ^^^ BitVec.ofInt 32 (a : Int)).toNat : Int))) := rfl
  rw [h3, h1, wru32 (by omega)]
  rfl
theorem R_neg64 {t : TypeId} {x : Operand} (ho : o.op = .unOp .neg t x) {a : Nat} (hx : evV V x = .int .i64 a) (ha : a < 9223372036854775808) (w : World) : (execOp (evV V) o).run P w = .ok (.value (.int .i64 (-(a : Int)))) w := by
  unfold execOp
  simp only [ho, hx]
  have h3 : Op.unary .neg (.int .i64 a) = pure (.int .i64 (IntKind.i64.wrap (0 - (a : Int)))) := rfl
  rw [h3, wr_i64 (by omega), Int.zero_sub]
  rfl
/-- An element of an array's value. -/
theorem R_indexV {t e : TypeId} {x y : Operand} (ho : o.op = .index t x y) {len : Nat} (hu : P.underlying t = some (.array len e)) {d : TypeDesc} (hue : P.underlying e = some d) (hd : (match d with | .struct _ | .array _ _ => true | _ => false) = false) (hs : (P.info? e).map (·.size) = some 1) {cs : Array Value} (hx : evV V x = .agg cs) {k : IntKind} (i : Nat) (hy : evV V y = .int k i) (hi : i < len) (v : Value) (hv : cs[i]? = some v) (w : World) :
    (execOp (evV V) o).run P w = .ok (.value v) w := by
  have hsz : (sizeOf e).run P w = .ok 1 w := by
    cases hq : P.info? e with
    | none => simp [hq] at hs
    | some j =>
      have hs' : j.size = 1 := by simpa [hq] using hs
      simp [sizeOf, typeInfo, hq, hs', Sem.run_bind, go_sem]
  have hagg : (isAgg e).run P w = .ok false w := by
    unfold isAgg
    rw [Sem.run_bind, run_underlying hue w]
    cases d <;> simp_all
  have h1 : (0 : Int) ≤ i ∧ (i : Int) < len := by omega
  have h2 : ¬ len ≤ i := by omega
  have hv1 : cs[i]! = v := by
    rw [getElem!_def, hv]
  obtain ⟨hlt, hv2⟩ := Array.getElem?_eq_some_iff.1 hv
  unfold execOp
  simp only [ho, hx, hy]
  simp [Instr.index, asIntOf, Sem.run_bind, run_underlying hu w, h1, h2, hi, hsz, hagg, hv1, hv2, hlt, hv, go_sem]
end
theorem xor_lit : ∀ n, n = 1 → True := fun _ _ => trivial
end Go.Proofs.Ytlnlppmhiobgjaa
