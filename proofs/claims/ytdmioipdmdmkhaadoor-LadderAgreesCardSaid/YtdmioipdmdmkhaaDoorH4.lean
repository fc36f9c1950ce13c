/- A walk by rules: conversions, slices that are read, small sums and products. -/
import Derived.Test.YtdmioipdmdmkhaaDoorH3
set_option linter.unusedVariables false
set_option linter.unusedSimpArgs false
namespace Go.Proofs.YtdmioipdmdmkhaaDoor
open Go Go.RowKit
theorem then_ret {Q : Exit → Act → World → Prop} {K : Act → World → Prop} {a : Act} {w : World} (h : Q .ret a w) : Exit.then K Q .ret a w := h
theorem inB_ret {Q : Exit → Act → World → Prop} {id : Nat} {a : Act} {w : World} (h : Q .ret a w) : Exit.inBlock id Q .ret a w := h
/-- A block that came in. -/
theorem Hp.start1 (X : List Nat) {w : World} {ad : Nat} {ob : Obj} (h : w.heap[ad]? = some ob) : Hp X w [⟨false, ad, ob⟩] w :=
  ⟨Kept.refl _ _, fun p hp => by simp only [List.mem_singleton] at hp; subst hp; exact h, fun p hp ho => by simp only [List.mem_singleton] at hp; subst hp; exact Bool.noConfusion ho, List.pairwise_singleton _ _⟩
section
variable {P : Program} {o : Oper} {V : List (Nat × Value)}
theorem R_conv {s d : TypeId} {x : Operand} (ho : o.op = .convert s d x) {k k' k0 : IntKind} {a c : Int} (hs : P.underlying s = some (.int k0)) (hd : P.underlying d = some (.int k')) (hx : evV V x = .int k a) (hc : k'.wrap a = c) (w : World) : (execOp (evV V) o).run P w = .ok (.value (.int k' c)) w := by
  subst hc
  unfold execOp
  simp only [ho, hx, convert, Sem.run_bind, run_underlying hs w, run_underlying hd w, Result.andThen_ok, Conv.intToInt, Sem.run_pure]
/-- An element's place in a slice. -/
theorem R_indexS {t e : TypeId} {x y : Operand} (ho : o.op = .indexAddr t x y) (hu : P.underlying t = some (.slice e)) {g off len cap : Nat} (hx : evV V x = .slice (some ⟨g, off, none⟩) len cap) {k : IntKind} (i : Nat) (hy : evV V y = .int k i) (hi : i < len) {sz : Nat} (hs : (P.info? e).map (·.size) = some sz) (w : World) :
    (execOp (evV V) o).run P w = .ok (.value (.pointer (some ⟨g, off + i * sz, none⟩))) w := by
  have hsz : (sizeOf e).run P w = .ok sz w := by
    cases hq : P.info? e with
    | none => simp [hq] at hs
    | some j =>
      have hs' : j.size = sz := by simpa [hq] using hs
      simp [sizeOf, typeInfo, hq, hs', Sem.run_bind, go_sem]
  have h1 : (0 : Int) ≤ i ∧ (i : Int) < len := by omega
  unfold execOp
  simp only [ho, hx, hy, Instr.indexAt, Sem.run_bind, asIntOf, Sem.run_pure, Result.andThen_ok, run_underlying hu w, if_pos h1, hsz, Int.toNat_natCast]
  have hadd : (⟨g, off, none⟩ : Addr).add (i * sz) = ⟨g, off + i * sz, none⟩ := by unfold Addr.add; split <;> simp_all
  rw [hadd]
end
theorem i_addu64 {a b : Nat} (h : a + b < 18446744073709551616) : intRes .add .u64 a b = some (.int .u64 ((a + b : Nat) : Int)) := by
  simp only [intRes]; rw [← Int.natCast_add, wru64 h]
theorem i_mulu64 {a b : Nat} (h : a * b < 18446744073709551616) : intRes .mul .u64 a b = some (.int .u64 ((a * b : Nat) : Int)) := by
  simp only [intRes]; rw [← Int.natCast_mul, wru64 h]
theorem i_addn64 {a b : Nat} (h : a + b < 9223372036854775808) : intRes .add .i64 a b = some (.int .i64 ((a + b : Nat) : Int)) := by
  simp only [intRes]; rw [← Int.natCast_add, wr_i64 (by omega)]
theorem i_add8 {a b : Nat} (h : a + b < 256) : intRes .add .u8 a b = some (.int .u8 ((a + b : Nat) : Int)) := by
  simp only [intRes]; rw [← Int.natCast_add, wr8 h]
theorem i_mul8 {a b : Nat} (h : a * b < 256) : intRes .mul .u8 a b = some (.int .u8 ((a * b : Nat) : Int)) := by
  simp only [intRes]; rw [← Int.natCast_mul, wr8 h]
theorem i_quo8 {a b : Nat} (hb : 0 < b) (ha : a < 256) : intRes .quo .u8 a b = some (.int .u8 ((a / b : Nat) : Int)) := by
  have h0 : (b : Int) ≠ 0 := by omega
  have h1 : a / b ≤ a := Nat.div_le_self _ _
  simp only [intRes, if_neg h0]
  rw [Int.tdiv_eq_ediv_of_nonneg (by omega), ← Int.natCast_ediv, wr8 (by omega)]
theorem i_rem8 {a b : Nat} (hb : 0 < b) : intRes .rem .u8 a b = some (.int .u8 ((a % b : Nat) : Int)) := by
  have h0 : (b : Int) ≠ 0 := by omega
  simp only [intRes, if_neg h0]
  rw [Int.tmod_eq_emod_of_nonneg (by omega), ← Int.natCast_emod]
theorem bvi64 (a : Nat) (ha : a < 18446744073709551616) : (BitVec.ofInt IntKind.i64.bits (a : Int)).toNat = a := bv64 a ha
theorem i_and64 {a b : Nat} (ha : a < 9223372036854775808) (hb : b < 9223372036854775808) : intRes .and .i64 a b = some (.int .i64 ((a &&& b : Nat) : Int)) := by
  have h : (BitVec.ofInt 64 (a : Int) &&& BitVec.ofInt 64 (b : Int)).toNat = a &&& b := by rw [BitVec.toNat_and, bv64 a (by omega), bv64 b (by omega)]
  have h2 : a &&& b ≤ a := Nat.and_le_left
  show some (Value.int .i64 (IntKind.i64.wrap ((BitVec.ofInt 64 (a : Int) &&& BitVec.ofInt 64 (b : Int)).toNat : Int))) = _
  rw [h, wr_i64 (by omega)]
theorem i_nb {k : IntKind} (a b : Bool) : intRes .neq k (a.toNat : Int) (b.toNat : Int) = some (.bool (a != b)) := by cases a <;> cases b <;> rfl
theorem i_ltn {k : IntKind} {a b : Nat} : intRes .lss k a b = some (.bool (decide (a < b))) := by
  simp only [intRes, Option.some.injEq, Value.bool.injEq]
  rw [Bool.eq_iff_iff]; simp
theorem wrn64 {a : Nat} (h : a < 9223372036854775808) : IntKind.i64.wrap (a : Int) = a := wr_i64 (by omega)
end Go.Proofs.YtdmioipdmdmkhaaDoor
