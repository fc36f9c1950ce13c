/- A walk by rules: whole numbers, tests, equality of keys and of the reference's numbers. -/
import Derived.Test.YtdmioipdmdmkhaaDoorH1
import Derived.Test.YtdmioipdmdmkhaaDoorE0
set_option linter.unusedVariables false
set_option linter.unusedSimpArgs false
namespace Go.Proofs.YtdmioipdmdmkhaaDoor
open Go Go.RowKit
/-- What two whole numbers come to. -/
def intRes (op : BinOp) (k : IntKind) (a b : Int) : Option Value :=
  match op with
  | .add => some (.int k (k.wrap (a + b)))
  | .sub => some (.int k (k.wrap (a - b)))
  | .mul => some (.int k (k.wrap (a * b)))
  | .quo => if b = 0 then none else some (.int k (k.wrap (a.tdiv b)))
  | .rem => if b = 0 then none else some (.int k (a.tmod b))
  | .and => some (.int k (k.wrap (BitVec.ofInt k.bits a &&& BitVec.ofInt k.bits b).toNat))
  | .or => some (.int k (k.wrap (BitVec.ofInt k.bits a ||| BitVec.ofInt k.bits b).toNat))
  | .xor => some (.int k (k.wrap (BitVec.ofInt k.bits a ^^^ BitVec.ofInt k.bits b).toNat))
  | .eql => some (.bool (a == b))
  | .neq => some (.bool (a != b))
  | .lss => some (.bool (decide (a < b)))
  | .leq => some (.bool (decide (a ≤ b)))
  | .gtr => some (.bool (decide (a > b)))
  | .geq => some (.bool (decide (a ≥ b)))
  | _ => none
section
variable {P : Program} {o : Oper} {V : List (Nat × Value)}
theorem R_bin {op : BinOp} {t t' : TypeId} {x y : Operand} (ho : o.op = .binOp op t x y t') {k : IntKind} {a b : Int} (hx : evV V x = .int k a) (hy : evV V y = .int k b) {v : Value} (hv : intRes op k a b = some v) (w : World) : (execOp (evV V) o).run P w = .ok (.value v) w := by
  have hg : (eqGuard op t x y (.int k a) (.int k b)).run P w = .ok () w := by
    unfold eqGuard
    cases op <;> simp [Sem.run_bind, Sem.run_pure, go_sem]
  unfold execOp
  simp only [ho, hx, hy, Sem.run_bind, hg, Result.andThen_ok]
  cases op <;> simp only [intRes, Option.some.injEq, reduceCtorEq] at hv <;> first
    | (subst hv; simp [binOp, Op.intArith, Op.intBits, Op.intCmp, Sem.run_bind, Sem.run_pure, go_sem])
    | (split at hv
       · cases hv
       · rename_i h0
         simp only [Option.some.injEq] at hv
         subst hv
         simp [binOp, Op.intDiv, h0, Sem.run_bind, Sem.run_pure, go_sem])
theorem R_shr {t t' : TypeId} {x y : Operand} (ho : o.op = .binOp .shr t x y t') {k yk : IntKind} {a b : Int} (hx : evV V x = .int k a) (hy : evV V y = .int yk b) (hb : 0 ≤ b) {v : Value} (hv : v = .int k (a.fdiv (2 ^ min b.toNat k.bits))) (w : World) : (execOp (evV V) o).run P w = .ok (.value v) w := by
  have hg : (eqGuard .shr t x y (.int k a) (.int yk b)).run P w = .ok () w := by
    unfold eqGuard
    simp [Sem.run_bind, Sem.run_pure, go_sem]
  subst hv
  unfold execOp
  simp only [ho, hx, hy, Sem.run_bind, hg, Result.andThen_ok]
  have : ¬ b < 0 := by omega
  simp [binOp, Op.shift, this, Sem.run_bind, Sem.run_pure, go_sem]
theorem i_lt {k : IntKind} {a b : Int} (h : a < b) : intRes .lss k a b = some (.bool true) := by simp [intRes, h]
theorem i_nlt {k : IntKind} {a b : Int} (h : ¬ a < b) : intRes .lss k a b = some (.bool false) := by simp [intRes]; omega
theorem i_ge {k : IntKind} {a b : Int} (h : b ≤ a) : intRes .geq k a b = some (.bool true) := by simp [intRes, h]
theorem i_nge {k : IntKind} {a b : Int} (h : ¬ b ≤ a) : intRes .geq k a b = some (.bool false) := by simp [intRes]; omega
theorem i_eq {k : IntKind} {a b : Int} (h : a = b) : intRes .eql k a b = some (.bool true) := by simp [intRes, h]
theorem i_neq {k : IntKind} {a b : Int} (h : a ≠ b) : intRes .eql k a b = some (.bool false) := by simp [intRes, h]
theorem wr_i64 {a : Int} (h : -9223372036854775808 ≤ a ∧ a ≤ 9223372036854775807) : IntKind.i64.wrap a = a := by rw [IntKind.wrap_i64]; omega
theorem i_add64 {a b c : Int} (h : a + b = c) (hc : -9223372036854775808 ≤ c ∧ c ≤ 9223372036854775807) : intRes .add .i64 a b = some (.int .i64 c) := by subst h; simp [intRes, wr_i64 hc]
theorem i_sub64 {a b c : Int} (h : a - b = c) (hc : -9223372036854775808 ≤ c ∧ c ≤ 9223372036854775807) : intRes .sub .i64 a b = some (.int .i64 c) := by subst h; simp [intRes, wr_i64 hc]
/-- Two bools. -/
theorem R_eqb {t t' : TypeId} {x y : Operand} (ho : o.op = .binOp .eql t x y t') {a b : Bool} (hx : evV V x = .bool a) (hy : evV V y = .bool b) (hu : P.underlying t = some .bool) {v : Bool} (hv : (a == b) = v) (w : World) : (execOp (evV V) o).run P w = .ok (.value (.bool v)) w := by
  subst hv
  have he : (Op.equalIn (9999 + 1) t (.bool a) (.bool b)).run P w = .ok (a == b) w := by
    unfold Op.equalIn
    rw [Sem.run_bind, run_underlying hu w]
    rfl
  unfold execOp
  simp only [ho, hx, hy]
  have hq : (Op.equal t (.bool a) (.bool b)).run P w = .ok (a == b) w := he
  simp [eqGuard, binOp, hq, Sem.run_bind, Sem.run_pure, go_sem]
/-- A part of an array by a whole number. -/
theorem R_index {t e : TypeId} {x y : Operand} (ho : o.op = .indexAddr t x y) {len : Nat} (hu : P.underlying t = some (.array len e)) {g off : Nat} (hx : evV V x = .pointer (some ⟨g, off, none⟩)) {k : IntKind} (i : Nat) (hy : evV V y = .int k i) (hi : i < len) {sz : Nat} (hs : (P.info? e).map (·.size) = some sz) (w : World) :
    (execOp (evV V) o).run P w = .ok (.value (.pointer (some ⟨g, off + i * sz, none⟩))) w := by
  have hsz : (sizeOf e).run P w = .ok sz w := by
    cases hq : P.info? e with
    | none => simp [hq] at hs
    | some j =>
      have hs' : j.size = sz := by simpa [hq] using hs
      simp [sizeOf, typeInfo, hq, hs', Sem.run_bind, go_sem]
  have h1 : (0 : Int) ≤ i ∧ (i : Int) < len := by omega
  unfold execOp
  simp only [ho, hx, hy, Instr.indexAt, Sem.run_bind, asIntOf, Sem.run_pure, Result.andThen_ok, run_underlying hu w, Instr.sureAddr, if_pos h1, hsz, Int.toNat_natCast]
  have hadd : (⟨g, off, none⟩ : Addr).add (i * sz) = ⟨g, off + i * sz, none⟩ := by unfold Addr.add; split <;> simp_all
  rw [hadd]
end
/-! ### Keys and numbers of the reference -/
theorem R_eqk {o : Oper} {V : List (Nat × Value)} {x y : Operand} (ho : o.op = .binOp .eql 23 x y 23) (g h : Nat → Nat) (hx : evV V x = .agg (kArr g)) (hy : evV V y = .agg (kArr h)) (b : Bool) (hb : b = true ↔ ∀ i, i < 32 → g i = h i) (w : World) : (execOp (evV V) o).run Tryd.prog w = .ok (.value (.bool b)) w := by
  have he : (Op.equalIn 10000 23 (.agg (kArr g)) (.agg (kArr h))).run Tryd.prog w = .ok b w := by
    rw [eq23]
    congr 1
    rw [Bool.eq_iff_iff, hb, decide_eq_true_eq, eq23_iff]
  unfold execOp
  simp only [ho, hx, hy]
  clear hb
  go_simp
theorem R_same {o : Oper} {V : List (Nat × Value)} {x y : Operand} (ho : o.op = .binOp .eql 23 x y 23) (g : Nat → Nat) (hx : evV V x = .agg (kArr g)) (hy : evV V y = .agg (kArr g)) (w : World) : (execOp (evV V) o).run Tryd.prog w = .ok (.value (.bool true)) w :=
  R_eqk ho g g hx hy true ⟨fun _ _ _ => rfl, fun _ => rfl⟩ w
theorem R_neqk {o : Oper} {V : List (Nat × Value)} {x y : Operand} (ho : o.op = .binOp .neq 23 x y 23) (g h : Nat → Nat) (hx : evV V x = .agg (kArr g)) (hy : evV V y = .agg (kArr h)) (b : Bool) (hb : b = false ↔ ∀ i, i < 32 → g i = h i) (w : World) : (execOp (evV V) o).run Tryd.prog w = .ok (.value (.bool b)) w := by
  have he : (Op.equalIn 10000 23 (.agg (kArr g)) (.agg (kArr h))).run Tryd.prog w = .ok (!b) w := by
    rw [eq23]
    congr 1
    rw [Bool.eq_iff_iff]
    have : (!b) = true ↔ b = false := by cases b <;> simp
    rw [this, hb, decide_eq_true_eq, eq23_iff]
  unfold execOp
  simp only [ho, hx, hy]
  clear hb
  go_simp
theorem R_eqn {o : Oper} {V : List (Nat × Value)} {x y : Operand} (ho : o.op = .binOp .eql 27 x y 27) (m n : Nat) (b : Bool) (hb : b = decide (m = n)) (hx : evV V x = .agg (nArr (dg m))) (hy : evV V y = .agg (nArr (dg n))) (hm : m < pr) (hn : n < pr) (w : World) : (execOp (evV V) o).run Tryd.prog w = .ok (.value (.bool b)) w := by
  have he : (Op.equalIn 10000 27 (.agg (nArr (dg m))) (.agg (nArr (dg n)))).run Tryd.prog w = .ok b w := by
    rw [eq27]
    congr 1
    rw [hb, Bool.eq_iff_iff, decide_eq_true_eq, decide_eq_true_eq, eq27_iff]
    have := p_lt
    exact ⟨fun h => dg_inj (by omega) (by omega) h, fun h i _ => by rw [h]⟩
  unfold execOp
  simp only [ho, hx, hy]
  clear hb hm hn
  go_simp
end Go.Proofs.YtdmioipdmdmkhaaDoor
