/- WQ -/
import Derived.Test.YtdejhenkdbjakaaDoorQM14
set_option linter.unusedVariables false
set_option linter.unusedSimpArgs false
set_option maxRecDepth 100000
set_option maxHeartbeats 4000000
namespace Go.Proofs.YtdejhenkdbjakaaDoor
open Go Go.RowKit
theorem eq_items {P : Program} {e : TypeId} {k : IntKind} (he : P.underlying e = some (.int k)) (xs ys : List Int) (d : Nat) (w : World) : ∀ (m j : Nat), xs.length = j + m → ys.length = j + m →
    (Op.eqItems (d + 1) e 1 (xs.map (Value.int k)).toArray (ys.map (Value.int k)).toArray (List.range' j m)).run P w = .ok (decide (xs.drop j = ys.drop j)) w
  | 0, j, hx, hy => by
    rw [List.drop_eq_nil_of_le (by omega), List.drop_eq_nil_of_le (by omega)]
    simp [Op.eqItems]
  | m + 1, j, hx, hy => by
    have hp : P.plainKey e = true := by simp [Program.plainKey, he]
    have p1 := run_part_plain (P := P) w hp (xs := (xs.map (Value.int k)).toArray) (off := j * 1) (v := .int k xs[j]) (by simp [show j < xs.length by omega])
    have p2 := run_part_plain (P := P) w hp (xs := (ys.map (Value.int k)).toArray) (off := j * 1) (v := .int k ys[j]) (by simp [show j < ys.length by omega])
    have ih := eq_items he xs ys d w m (j + 1) (by omega) (by omega)
    rw [List.drop_eq_getElem_cons (show j < xs.length by omega), List.drop_eq_getElem_cons (show j < ys.length by omega)]
    rw [List.range'_succ]
    simp only [Op.eqItems, Sem.run_bind, p1, p2, run_equalIn_int w d e k k _ _ he, Result.andThen_ok]
    generalize xs.drop (j + 1) = X at *
    generalize ys.drop (j + 1) = Y at *
    generalize xs[j] = a at *
    generalize ys[j] = b at *
    by_cases h : a = b
    · simp [h, ih]
    · simp [h]
theorem eq_ints {P : Program} {t e : TypeId} {n : Nat} {k : IntKind} {i : TypeInfo} (hu : P.underlying t = some (.array n e)) (he : P.underlying e = some (.int k)) (hi : P.info? e = some i) (hc : P.cellsOf e = 1) (xs ys : List Int) (hx : xs.length = n) (hy : ys.length = n) (d : Nat) (w : World) :
    (Op.equalIn (d + 2) t (.agg (xs.map (Value.int k)).toArray) (.agg (ys.map (Value.int k)).toArray)).run P w = .ok (decide (xs = ys)) w := by
  rw [run_equalIn_array w (d + 1) _ _ hu hi, hc, List.range_eq_range']
  have := eq_items (P := P) he xs ys d w n 0 (by omega) (by omega)
  simpa using this
theorem arrF_ints (k : IntKind) (n : Nat) (f : Nat → Nat) : arrF k n f = (((List.range n).map fun i => ((f i : Nat) : Int)).map (Value.int k)).toArray := by
  unfold arrF; rw [List.map_map]; rfl
theorem eqK (g h : Nat → Nat) (b : Bool) (hb : b = true ↔ ∀ i, i < 32 → g i = h i) (w : World) : (Op.equalIn 10000 23 (.agg (arrF .u8 32 g)) (.agg (arrF .u8 32 h))).run Tryd.prog w = .ok b w := by
  obtain ⟨i0, z0, hi0, _⟩ := infoB_spec (P := Tryd.prog) (e := 5) (size := 1) (bytes := 1) (by kernel_rfl)
  rw [arrF_ints, arrF_ints]
  have lg : ∀ f : Nat → Nat, ((List.range 32).map fun i => ((f i : Nat) : Int)).length = 32 := fun f => by rw [List.length_map, List.length_range]
  have ex : ((List.range 32).map fun i => ((g i : Nat) : Int)) = ((List.range 32).map fun i => ((h i : Nat) : Int)) ↔ ∀ i, i < 32 → g i = h i := by
    constructor
    · intro e i hi
      have h2 := congrArg (fun l => l[i]?) e
      simp only [List.getElem?_map, List.getElem?_range hi, Option.map_some, Option.some.injEq] at h2
      omega
    · intro e
      exact List.map_congr_left fun i hi => by rw [e i (List.mem_range.1 hi)]
  have l1 := lg g
  have l2 := lg h
  generalize ((List.range 32).map fun i => ((g i : Nat) : Int)) = xs at *
  generalize ((List.range 32).map fun i => ((h i : Nat) : Int)) = ys at *
  have hq := eq_ints (P := Tryd.prog) Tryd.underlying23 Tryd.underlying5 hi0 (by kernel_rfl) xs ys l1 l2 9998 w
  refine hq.trans ?_
  congr 1
  rw [Bool.eq_iff_iff, decide_eq_true_eq, hb, ex]
theorem R_eqK {o : Oper} {V : List (Nat × Value)} {x y : Operand} (ho : o.op = .binOp .eql 23 x y 23) (g h : Nat → Nat) (hx : evV V x = .agg (arrF .u8 32 g)) (hy : evV V y = .agg (arrF .u8 32 h)) (b : Bool) (hb : b = true ↔ ∀ i, i < 32 → g i = h i) (w : World) : (execOp (evV V) o).run Tryd.prog w = .ok (.value (.bool b)) w := by
  have he := eqK g h b hb w
  unfold execOp
  simp only [ho, hx, hy]
  have hq : (Op.equal 23 (.agg (arrF .u8 32 g)) (.agg (arrF .u8 32 h))).run Tryd.prog w = .ok b w := he
  clear hb
  simp [eqGuard, binOp, hq, Sem.run_bind, Sem.run_pure, go_sem]
end Go.Proofs.YtdejhenkdbjakaaDoor
