/- Regions that draw their order: loads of rows, calls, equality of keys and of numbers. -/
import Derived.Test.YtdmioipdmdmkhaaDoorC6
import Derived.Test.YtdmioipdmdmkhaaDoorC7
import Derived.Test.YtdmioipdmdmkhaaDoorB3
set_option linter.unusedVariables false
set_option linter.unusedSimpArgs false
namespace Go.Proofs.YtdmioipdmdmkhaaDoor
open Go.RowKit

theorem info24' : (Tryd.prog.info? 24).map (fun i => (i.zero, i.size, i.bytes)) = some (some (.int .u64 0), 1, 8) := by kernel_rfl
theorem quiet_load_row {P : Program} {C : World → Prop} {o : Oper} {a : Act} {K : Act → Prop} (ty : TypeId) (x : Operand) (ho : o.op = .load ty x)
    (g : Nat) (hx : a.eval x = .pointer (some ⟨g, 0, none⟩)) (t : TypeId) (cs : Array Value) (fr : Nat × Nat) (d : TypeDesc) (hg : ∀ w, C w → w.heap[g]? = some (.cells cs t fr))
    (hu : P.underlying ty = some d) (hd : (match d with | .struct _ | .array _ _ => true | _ => false) = true) (hi : (P.info? ty).map (·.size) = some cs.size)
    (h : K (a.put o.dst (.agg cs))) : o.quiet P a C K := by
  refine ⟨.agg cs, fun w hw => ?_, h⟩
  unfold Oper.quietAt execOp
  simp only [ho, hx, Instr.loadAt, Instr.sureAddr, Sem.run_bind, Sem.run_pure, Result.andThen_ok, run_loadVar_row w g t ty cs fr d (hg w hw) hu hd hi]
  exact ⟨rfl, rfl⟩
theorem quiet_eq23 {C : World → Prop} {o : Oper} {a : Act} {K : Act → Prop} (x y : Operand) (ho : o.op = .binOp .eql 23 x y 23) (g h : Nat → Nat) (hx : a.eval x = .agg (kArr g)) (hy : a.eval y = .agg (kArr h)) (b : Bool)
    (hb : b = true ↔ ∀ i, i < 32 → g i = h i) (hk : K (a.put o.dst (.bool b))) : o.quiet Tryd.prog a C K := by
  refine ⟨.bool b, fun w hw => ?_, hk⟩
  have he : (Op.equalIn 10000 23 (.agg (kArr g)) (.agg (kArr h))).run Tryd.prog w = .ok b w := by
    rw [eq23]
    congr 1
    rw [Bool.eq_iff_iff, hb, decide_eq_true_eq, eq23_iff]
  unfold Oper.quietAt execOp
  simp only [ho, hx, hy]
  clear hb
  go_simp
set_option maxRecDepth 100000 in
theorem eq27 (g h : Nat → Nat) (w : World) : (Op.equalIn 10000 27 (.agg (nArr g)) (.agg (nArr h))).run Tryd.prog w = .ok (decide ([(g 0 : Int), (g 1 : Int), (g 2 : Int), (g 3 : Int), (g 4 : Int), (g 5 : Int), (g 6 : Int), (g 7 : Int), (g 8 : Int), (g 9 : Int), (g 10 : Int), (g 11 : Int), (g 12 : Int), (g 13 : Int), (g 14 : Int), (g 15 : Int)] = [(h 0 : Int), (h 1 : Int), (h 2 : Int), (h 3 : Int), (h 4 : Int), (h 5 : Int), (h 6 : Int), (h 7 : Int), (h 8 : Int), (h 9 : Int), (h 10 : Int), (h 11 : Int), (h 12 : Int), (h 13 : Int), (h 14 : Int), (h 15 : Int)])) w := by
  obtain ⟨i0, hi0, _⟩ := info_parts info24'
  exact eq_ints (P := Tryd.prog) Tryd.underlying27 Tryd.underlying24 hi0 (by kernel_rfl) [(g 0 : Int), (g 1 : Int), (g 2 : Int), (g 3 : Int), (g 4 : Int), (g 5 : Int), (g 6 : Int), (g 7 : Int), (g 8 : Int), (g 9 : Int), (g 10 : Int), (g 11 : Int), (g 12 : Int), (g 13 : Int), (g 14 : Int), (g 15 : Int)] [(h 0 : Int), (h 1 : Int), (h 2 : Int), (h 3 : Int), (h 4 : Int), (h 5 : Int), (h 6 : Int), (h 7 : Int), (h 8 : Int), (h 9 : Int), (h 10 : Int), (h 11 : Int), (h 12 : Int), (h 13 : Int), (h 14 : Int), (h 15 : Int)] rfl rfl 9998 w
theorem eq27_iff (g h : Nat → Nat) : [(g 0 : Int), (g 1 : Int), (g 2 : Int), (g 3 : Int), (g 4 : Int), (g 5 : Int), (g 6 : Int), (g 7 : Int), (g 8 : Int), (g 9 : Int), (g 10 : Int), (g 11 : Int), (g 12 : Int), (g 13 : Int), (g 14 : Int), (g 15 : Int)] = [(h 0 : Int), (h 1 : Int), (h 2 : Int), (h 3 : Int), (h 4 : Int), (h 5 : Int), (h 6 : Int), (h 7 : Int), (h 8 : Int), (h 9 : Int), (h 10 : Int), (h 11 : Int), (h 12 : Int), (h 13 : Int), (h 14 : Int), (h 15 : Int)] ↔ ∀ i, i < 16 → g i = h i := by
  simp only [List.cons.injEq, and_true, Int.natCast_inj]
  constructor
  · rintro ⟨e0, e1, e2, e3, e4, e5, e6, e7, e8, e9, e10, e11, e12, e13, e14, e15⟩ b hb
    have hb' : b = 0 ∨ b = 1 ∨ b = 2 ∨ b = 3 ∨ b = 4 ∨ b = 5 ∨ b = 6 ∨ b = 7 ∨ b = 8 ∨ b = 9 ∨ b = 10 ∨ b = 11 ∨ b = 12 ∨ b = 13 ∨ b = 14 ∨ b = 15 := by omega
    rcases hb' with rfl | rfl | rfl | rfl | rfl | rfl | rfl | rfl | rfl | rfl | rfl | rfl | rfl | rfl | rfl | rfl
    all_goals assumption
  · intro e
    exact ⟨e 0 (by omega), e 1 (by omega), e 2 (by omega), e 3 (by omega), e 4 (by omega), e 5 (by omega), e 6 (by omega), e 7 (by omega), e 8 (by omega), e 9 (by omega), e 10 (by omega), e 11 (by omega), e 12 (by omega), e 13 (by omega), e 14 (by omega), e 15 (by omega)⟩
/-- Equality of two of the reference's numbers. -/
theorem quiet_eq27 {C : World → Prop} {o : Oper} {a : Act} {K : Act → Prop} (x y : Operand) (ho : o.op = .binOp .eql 27 x y 27) (m n : Nat) (hx : a.eval x = .agg (nArr (dg m))) (hy : a.eval y = .agg (nArr (dg n)))
    (hm : m < pr) (hn : n < pr) (hk : K (a.put o.dst (.bool (decide (m = n))))) : o.quiet Tryd.prog a C K := by
  refine ⟨_, fun w hw => ?_, hk⟩
  have he : (Op.equalIn 10000 27 (.agg (nArr (dg m))) (.agg (nArr (dg n)))).run Tryd.prog w = .ok (decide (m = n)) w := by
    rw [eq27]
    congr 1
    rw [Bool.eq_iff_iff, decide_eq_true_eq, decide_eq_true_eq, eq27_iff]
    have := p_lt
    exact ⟨fun h => dg_inj (by omega) (by omega) h, fun h i _ => by rw [h]⟩
  unfold Oper.quietAt execOp
  simp only [ho, hx, hy]
  clear hm hn
  go_simp
theorem byteOf_inj {x y : Nat} (hx : x < pr) (hy : y < pr) (h : ∀ i, i < 32 → byteOf x i = byteOf y i) : x = y := by
  have hp : pr < 256 ^ 32 := by decide +kernel
  rw [← kNum_bytes x 32 (by omega), ← kNum_bytes y 32 (by omega)]
  exact kNum_congr 32 h
/-- Equality of two numbers' keys. -/
theorem quiet_eqk {C : World → Prop} {o : Oper} {a : Act} {K : Act → Prop} (x y : Operand) (ho : o.op = .binOp .eql 23 x y 23) (m n : Nat) (hx : a.eval x = .agg (kArr (byteOf m))) (hy : a.eval y = .agg (kArr (byteOf n)))
    (hm : m < pr) (hn : n < pr) (hk : K (a.put o.dst (.bool (decide (m = n))))) : o.quiet Tryd.prog a C K :=
  quiet_eq23 x y ho _ _ hx hy _ ⟨fun h i _ => by rw [of_decide_eq_true h], fun h => decide_eq_true (byteOf_inj hm hn h)⟩ hk
theorem quiet_same {C : World → Prop} {o : Oper} {a : Act} {K : Act → Prop} (x y : Operand) (ho : o.op = .binOp .eql 23 x y 23) (g : Nat → Nat) (hx : a.eval x = .agg (kArr g)) (hy : a.eval y = .agg (kArr g))
    (hk : K (a.put o.dst (.bool true))) : o.quiet Tryd.prog a C K :=
  quiet_eq23 x y ho _ _ hx hy true ⟨fun _ _ _ => rfl, fun _ => rfl⟩ hk
/-- A contract, from the world W on. -/
theorem lift_below {n : Nat} {args : Array Value} {v : Value} (W : World) (d : ∀ w, Calls Tryd.prog n args w fun r w' => r = .returned v ∧ Below w.heap.size w w') : ∀ w1, Below W.heap.size W w1 → Calls Tryd.prog n args w1 fun e w2 => e = .returned v ∧ Below W.heap.size W w2 :=
  fun w1 hb => (d w1).mono fun e w2 ⟨h, hb2⟩ => ⟨h, hb.trans (hb2.mono hb.size)⟩
/-- A new block, written whole. -/
theorem put_new (w : World) (z cs : Array Value) (t : TypeId) : Below w.heap.size w ((w.alloc (.cells z t)).setRow w.heap.size cs) ∧ ((w.alloc (.cells z t)).setRow w.heap.size cs).heap[w.heap.size]? = some (.cells cs t (0, 0)) :=
  ⟨below_setRow (alloc_only w _) (Nat.le_refl _) _, heap_setRow (alloc_at rfl) _⟩

end Go.Proofs.YtdmioipdmdmkhaaDoor
