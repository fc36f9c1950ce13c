/- Small, Equal, IsZero and Choose of package field. -/
import Derived.Test.YtdmioipdmdmkhaaDoorA3
import Derived.ChangeKeysEq
set_option linter.unusedVariables false
set_option linter.unusedSimpArgs false
namespace Go.Proofs.YtdmioipdmdmkhaaDoor
open Go.RowKit

theorem alloc_only (w : World) (o : Obj) : Below w.heap.size w (w.alloc o) := (Below.refl _ _).alloc (Nat.le_refl _) _

set_option maxRecDepth 100000 in
set_option maxHeartbeats 2000000 in
theorem small_any (n : Nat) (hn : n < 18446744073709551616) : ∃ z, El z n ∧ Det 29 #[.int .u64 n] z := by
  have HE := Lib.hid (show bits .and .u64 (n : Int) 2251799813685247 = ((n % 2251799813685248 : Nat) : Int) from mask51 n hn)
  have HV := Lib.hid (show El (limbsV (n % 2251799813685248) (n / 2251799813685248) 0 0 0) n from ⟨_, _, _, _, _, rfl, by omega, by omega, by omega, by omega, by omega, by unfold valN pr; omega⟩)
  refine ⟨_, HV.out, fun w => ?_⟩
  go_enter Tryd.func29, Tryd.ntmps29
  go_wp2
  rw [HE.out]
  try simp only [Exit.inBlock, Exit.then]
  refine bodyPost_ret (results_cell_row rfl _ _ w.heap.size 33 _ (0, 0) _ rfl (alloc_at rfl) Tryd.underlying33 rfl info33) rfl ?_
  exact ⟨by rw [quo_of (n : Int) n rfl]; rfl, alloc_only _ _⟩

theorem eq_items {P : Program} {e : TypeId} {k : IntKind} (he : P.underlying e = some (.int k)) (xs ys : List Int) (d : Nat) (w : World) : ∀ (m j : Nat), xs.length = j + m → ys.length = j + m →
    (Op.eqItems (d + 1) e 1 (xs.map (Value.int k)).toArray (ys.map (Value.int k)).toArray (List.range' j m)).run P w = .ok (decide (xs.drop j = ys.drop j)) w
  | 0, j, hx, hy => by
    rw [List.drop_eq_nil_of_le (by omega), List.drop_eq_nil_of_le (by omega)]
    simp [Op.eqItems]
  | m + 1, j, hx, hy => by
    have hp : P.plainKey e = true := by simp [Program.plainKey, he]
    have p1 := run_part_plain (P := P) w hp (xs := (xs.map (Value.int k)).toArray) (off := j * 1) (v := .int k xs[j]) (by simp [show j < xs.length by omega])
    have p2 := run_part_plain (P := P) w hp (xs := (ys.map (Value.int k)).toArray) (off := j * 1) (v := .int k ys[j]) (by simp [show j < ys.length by omega])
    have ih := eq_items he xs ys d w m (j + 1) (by omega) (by omega)
    rw [List.drop_eq_getElem_cons (show j < xs.length by omega), List.drop_eq_getElem_cons (show j < ys.length by omega)]
    rw [List.range'_succ]
    simp only [Op.eqItems, Sem.run_bind, p1, p2, run_equalIn_int w d e k k _ _ he, Result.andThen_ok]
    generalize xs.drop (j + 1) = X at *
    generalize ys.drop (j + 1) = Y at *
    generalize xs[j] = a at *
    generalize ys[j] = b at *
    by_cases h : a = b
    · simp [h, ih]
    · simp [h]
theorem eq_ints {P : Program} {t e : TypeId} {n : Nat} {k : IntKind} {i : TypeInfo} (hu : P.underlying t = some (.array n e)) (he : P.underlying e = some (.int k)) (hi : P.info? e = some i) (hc : P.cellsOf e = 1) (xs ys : List Int) (hx : xs.length = n) (hy : ys.length = n) (d : Nat) (w : World) :
    (Op.equalIn (d + 2) t (.agg (xs.map (Value.int k)).toArray) (.agg (ys.map (Value.int k)).toArray)).run P w = .ok (decide (xs = ys)) w := by
  rw [run_equalIn_array w (d + 1) _ _ hu hi, hc, List.range_eq_range']
  have := eq_items (P := P) he xs ys d w n 0 (by omega) (by omega)
  simpa using this
theorem info24 : Tryd.prog.info? 24 = some (Tryd.prog.types.getD 24 default) := by kernel_rfl
theorem eq31 (a0 a1 a2 a3 a4 b0 b1 b2 b3 b4 : Nat) (w : World) : (Op.equalIn 10000 31 (limbsV a0 a1 a2 a3 a4) (limbsV b0 b1 b2 b3 b4)).run Tryd.prog w = .ok (decide (a0 = b0 ∧ a1 = b1 ∧ a2 = b2 ∧ a3 = b3 ∧ a4 = b4)) w := by
  refine (eq_ints (P := Tryd.prog) Tryd.underlying31 Tryd.underlying24 info24 (by kernel_rfl) [(a0 : Int), a1, a2, a3, a4] [(b0 : Int), b1, b2, b3, b4] rfl rfl 9998 w).trans ?_
  congr 1
  rw [Bool.eq_iff_iff]
  simp only [List.cons.injEq, and_true, decide_eq_true_eq, Int.natCast_inj]
theorem red_eq (x y : Nat) (w : World) : (Op.equalIn 10000 31 (redV x) (redV y)).run Tryd.prog w = .ok (decide (x = y)) w := by
  unfold redV
  rw [eq31]
  congr 1
  rw [Bool.eq_iff_iff, decide_eq_true_eq, decide_eq_true_eq]
  constructor
  · intro ⟨h0, h1, h2, h3, h4⟩; omega
  · rintro rfl; exact ⟨rfl, rfl, rfl, rfl, rfl⟩

set_option maxRecDepth 100000 in
set_option maxHeartbeats 2000000 in
theorem isZero_any {v : Value} {x : Nat} (hv : El v x) (w : World) : Calls Tryd.prog 30 #[v] w fun r w' => r = .returned (.bool (decide (x = 0))) ∧ Below w.heap.size w w' := by
  have HC := Lib.hid (fun w => reduced_any hv w)
  obtain ⟨a0, a1, a2, a3, a4, rfl, ha0, ha1, ha2, ha3, ha4, hx⟩ := hv
  clear hx
  unfold limbsV at *
  go_enter Tryd.func30, Tryd.ntmps30
  go_wp2_with fail
  refine (HC.out _).mono ?_
  rintro e w1 ⟨rfl, hb⟩
  have HB := Lib.hid ((alloc_only w _).trans (hb.mono (by simp)))
  have hq := red_eq x 0
  have h0 : redV 0 = .agg #[.int .u64 0, .int .u64 0, .int .u64 0, .int .u64 0, .int .u64 0] := rfl
  rw [h0] at hq
  obtain ⟨r0, r1, r2, r3, r4, hrv⟩ : ∃ r0 r1 r2 r3 r4 : Nat, redV x = limbsV r0 r1 r2 r3 r4 := ⟨_, _, _, _, _, rfl⟩
  rw [hrv] at hq ⊢
  unfold limbsV at *
  clear hb hrv h0
  go_wp2
  go_ret
  exact ⟨rfl, HB.out⟩

set_option maxRecDepth 100000 in
set_option maxHeartbeats 2000000 in
theorem equal_any {v u : Value} {x y : Nat} (hv : El v x) (hu : El u y) (w : World) : Calls Tryd.prog 27 #[v, u] w fun r w' => r = .returned (.bool (decide (x = y))) ∧ Below w.heap.size w w' := by
  have HC1 := Lib.hid (fun w => reduced_any hv w)
  have HC2 := Lib.hid (fun w => reduced_any hu w)
  obtain ⟨a0, a1, a2, a3, a4, rfl, ha0, ha1, ha2, ha3, ha4, hx⟩ := hv
  obtain ⟨b0, b1, b2, b3, b4, rfl, hb0, hb1, hb2, hb3, hb4, hy⟩ := hu
  have hq2 : ∀ w, (Op.equalIn 10000 31 (redV x) (redV y)).run Tryd.prog w = .ok (decide (x = y)) w := fun w => red_eq x y w
  obtain ⟨r0, r1, r2, r3, r4, hrv⟩ : ∃ r0 r1 r2 r3 r4 : Nat, redV x = limbsV r0 r1 r2 r3 r4 := ⟨_, _, _, _, _, rfl⟩
  obtain ⟨s0, s1, s2, s3, s4, hsv⟩ : ∃ r0 r1 r2 r3 r4 : Nat, redV y = limbsV r0 r1 r2 r3 r4 := ⟨_, _, _, _, _, rfl⟩
  rw [hrv] at hq2 HC1
  rw [hsv] at hq2 HC2
  clear hx hy hrv hsv
  unfold limbsV at *
  go_enter Tryd.func27, Tryd.ntmps27
  go_wp2
  obtain ⟨W0, hW0⟩ : ∃ W, W = (w.alloc (.cells (c5 a0 a1 a2 a3 a4) 33)).alloc (.cells (c5 b0 b1 b2 b3 b4) 33) := ⟨_, rfl⟩
  obtain ⟨B1, hB1⟩ : ∃ B, w.heap.size + 1 = B := ⟨_, rfl⟩
  have HBW := Lib.hid (show Below w.heap.size w W0 by rw [hW0]; exact (alloc_only w _).alloc (by simp) _)
  have hs0 : W0.heap.size = B1 + 1 := by rw [hW0, ← hB1]; simp
  have g1 : W0.heap[w.heap.size]? = some (.cells (c5 a0 a1 a2 a3 a4) 33 (0, 0)) := by rw [hW0, Below.heap_alloc _ _ _ (by simp)]; exact alloc_at rfl
  have g2 : W0.heap[B1]? = some (.cells (c5 b0 b1 b2 b3 b4) 33 (0, 0)) := by rw [hW0, ← hB1]; exact alloc_at (by simp)
  have HRD := Lib.hid (fun (w1 : World) (hb : Below W0.heap.size W0 w1) => (show (w1.cell? ⟨w.heap.size, 0, none⟩ = some (.int .u64 a0) ∧ w1.cell? ⟨w.heap.size, 1, none⟩ = some (.int .u64 a1) ∧ w1.cell? ⟨w.heap.size, 2, none⟩ = some (.int .u64 a2) ∧ w1.cell? ⟨w.heap.size, 3, none⟩ = some (.int .u64 a3) ∧ w1.cell? ⟨w.heap.size, 4, none⟩ = some (.int .u64 a4)) ∧
      w1.cell? ⟨B1, 0, none⟩ = some (.int .u64 b0) ∧ w1.cell? ⟨B1, 1, none⟩ = some (.int .u64 b1) ∧ w1.cell? ⟨B1, 2, none⟩ = some (.int .u64 b2) ∧ w1.cell? ⟨B1, 3, none⟩ = some (.int .u64 b3) ∧ w1.cell? ⟨B1, 4, none⟩ = some (.int .u64 b4) from
    have e1 := (hb.block w.heap.size (by omega)).trans g1
    have e2 := (hb.block B1 (by omega)).trans g2
    ⟨⟨cell_of_blk e1 0 rfl, cell_of_blk e1 1 rfl, cell_of_blk e1 2 rfl, cell_of_blk e1 3 rfl, cell_of_blk e1 4 rfl⟩, cell_of_blk e2 0 rfl, cell_of_blk e2 1 rfl, cell_of_blk e2 2 rfl, cell_of_blk e2 3 rfl, cell_of_blk e2 4 rfl⟩))
  have QA := Lib.hid (fun (w1 : World) (hb : Below W0.heap.size W0 w1) => (HC1.out w1).mono (fun e w2 ⟨he, hb2⟩ => (show e = Ending.returned (.agg #[.int .u64 r0, .int .u64 r1, .int .u64 r2, .int .u64 r3, .int .u64 r4]) ∧ Below W0.heap.size W0 w2 from ⟨he, hb.trans (hb2.mono hb.size)⟩)))
  have QB := Lib.hid (fun (w1 : World) (hb : Below W0.heap.size W0 w1) => (HC2.out w1).mono (fun e w2 ⟨he, hb2⟩ => (show e = Ending.returned (.agg #[.int .u64 s0, .int .u64 s1, .int .u64 s2, .int .u64 s3, .int .u64 s4]) ∧ Below W0.heap.size W0 w2 from ⟨he, hb.trans (hb2.mono hb.size)⟩)))
  have HQ2 := Lib.hid hq2
  try simp only [hB1]
  rw [← hW0]
  clear hW0 g1 g2 hs0 hq2
  refine wp_region_quiet (C := fun w1 => Below W0.heap.size W0 w1) (by kernel_rfl) (by kernel_rfl) ((Below.refl _ _).drew) ?_
  repeat (first | go_big_quiet_skip | (refine wpQuiet_step (fun K hK => ?_); go_simp; first | (refine hK _ ?_; clear hK K) | (apply Exists.intro; refine ⟨fun w1 hw1 => ?_, hK _ ?_⟩; (first | with_reducible rfl | with_reducible exact QA.out _ hw1 | with_reducible exact QB.out _ hw1 | (obtain ⟨⟨q1, q2, q3, q4, q5⟩, p1, p2, p3, p4, p5⟩ := HRD.out _ hw1; go_simp; with_reducible rfl) | (have hqq := HQ2.out w1; go_simp; with_reducible rfl)); clear hK K)))
  refine wpQuiet_nil ?_
  intro w2 hw2
  have HW2 := Lib.hid (HBW.out.trans (hw2.mono HBW.out.size))
  clear hw2
  go_wp2
  go_ret
  exact ⟨rfl, HW2.out⟩

end Go.Proofs.YtdmioipdmdmkhaaDoor
