/- FieldSquares: the walk. -/
import Derived.Test.YtdmioipdmdmkhaaDoorB3
set_option linter.unusedVariables false
set_option linter.unusedSimpArgs false
namespace Go.Proofs.YtdmioipdmdmkhaaDoor
open Go.RowKit

set_option maxRecDepth 100000 in
set_option maxHeartbeats 16000000 in
theorem squares_any (f : Nat → Nat) (hf : ∀ b, b < 32 → f b < 256) (g : Nat → Nat) (hg : ∀ b, b < 32 → g b < 256) (w : World) (h4 : Four w) : Calls Tryd.prog 8 #[.agg (kArr f), .agg (kArr g)] w fun r w' => r = .returned (.bool true) ∧ Below w.heap.size w w' := by
  have H4 := Lib.hid h4
  have h4p := h4.pos
  clear h4
  obtain ⟨V, hV⟩ : ∃ V, V = ((w.alloc (.cells (kArr f) 23)).alloc (.cells (kArr g) 23)) := ⟨_, rfl⟩
  have G0 := Lib.hid (show V.heap[w.heap.size]? = some (.cells (kArr f) 23 (0, 0)) from by rw [hV]; rw [Below.heap_alloc _ _ _ (by simp; try omega)]; exact alloc_at (by simp))
  have G1 := Lib.hid (show V.heap[w.heap.size + 1]? = some (.cells (kArr g) 23 (0, 0)) from by rw [hV]; exact alloc_at (by simp))
  have BV := Lib.hid (show Below w.heap.size w V from by rw [hV]; exact (alloc_only w _).alloc (by simp; try omega) _)
  have VS := Lib.hid (show V.heap.size = w.heap.size + 1 + 1 from by rw [hV]; simp)
  have Of := Lib.hid (of_any f hf)
  have Lf := Lib.hid (ofL_el hf)
  obtain ⟨x0, x1, x2, x3, x4, hcf⟩ : ∃ a b c d e, ofL f = ⟨a, b, c, d, e⟩ := ⟨_, _, _, _, _, rfl⟩
  rw [hcf] at Of Lf
  unfold Det L5.v limbsV at Of
  dsimp only at Of
  generalize kVal f % 57896044618658097711785492504343953926634992332820282019728792003956564819968 % pr = nf at Lf
  clear hcf
  have Og := Lib.hid (of_any g hg)
  have Lg := Lib.hid (ofL_el hg)
  obtain ⟨y0, y1, y2, y3, y4, hcg⟩ : ∃ a b c d e, ofL g = ⟨a, b, c, d, e⟩ := ⟨_, _, _, _, _, rfl⟩
  rw [hcg] at Og Lg
  unfold Det L5.v limbsV at Og
  dsimp only at Og
  generalize kVal g % 57896044618658097711785492504343953926634992332820282019728792003956564819968 % pr = ng at Lg
  clear hcg
  go_enter Tryd.func8, Tryd.ntmps8
  go_wp2_with fail
  rw [← hV]
  refine (awakeF_any _ (H4.out.below h4p BV.out)).mono ?_
  rintro e wa ⟨rfl, hba⟩
  have C0 := Lib.hid hba
  have CB := Lib.hid (BV.out.trans (hba.mono BV.out.size))
  clear hba hV
  have F0 := Lib.hid ((C0.out.block (w.heap.size) (by have := VS.out; omega)).trans G0.out)
  go_wp2_with (refine wpList_load_row rfl 23 (.tmp 2) rfl (w.heap.size) rfl 23 (kArr f) (0, 0) _ F0.out Tryd.underlying23 rfl info23 ?_)
  refine (Of.out _).mono ?_
  rintro e wo0 ⟨rfl, hbo0⟩
  have M0 := Lib.hid (C0.out.trans (hbo0.mono C0.out.size))
  have C1 := Lib.hid (M0.out.alloc M0.out.size (.cells (c5 x0 x1 x2 x3 x4) 33))
  have X0_1 := Lib.hid (show (wo0.alloc (.cells (c5 x0 x1 x2 x3 x4) 33)).heap[wo0.heap.size]? = some (.cells (c5 x0 x1 x2 x3 x4) 33 (0, 0)) from alloc_at rfl)
  clear hbo0
  have F1 := Lib.hid ((C1.out.block (w.heap.size + 1) (by have := VS.out; omega)).trans G1.out)
  go_wp2_with (refine wpList_load_row rfl 23 (.tmp 3) rfl (w.heap.size + 1) rfl 23 (kArr g) (0, 0) _ F1.out Tryd.underlying23 rfl info23 ?_)
  refine (Og.out _).mono ?_
  rintro e wo1 ⟨rfl, hbo1⟩
  have M1 := Lib.hid (C1.out.trans (hbo1.mono C1.out.size))
  have C2 := Lib.hid (M1.out.alloc M1.out.size (.cells (c5 y0 y1 y2 y3 y4) 33))
  have X0_2 := Lib.hid (show (wo1.alloc (.cells (c5 y0 y1 y2 y3 y4) 33)).heap[wo0.heap.size]? = some (.cells (c5 x0 x1 x2 x3 x4) 33 (0, 0)) from by rw [Below.heap_alloc _ _ _ (Nat.lt_of_lt_of_le (heap_lt X0_1.out) hbo1.size)]; exact (hbo1.block _ (heap_lt X0_1.out)).trans X0_1.out)
  have X1_2 := Lib.hid (show (wo1.alloc (.cells (c5 y0 y1 y2 y3 y4) 33)).heap[wo1.heap.size]? = some (.cells (c5 y0 y1 y2 y3 y4) 33 (0, 0)) from alloc_at rfl)
  clear hbo1
  obtain ⟨W, hW⟩ : ∃ W, W = wo1.alloc (.cells (c5 y0 y1 y2 y3 y4) 33) := ⟨_, rfl⟩
  rw [← hW] at C2 X0_2 X1_2
  have HBW := Lib.hid (BV.out.trans (C2.out.mono BV.out.size))
  have HRD := Lib.hid (fun (w1 : World) (hb : Below W.heap.size W w1) => (show (w1.cell? ⟨wo0.heap.size, 0, none⟩ = some (.int .u64 x0) ∧ w1.cell? ⟨wo0.heap.size, 1, none⟩ = some (.int .u64 x1) ∧ w1.cell? ⟨wo0.heap.size, 2, none⟩ = some (.int .u64 x2) ∧ w1.cell? ⟨wo0.heap.size, 3, none⟩ = some (.int .u64 x3) ∧ w1.cell? ⟨wo0.heap.size, 4, none⟩ = some (.int .u64 x4)) ∧ (w1.cell? ⟨wo1.heap.size, 0, none⟩ = some (.int .u64 y0) ∧ w1.cell? ⟨wo1.heap.size, 1, none⟩ = some (.int .u64 y1) ∧ w1.cell? ⟨wo1.heap.size, 2, none⟩ = some (.int .u64 y2) ∧ w1.cell? ⟨wo1.heap.size, 3, none⟩ = some (.int .u64 y3) ∧ w1.cell? ⟨wo1.heap.size, 4, none⟩ = some (.int .u64 y4)) from ⟨(facts5 ((hb.block _ (heap_lt X0_2.out)).trans X0_2.out)).1, (facts5 ((hb.block _ (heap_lt X1_2.out)).trans X1_2.out)).1⟩))
  have E_x : El (limbsV x0 x1 x2 x3 x4) nf := Lf.out
  have lt_x := E_x.lt
  have E_y : El (limbsV y0 y1 y2 y3 y4) ng := Lg.out
  have lt_y := E_y.lt
  obtain ⟨e2, d2⟩ := addV_spec E_x E_y
  generalize addV (limbsV x0 x1 x2 x3 x4) (limbsV y0 y1 y2 y3 y4) = rv2 at e2 d2
  have Q2 := Lib.hid (fun (w1 : World) (hb : Below W.heap.size W w1) => (d2 w1).mono (fun e w2 ⟨h, hb2⟩ => (show e = Ending.returned rv2 ∧ Below W.heap.size W w2 from ⟨h, hb.trans (hb2.mono hb.size)⟩)))
  try unfold limbsV at Q2
  clear d2
  obtain ⟨e3, d3⟩ := subV_spec E_x E_y
  generalize subV (limbsV x0 x1 x2 x3 x4) (limbsV y0 y1 y2 y3 y4) = rv3 at e3 d3
  have Q3 := Lib.hid (fun (w1 : World) (hb : Below W.heap.size W w1) => (d3 w1 (H4.out.below h4p (HBW.out.trans (hb.mono HBW.out.size)))).mono (fun e w2 ⟨h, hb2⟩ => (show e = Ending.returned rv3 ∧ Below W.heap.size W w2 from ⟨h, hb.trans (hb2.mono hb.size)⟩)))
  try unfold limbsV at Q3
  clear d3
  obtain ⟨e1, d1⟩ := mulV_spec e2 e3
  generalize mulV rv2 rv3 = rv1 at e1 d1
  have Q1 := Lib.hid (fun (w1 : World) (hb : Below W.heap.size W w1) => (d1 w1).mono (fun e w2 ⟨h, hb2⟩ => (show e = Ending.returned rv1 ∧ Below W.heap.size W w2 from ⟨h, hb.trans (hb2.mono hb.size)⟩)))
  try unfold limbsV at Q1
  clear d1
  obtain ⟨e5, d5⟩ := mulV_spec E_x E_x
  generalize mulV (limbsV x0 x1 x2 x3 x4) (limbsV x0 x1 x2 x3 x4) = rv5 at e5 d5
  have Q5 := Lib.hid (fun (w1 : World) (hb : Below W.heap.size W w1) => (d5 w1).mono (fun e w2 ⟨h, hb2⟩ => (show e = Ending.returned rv5 ∧ Below W.heap.size W w2 from ⟨h, hb.trans (hb2.mono hb.size)⟩)))
  try unfold limbsV at Q5
  clear d5
  obtain ⟨e6, d6⟩ := mulV_spec E_y E_y
  generalize mulV (limbsV y0 y1 y2 y3 y4) (limbsV y0 y1 y2 y3 y4) = rv6 at e6 d6
  have Q6 := Lib.hid (fun (w1 : World) (hb : Below W.heap.size W w1) => (d6 w1).mono (fun e w2 ⟨h, hb2⟩ => (show e = Ending.returned rv6 ∧ Below W.heap.size W w2 from ⟨h, hb.trans (hb2.mono hb.size)⟩)))
  try unfold limbsV at Q6
  clear d6
  obtain ⟨e4, d4⟩ := subV_spec e5 e6
  generalize subV rv5 rv6 = rv4 at e4 d4
  have Q4 := Lib.hid (fun (w1 : World) (hb : Below W.heap.size W w1) => (d4 w1 (H4.out.below h4p (HBW.out.trans (hb.mono HBW.out.size)))).mono (fun e w2 ⟨h, hb2⟩ => (show e = Ending.returned rv4 ∧ Below W.heap.size W w2 from ⟨h, hb.trans (hb2.mono hb.size)⟩)))
  try unfold limbsV at Q4
  clear d4
  have d7 := fun w => equal_true e1 e4 (pSquares _ _ lt_y) w
  have Q7 := Lib.hid (fun (w1 : World) (hb : Below W.heap.size W w1) => (d7 w1).mono (fun e w2 ⟨h, hb2⟩ => (show e = Ending.returned (.bool true) ∧ Below W.heap.size W w2 from ⟨h, hb.trans (hb2.mono hb.size)⟩)))
  try unfold limbsV at Q7
  clear d7
  have e9 := invV_el E_x
  have d9 := invert_any E_x
  generalize invV (limbsV x0 x1 x2 x3 x4) = rv9 at e9 d9
  have Q9 := Lib.hid (fun (w1 : World) (hb : Below W.heap.size W w1) => (d9 w1).mono (fun e w2 ⟨h, hb2⟩ => (show e = Ending.returned rv9 ∧ Below W.heap.size W w2 from ⟨h, hb.trans (hb2.mono hb.size)⟩)))
  try unfold limbsV at Q9
  clear d9
  have e8 := invV_el e9
  have d8 := invert_any e9
  generalize invV rv9 = rv8 at e8 d8
  have Q8 := Lib.hid (fun (w1 : World) (hb : Below W.heap.size W w1) => (d8 w1).mono (fun e w2 ⟨h, hb2⟩ => (show e = Ending.returned rv8 ∧ Below W.heap.size W w2 from ⟨h, hb.trans (hb2.mono hb.size)⟩)))
  try unfold limbsV at Q8
  clear d8
  have d10 := fun w => equal_true e8 E_x (inv_inv lt_x) w
  have Q10 := Lib.hid (fun (w1 : World) (hb : Below W.heap.size W w1) => (d10 w1).mono (fun e w2 ⟨h, hb2⟩ => (show e = Ending.returned (.bool true) ∧ Below W.heap.size W w2 from ⟨h, hb.trans (hb2.mono hb.size)⟩)))
  try unfold limbsV at Q10
  clear d10
  obtain ⟨e12, d12⟩ := mulV_spec E_x E_y
  generalize mulV (limbsV x0 x1 x2 x3 x4) (limbsV y0 y1 y2 y3 y4) = rv12 at e12 d12
  have Q12 := Lib.hid (fun (w1 : World) (hb : Below W.heap.size W w1) => (d12 w1).mono (fun e w2 ⟨h, hb2⟩ => (show e = Ending.returned rv12 ∧ Below W.heap.size W w2 from ⟨h, hb.trans (hb2.mono hb.size)⟩)))
  try unfold limbsV at Q12
  clear d12
  have e11 := invV_el e12
  have d11 := invert_any e12
  generalize invV rv12 = rv11 at e11 d11
  have Q11 := Lib.hid (fun (w1 : World) (hb : Below W.heap.size W w1) => (d11 w1).mono (fun e w2 ⟨h, hb2⟩ => (show e = Ending.returned rv11 ∧ Below W.heap.size W w2 from ⟨h, hb.trans (hb2.mono hb.size)⟩)))
  try unfold limbsV at Q11
  clear d11
  have e14 := invV_el E_y
  have d14 := invert_any E_y
  generalize invV (limbsV y0 y1 y2 y3 y4) = rv14 at e14 d14
  have Q14 := Lib.hid (fun (w1 : World) (hb : Below W.heap.size W w1) => (d14 w1).mono (fun e w2 ⟨h, hb2⟩ => (show e = Ending.returned rv14 ∧ Below W.heap.size W w2 from ⟨h, hb.trans (hb2.mono hb.size)⟩)))
  try unfold limbsV at Q14
  clear d14
  obtain ⟨e13, d13⟩ := mulV_spec e9 e14
  generalize mulV rv9 rv14 = rv13 at e13 d13
  have Q13 := Lib.hid (fun (w1 : World) (hb : Below W.heap.size W w1) => (d13 w1).mono (fun e w2 ⟨h, hb2⟩ => (show e = Ending.returned rv13 ∧ Below W.heap.size W w2 from ⟨h, hb.trans (hb2.mono hb.size)⟩)))
  try unfold limbsV at Q13
  clear d13
  have d15 := fun w => equal_true e11 e13 (pow_prod _ _ _) w
  have Q15 := Lib.hid (fun (w1 : World) (hb : Below W.heap.size W w1) => (d15 w1).mono (fun e w2 ⟨h, hb2⟩ => (show e = Ending.returned (.bool true) ∧ Below W.heap.size W w2 from ⟨h, hb.trans (hb2.mono hb.size)⟩)))
  try unfold limbsV at Q15
  clear d15
  clear E_x lt_x E_y lt_y
  go_wp2
  rw [← hW]
  clear hW
  refine wp_region_quiet (C := fun w1 => Below W.heap.size W w1) (by kernel_rfl) (by kernel_rfl) ((Below.refl W.heap.size W).drew) ?_
  repeat (first | go_big_quiet_skip | (refine wpQuiet_step (fun K hK => ?_); go_simp; first | (refine hK _ ?_; clear hK K) | (apply Exists.intro; refine ⟨fun w1 hw1 => ?_, hK _ ?_⟩; (first | with_reducible rfl | with_reducible exact Q2.out _ hw1 | with_reducible exact Q3.out _ hw1 | with_reducible exact Q1.out _ hw1 | with_reducible exact Q5.out _ hw1 | with_reducible exact Q6.out _ hw1 | with_reducible exact Q4.out _ hw1 | with_reducible exact Q7.out _ hw1 | (obtain ⟨⟨q00, q01, q02, q03, q04⟩, q10, q11, q12, q13, q14⟩ := HRD.out _ hw1; go_simp; with_reducible rfl)); clear hK K)))
  refine wpQuiet_nil ?_
  intro wq0 hwq0
  have HQ0 := Lib.hid hwq0
  clear hwq0
  go_wp2
  refine wp_region_quiet (C := fun w1 => Below W.heap.size W w1) (by kernel_rfl) (by kernel_rfl) (HQ0.out.drew) ?_
  repeat (first | go_big_quiet_skip | (refine wpQuiet_step (fun K hK => ?_); go_simp; first | (refine hK _ ?_; clear hK K) | (apply Exists.intro; refine ⟨fun w1 hw1 => ?_, hK _ ?_⟩; (first | with_reducible rfl | with_reducible exact Q2.out _ hw1 | with_reducible exact Q3.out _ hw1 | with_reducible exact Q1.out _ hw1 | with_reducible exact Q5.out _ hw1 | with_reducible exact Q6.out _ hw1 | with_reducible exact Q4.out _ hw1 | with_reducible exact Q7.out _ hw1 | with_reducible exact Q9.out _ hw1 | with_reducible exact Q8.out _ hw1 | with_reducible exact Q10.out _ hw1 | (obtain ⟨⟨q00, q01, q02, q03, q04⟩, q10, q11, q12, q13, q14⟩ := HRD.out _ hw1; go_simp; with_reducible rfl)); clear hK K)))
  refine wpQuiet_nil ?_
  intro wq1 hwq1
  have HQ1 := Lib.hid hwq1
  clear hwq1
  go_wp2
  refine wp_region_quiet (C := fun w1 => Below W.heap.size W w1) (by kernel_rfl) (by kernel_rfl) (HQ1.out.drew) ?_
  repeat (first | go_big_quiet_skip | (refine wpQuiet_step (fun K hK => ?_); go_simp; first | (refine hK _ ?_; clear hK K) | (apply Exists.intro; refine ⟨fun w1 hw1 => ?_, hK _ ?_⟩; (first | with_reducible rfl | with_reducible exact Q2.out _ hw1 | with_reducible exact Q3.out _ hw1 | with_reducible exact Q1.out _ hw1 | with_reducible exact Q5.out _ hw1 | with_reducible exact Q6.out _ hw1 | with_reducible exact Q4.out _ hw1 | with_reducible exact Q7.out _ hw1 | with_reducible exact Q9.out _ hw1 | with_reducible exact Q8.out _ hw1 | with_reducible exact Q10.out _ hw1 | with_reducible exact Q12.out _ hw1 | with_reducible exact Q11.out _ hw1 | with_reducible exact Q14.out _ hw1 | with_reducible exact Q13.out _ hw1 | with_reducible exact Q15.out _ hw1 | (obtain ⟨⟨q00, q01, q02, q03, q04⟩, q10, q11, q12, q13, q14⟩ := HRD.out _ hw1; go_simp; with_reducible rfl)); clear hK K)))
  refine wpQuiet_nil ?_
  intro wq2 hwq2
  have HQ2 := Lib.hid hwq2
  clear hwq2
  go_wp2
  go_ret
  exact ⟨rfl, HBW.out.trans (HQ2.out.mono HBW.out.size)⟩

end Go.Proofs.YtdmioipdmdmkhaaDoor
