/- FieldBack: the walk. -/
import Derived.Test.YtdmioipdmdmkhaaDoorB3
import Derived.Deep.RegionHeld3
set_option linter.unusedVariables false
set_option linter.unusedSimpArgs false
namespace Go.Proofs.YtdmioipdmdmkhaaDoor
open Go.RowKit

def Keep (W : World) (B : Nat) (o : Obj) (w1 : World) : Prop := Below W.heap.size W w1 ∧ w1.heap[B]? = some o
theorem Keep.step {W w1 w2 : World} {B : Nat} {o : Obj} (h : Keep W B o w1) (hb : Below w1.heap.size w1 w2) : Keep W B o w2 :=
  ⟨h.1.trans (hb.mono h.1.size), (hb.block _ (heap_lt h.2)).trans h.2⟩
theorem Keep.drew {W w1 : World} {B : Nat} {o : Obj} (h : Keep W B o w1) : Keep W B o { w1 with drawn := w1.drawn + 1 } := ⟨h.1.drew, h.2⟩
set_option maxRecDepth 100000 in
set_option maxHeartbeats 16000000 in
theorem back_any (f : Nat → Nat) (hf : ∀ b, b < 32 → f b < 256) (g : Nat → Nat) (hg : ∀ b, b < 32 → g b < 256) (w : World) (h4 : Four w) : Calls Tryd.prog 9 #[.agg (kArr f), .agg (kArr g)] w fun r w' => r = .returned (.bool true) ∧ Below w.heap.size w w' := by
  have H4 := Lib.hid h4
  have h4p := h4.pos
  clear h4
  obtain ⟨V, hV⟩ : ∃ V, V = ((w.alloc (.cells (kArr f) 23)).alloc (.cells (kArr g) 23)) := ⟨_, rfl⟩
  have G0 := Lib.hid (show V.heap[w.heap.size]? = some (.cells (kArr f) 23 (0, 0)) from by rw [hV]; rw [Below.heap_alloc _ _ _ (by simp; try omega)]; exact alloc_at (by simp))
  have G1 := Lib.hid (show V.heap[w.heap.size + 1]? = some (.cells (kArr g) 23 (0, 0)) from by rw [hV]; exact alloc_at (by simp))
  have BV := Lib.hid (show Below w.heap.size w V from by rw [hV]; exact (alloc_only w _).alloc (by simp; try omega) _)
  have VS := Lib.hid (show V.heap.size = w.heap.size + 1 + 1 from by rw [hV]; simp)
  have Of := Lib.hid (of_any f hf)
  have Lf := Lib.hid (ofL_el hf)
  obtain ⟨x0, x1, x2, x3, x4, hcf⟩ : ∃ a b c d e, ofL f = ⟨a, b, c, d, e⟩ := ⟨_, _, _, _, _, rfl⟩
  rw [hcf] at Of Lf
  unfold Det L5.v limbsV at Of
  dsimp only at Of
  generalize kVal f % 57896044618658097711785492504343953926634992332820282019728792003956564819968 % pr = nf at Lf
  clear hcf
  have Og := Lib.hid (of_any g hg)
  have Lg := Lib.hid (ofL_el hg)
  obtain ⟨y0, y1, y2, y3, y4, hcg⟩ : ∃ a b c d e, ofL g = ⟨a, b, c, d, e⟩ := ⟨_, _, _, _, _, rfl⟩
  rw [hcg] at Og Lg
  unfold Det L5.v limbsV at Og
  dsimp only at Og
  generalize kVal g % 57896044618658097711785492504343953926634992332820282019728792003956564819968 % pr = ng at Lg
  clear hcg
  go_enter Tryd.func9, Tryd.ntmps9
  go_wp2_with fail
  rw [← hV]
  refine (awakeF_any _ (H4.out.below h4p BV.out)).mono ?_
  rintro e wa ⟨rfl, hba⟩
  have C0 := Lib.hid hba
  have CB := Lib.hid (BV.out.trans (hba.mono BV.out.size))
  clear hba hV
  have F0 := Lib.hid ((C0.out.block (w.heap.size) (by have := VS.out; omega)).trans G0.out)
  go_wp2_with (refine wpList_load_row rfl 23 (.tmp 2) rfl (w.heap.size) rfl 23 (kArr f) (0, 0) _ F0.out Tryd.underlying23 rfl info23 ?_)
  refine (Of.out _).mono ?_
  rintro e wo0 ⟨rfl, hbo0⟩
  have M0 := Lib.hid (C0.out.trans (hbo0.mono C0.out.size))
  have C1 := Lib.hid (M0.out.alloc M0.out.size (.cells (c5 x0 x1 x2 x3 x4) 33))
  have X0_1 := Lib.hid (show (wo0.alloc (.cells (c5 x0 x1 x2 x3 x4) 33)).heap[wo0.heap.size]? = some (.cells (c5 x0 x1 x2 x3 x4) 33 (0, 0)) from alloc_at rfl)
  clear hbo0
  have F1 := Lib.hid ((C1.out.block (w.heap.size + 1) (by have := VS.out; omega)).trans G1.out)
  go_wp2_with (refine wpList_load_row rfl 23 (.tmp 3) rfl (w.heap.size + 1) rfl 23 (kArr g) (0, 0) _ F1.out Tryd.underlying23 rfl info23 ?_)
  refine (Og.out _).mono ?_
  rintro e wo1 ⟨rfl, hbo1⟩
  have M1 := Lib.hid (C1.out.trans (hbo1.mono C1.out.size))
  have C2 := Lib.hid (M1.out.alloc M1.out.size (.cells (c5 y0 y1 y2 y3 y4) 33))
  have X0_2 := Lib.hid (show (wo1.alloc (.cells (c5 y0 y1 y2 y3 y4) 33)).heap[wo0.heap.size]? = some (.cells (c5 x0 x1 x2 x3 x4) 33 (0, 0)) from by rw [Below.heap_alloc _ _ _ (Nat.lt_of_lt_of_le (heap_lt X0_1.out) hbo1.size)]; exact (hbo1.block _ (heap_lt X0_1.out)).trans X0_1.out)
  have X1_2 := Lib.hid (show (wo1.alloc (.cells (c5 y0 y1 y2 y3 y4) 33)).heap[wo1.heap.size]? = some (.cells (c5 y0 y1 y2 y3 y4) 33 (0, 0)) from alloc_at rfl)
  clear hbo1
  obtain ⟨W, hW⟩ : ∃ W, W = wo1.alloc (.cells (c5 y0 y1 y2 y3 y4) 33) := ⟨_, rfl⟩
  rw [← hW] at C2 X0_2 X1_2
  have HBW := Lib.hid (BV.out.trans (C2.out.mono BV.out.size))
  have HRD := Lib.hid (fun (w1 : World) (hb : Below W.heap.size W w1) => (show (w1.cell? ⟨wo0.heap.size, 0, none⟩ = some (.int .u64 x0) ∧ w1.cell? ⟨wo0.heap.size, 1, none⟩ = some (.int .u64 x1) ∧ w1.cell? ⟨wo0.heap.size, 2, none⟩ = some (.int .u64 x2) ∧ w1.cell? ⟨wo0.heap.size, 3, none⟩ = some (.int .u64 x3) ∧ w1.cell? ⟨wo0.heap.size, 4, none⟩ = some (.int .u64 x4)) ∧ (w1.cell? ⟨wo1.heap.size, 0, none⟩ = some (.int .u64 y0) ∧ w1.cell? ⟨wo1.heap.size, 1, none⟩ = some (.int .u64 y1) ∧ w1.cell? ⟨wo1.heap.size, 2, none⟩ = some (.int .u64 y2) ∧ w1.cell? ⟨wo1.heap.size, 3, none⟩ = some (.int .u64 y3) ∧ w1.cell? ⟨wo1.heap.size, 4, none⟩ = some (.int .u64 y4)) from ⟨(facts5 ((hb.block _ (heap_lt X0_2.out)).trans X0_2.out)).1, (facts5 ((hb.block _ (heap_lt X1_2.out)).trans X1_2.out)).1⟩))
  have E_x : El (limbsV x0 x1 x2 x3 x4) nf := Lf.out
  have lt_x := E_x.lt
  have E_y : El (limbsV y0 y1 y2 y3 y4) ng := Lg.out
  have lt_y := E_y.lt
  obtain ⟨e2, d2⟩ := addV_spec E_x E_y
  generalize addV (limbsV x0 x1 x2 x3 x4) (limbsV y0 y1 y2 y3 y4) = rv2 at e2 d2
  have Q2 := Lib.hid (fun (w1 : World) (hb : Below W.heap.size W w1) => (d2 w1).mono (fun e w2 ⟨h, hb2⟩ => (show e = Ending.returned rv2 ∧ Below W.heap.size W w2 from ⟨h, hb.trans (hb2.mono hb.size)⟩)))
  try unfold limbsV at Q2
  clear d2
  obtain ⟨e1, d1⟩ := subV_spec e2 E_y
  generalize subV rv2 (limbsV y0 y1 y2 y3 y4) = rv1 at e1 d1
  have Q1 := Lib.hid (fun (w1 : World) (hb : Below W.heap.size W w1) => (d1 w1 (H4.out.below h4p (HBW.out.trans (hb.mono HBW.out.size)))).mono (fun e w2 ⟨h, hb2⟩ => (show e = Ending.returned rv1 ∧ Below W.heap.size W w2 from ⟨h, hb.trans (hb2.mono hb.size)⟩)))
  try unfold limbsV at Q1
  clear d1
  have d3 := fun w => equal_true e1 E_x (pBackAdd _ _ lt_x lt_y) w
  have Q3 := Lib.hid (fun (w1 : World) (hb : Below W.heap.size W w1) => (d3 w1).mono (fun e w2 ⟨h, hb2⟩ => (show e = Ending.returned (.bool true) ∧ Below W.heap.size W w2 from ⟨h, hb.trans (hb2.mono hb.size)⟩)))
  try unfold limbsV at Q3
  clear d3
  obtain ⟨e5, d5⟩ := subV_spec E_x E_y
  generalize subV (limbsV x0 x1 x2 x3 x4) (limbsV y0 y1 y2 y3 y4) = rv5 at e5 d5
  have Q5 := Lib.hid (fun (w1 : World) (hb : Below W.heap.size W w1) => (d5 w1 (H4.out.below h4p (HBW.out.trans (hb.mono HBW.out.size)))).mono (fun e w2 ⟨h, hb2⟩ => (show e = Ending.returned rv5 ∧ Below W.heap.size W w2 from ⟨h, hb.trans (hb2.mono hb.size)⟩)))
  try unfold limbsV at Q5
  clear d5
  obtain ⟨e4, d4⟩ := addV_spec e5 E_y
  generalize addV rv5 (limbsV y0 y1 y2 y3 y4) = rv4 at e4 d4
  have Q4 := Lib.hid (fun (w1 : World) (hb : Below W.heap.size W w1) => (d4 w1).mono (fun e w2 ⟨h, hb2⟩ => (show e = Ending.returned rv4 ∧ Below W.heap.size W w2 from ⟨h, hb.trans (hb2.mono hb.size)⟩)))
  try unfold limbsV at Q4
  clear d4
  have d6 := fun w => equal_true e4 E_x (pBackSub _ _ lt_x lt_y) w
  have Q6 := Lib.hid (fun (w1 : World) (hb : Below W.heap.size W w1) => (d6 w1).mono (fun e w2 ⟨h, hb2⟩ => (show e = Ending.returned (.bool true) ∧ Below W.heap.size W w2 from ⟨h, hb.trans (hb2.mono hb.size)⟩)))
  try unfold limbsV at Q6
  clear d6
  obtain ⟨BZ1, BZ0⟩ := pInvOne nf lt_x
  obtain ⟨ei, di⟩ : El (invV (limbsV x0 x1 x2 x3 x4)) _ ∧ _ := ⟨invV_el E_x, invert_any E_x⟩
  obtain ⟨ec, dc⟩ := mulV_spec E_x ei
  generalize invV (limbsV x0 x1 x2 x3 x4) = vi at ei di ec dc
  generalize mulV (limbsV x0 x1 x2 x3 x4) vi = vc at ec dc
  obtain ⟨c0, c1, c2, c3, c4, rfl⟩ := ec.limbs
  obtain ⟨es0, ds0⟩ := smallV_spec 0 (by omega)
  obtain ⟨es1, ds1⟩ := smallV_spec 1 (by omega)
  replace ds0 : Det 29 #[.int .u64 0] (smallV 0) := ds0
  replace ds1 : Det 29 #[.int .u64 1] (smallV 1) := ds1
  obtain ⟨ea0, da0⟩ := addV_spec E_x es0
  obtain ⟨em1, dm1⟩ := mulV_spec E_x es1
  obtain ⟨em0, dm0⟩ := mulV_spec E_x es0
  have dq8a := fun w => equal_true ea0 E_x (pAddZero _ lt_x) w
  have dq8b := fun w => equal_true em1 E_x (pMulOne _ lt_x) w
  have dq9 := fun w => isZero_any em0 w
  rw [show decide (nf * 0 % pr = 0) = true from decide_eq_true (pMulZero _)] at dq9
  obtain ⟨ess, dss⟩ := subV_spec E_x E_x
  have dq10 := fun w => isZero_any ess w
  rw [show decide (subP nf nf = 0) = true from decide_eq_true (pSubSelf _ lt_x)] at dq10
  have dq11 := fun w => equal_any ec es1 w
  have dq12 := fun w => isZero_any ec w
  have dq7 := fun w => isZero_any E_x w
  rw [BZ1] at dq11
  rw [BZ0] at dq12
  generalize decide (nf = 0) = bz at dq7 dq11 dq12
  generalize smallV 0 = vs0 at *
  generalize smallV 1 = vs1 at *
  generalize addV (limbsV x0 x1 x2 x3 x4) vs0 = va0 at *
  generalize mulV (limbsV x0 x1 x2 x3 x4) vs1 = vm1 at *
  generalize mulV (limbsV x0 x1 x2 x3 x4) vs0 = vm0 at *
  generalize subV (limbsV x0 x1 x2 x3 x4) (limbsV x0 x1 x2 x3 x4) = vss at *
  clear E_x lt_x E_y lt_y BZ1 BZ0 ec ei es0 es1 ea0 em1 em0 ess
  have DI := Lib.hid di
  have DC := Lib.hid dc
  have D7 := Lib.hid dq7
  have DS0 := Lib.hid ds0
  have DS1 := Lib.hid ds1
  have DA0 := Lib.hid da0
  have DM1 := Lib.hid dm1
  have DM0 := Lib.hid dm0
  have DSS := Lib.hid dss
  have D8A := Lib.hid dq8a
  have D8B := Lib.hid dq8b
  have D9 := Lib.hid dq9
  have D10 := Lib.hid dq10
  have D11 := Lib.hid dq11
  have D12 := Lib.hid dq12
  clear di dc dq7 ds0 ds1 da0 dm1 dm0 dss dq8a dq8b dq9 dq10 dq11 dq12
  unfold limbsV at DI DC D7 DA0 DM1 DM0 DSS D8A D8B D11 D12
  go_wp2
  rw [← hW]
  clear hW
  refine wp_region_quiet (C := fun w1 => Below W.heap.size W w1) (by kernel_rfl) (by kernel_rfl) ((Below.refl W.heap.size W).drew) ?_
  repeat (first | go_big_quiet_skip | (refine wpQuiet_step (fun K hK => ?_); go_simp; first | (refine hK _ ?_; clear hK K) | (apply Exists.intro; refine ⟨fun w1 hw1 => ?_, hK _ ?_⟩; (first | with_reducible rfl | with_reducible exact Q2.out _ hw1 | with_reducible exact Q1.out _ hw1 | with_reducible exact Q3.out _ hw1 | (obtain ⟨⟨q00, q01, q02, q03, q04⟩, q10, q11, q12, q13, q14⟩ := HRD.out _ hw1; go_simp; with_reducible rfl)); clear hK K)))
  refine wpQuiet_nil ?_
  intro wq0 hwq0
  have HQ0 := Lib.hid hwq0
  clear hwq0
  go_wp2
  refine wp_region_quiet (C := fun w1 => Below W.heap.size W w1) (by kernel_rfl) (by kernel_rfl) (HQ0.out.drew) ?_
  repeat (first | go_big_quiet_skip | (refine wpQuiet_step (fun K hK => ?_); go_simp; first | (refine hK _ ?_; clear hK K) | (apply Exists.intro; refine ⟨fun w1 hw1 => ?_, hK _ ?_⟩; (first | with_reducible rfl | with_reducible exact Q2.out _ hw1 | with_reducible exact Q1.out _ hw1 | with_reducible exact Q3.out _ hw1 | with_reducible exact Q5.out _ hw1 | with_reducible exact Q4.out _ hw1 | with_reducible exact Q6.out _ hw1 | (obtain ⟨⟨q00, q01, q02, q03, q04⟩, q10, q11, q12, q13, q14⟩ := HRD.out _ hw1; go_simp; with_reducible rfl)); clear hK K)))
  refine wpQuiet_nil ?_
  intro wq1 hwq1
  have HQ1 := Lib.hid hwq1
  clear hwq1
  go_wp2
  obtain ⟨⟨q00, q01, q02, q03, q04⟩, q10, q11, q12, q13, q14⟩ := HRD.out _ HQ1.out
  have ne1 : wo0.heap.size ≠ wq1.heap.size := by have := HQ1.out.size; have := heap_lt X0_2.out; omega
  have nf1 := ne1.symm
  go_region_held3 (fun w' => w'.cell? ⟨wo0.heap.size, 0, none⟩ = some (.int .u64 x0) ∧ w'.cell? ⟨wo0.heap.size, 1, none⟩ = some (.int .u64 x1) ∧ w'.cell? ⟨wo0.heap.size, 2, none⟩ = some (.int .u64 x2) ∧ w'.cell? ⟨wo0.heap.size, 3, none⟩ = some (.int .u64 x3) ∧ w'.cell? ⟨wo0.heap.size, 4, none⟩ = some (.int .u64 x4))
    (first | exact (HRD.out _ (by first | assumption | exact HQ1.out.drew)).1 | go_keep)
    (first
      | (go_at_call 21; refine (DI.out _).mono ?_; rintro e w3 ⟨rfl, hb3⟩; first
          | (have hB3 : Below W.heap.size W w3 := HQ1.out.drew.trans (hb3.mono HQ1.out.size); have cB3 := HRD.out _ hB3; have ne3 : wo0.heap.size ≠ w3.heap.size := (by have := hB3.size; have := heap_lt X0_2.out; omega); have nf3 := ne3.symm; obtain ⟨⟨p00, p01, p02, p03, p04⟩, p10, p11, p12, p13, p14⟩ := cB3)
          | (have hB3 : Below W.heap.size W w3 := (HQ1.out.drew.alloc HQ1.out.size _).trans (hb3.mono (HQ1.out.drew.alloc HQ1.out.size _).size); have cB3 := HRD.out _ hB3; have ne3 : wo0.heap.size ≠ w3.heap.size := (by have := hB3.size; have := heap_lt X0_2.out; omega); have nf3 := ne3.symm; obtain ⟨⟨p00, p01, p02, p03, p04⟩, p10, p11, p12, p13, p14⟩ := cB3; have ZB3 : w3.heap[wq1.heap.size]? = some (.cells (c5 0 0 0 0 0) 33 (0, 0)) := (hb3.block _ (by simp)).trans (alloc_at rfl)))
      | (go_at_call 28; refine (DC.out _).mono ?_; rintro e w4 ⟨rfl, hb4⟩; first
          | (have hB4 : Below W.heap.size W w4 := (hB3.alloc hB3.size _).trans (hb4.mono (hB3.alloc hB3.size _).size); have cB4 := HRD.out _ hB4; have ne4 : wo0.heap.size ≠ w4.heap.size := (by have := hB4.size; have := heap_lt X0_2.out; omega); have nf4 := ne4.symm; obtain ⟨⟨p00, p01, p02, p03, p04⟩, p10, p11, p12, p13, p14⟩ := cB4; have ZB4 : w4.heap[w3.heap.size]? = some (.cells (c5 0 0 0 0 0) 33 (0, 0)) := (hb4.block _ (by simp)).trans (alloc_at rfl); have fB4 := facts5 ZB4; obtain ⟨⟨z0, z1, z2, z3, z4⟩, s0, s1, s2, s3, s4⟩ := fB4)
          | (have hB4 : Below W.heap.size W w4 := hB3.trans (hb4.mono hB3.size); have cB4 := HRD.out _ hB4; have ne4 : wo0.heap.size ≠ w4.heap.size := (by have := hB4.size; have := heap_lt X0_2.out; omega); have nf4 := ne4.symm; obtain ⟨⟨p00, p01, p02, p03, p04⟩, p10, p11, p12, p13, p14⟩ := cB4; have ZB4 := (hb4.block _ (heap_lt ZB3)).trans ZB3; have fB4 := facts5 ZB4; obtain ⟨⟨z0, z1, z2, z3, z4⟩, s0, s1, s2, s3, s4⟩ := fB4)
          | (have hB4 : Below W.heap.size W w4 := hB3.trans (hb4.mono hB3.size); have cB4 := HRD.out _ hB4; have ne4 : wo0.heap.size ≠ w4.heap.size := (by have := hB4.size; have := heap_lt X0_2.out; omega); have nf4 := ne4.symm; obtain ⟨⟨p00, p01, p02, p03, p04⟩, p10, p11, p12, p13, p14⟩ := cB4)))
  · have KK := Lib.hid (show Keep W w4.heap.size (.cells (c5 c0 c1 c2 c3 c4) 33 (0, 0)) (w4.alloc (.cells (c5 c0 c1 c2 c3 c4) 33)) from ⟨hB4.alloc hB4.size _, alloc_at rfl⟩)
    generalize (w4.alloc (.cells (c5 c0 c1 c2 c3 c4) 33)) = V2 at KK ⊢
    clear p00
    generalize w4.heap.size = B at KK ⊢
    have HRD2 := Lib.hid (fun (w1 : World) (hb : Keep W B (.cells (c5 c0 c1 c2 c3 c4) 33 (0, 0)) w1) => (show _ ∧ _ from ⟨(HRD.out _ hb.1).1, (facts5 hb.2).1⟩))
    have QS0 := Lib.hid (fun (w1 : World) (hb : Keep W B (.cells (c5 c0 c1 c2 c3 c4) 33 (0, 0)) w1) => (DS0.out w1).mono (fun e w2 ⟨h, hb2⟩ => (show e = Ending.returned _ ∧ Keep W B (.cells (c5 c0 c1 c2 c3 c4) 33 (0, 0)) w2 from ⟨h, hb.step hb2⟩)))
    have QS1 := Lib.hid (fun (w1 : World) (hb : Keep W B (.cells (c5 c0 c1 c2 c3 c4) 33 (0, 0)) w1) => (DS1.out w1).mono (fun e w2 ⟨h, hb2⟩ => (show e = Ending.returned _ ∧ Keep W B (.cells (c5 c0 c1 c2 c3 c4) 33 (0, 0)) w2 from ⟨h, hb.step hb2⟩)))
    have QA0 := Lib.hid (fun (w1 : World) (hb : Keep W B (.cells (c5 c0 c1 c2 c3 c4) 33 (0, 0)) w1) => (DA0.out w1).mono (fun e w2 ⟨h, hb2⟩ => (show e = Ending.returned _ ∧ Keep W B (.cells (c5 c0 c1 c2 c3 c4) 33 (0, 0)) w2 from ⟨h, hb.step hb2⟩)))
    have QM1 := Lib.hid (fun (w1 : World) (hb : Keep W B (.cells (c5 c0 c1 c2 c3 c4) 33 (0, 0)) w1) => (DM1.out w1).mono (fun e w2 ⟨h, hb2⟩ => (show e = Ending.returned _ ∧ Keep W B (.cells (c5 c0 c1 c2 c3 c4) 33 (0, 0)) w2 from ⟨h, hb.step hb2⟩)))
    have QM0 := Lib.hid (fun (w1 : World) (hb : Keep W B (.cells (c5 c0 c1 c2 c3 c4) 33 (0, 0)) w1) => (DM0.out w1).mono (fun e w2 ⟨h, hb2⟩ => (show e = Ending.returned _ ∧ Keep W B (.cells (c5 c0 c1 c2 c3 c4) 33 (0, 0)) w2 from ⟨h, hb.step hb2⟩)))
    have Q8A := Lib.hid (fun (w1 : World) (hb : Keep W B (.cells (c5 c0 c1 c2 c3 c4) 33 (0, 0)) w1) => (D8A.out w1).mono (fun e w2 ⟨h, hb2⟩ => (show e = Ending.returned _ ∧ Keep W B (.cells (c5 c0 c1 c2 c3 c4) 33 (0, 0)) w2 from ⟨h, hb.step hb2⟩)))
    have Q8B := Lib.hid (fun (w1 : World) (hb : Keep W B (.cells (c5 c0 c1 c2 c3 c4) 33 (0, 0)) w1) => (D8B.out w1).mono (fun e w2 ⟨h, hb2⟩ => (show e = Ending.returned _ ∧ Keep W B (.cells (c5 c0 c1 c2 c3 c4) 33 (0, 0)) w2 from ⟨h, hb.step hb2⟩)))
    have Q9 := Lib.hid (fun (w1 : World) (hb : Keep W B (.cells (c5 c0 c1 c2 c3 c4) 33 (0, 0)) w1) => (D9.out w1).mono (fun e w2 ⟨h, hb2⟩ => (show e = Ending.returned _ ∧ Keep W B (.cells (c5 c0 c1 c2 c3 c4) 33 (0, 0)) w2 from ⟨h, hb.step hb2⟩)))
    have Q11 := Lib.hid (fun (w1 : World) (hb : Keep W B (.cells (c5 c0 c1 c2 c3 c4) 33 (0, 0)) w1) => (D11.out w1).mono (fun e w2 ⟨h, hb2⟩ => (show e = Ending.returned _ ∧ Keep W B (.cells (c5 c0 c1 c2 c3 c4) 33 (0, 0)) w2 from ⟨h, hb.step hb2⟩)))
    try simp only [Exit.then]
    obtain ⟨⟨q00, q01, q02, q03, q04⟩, q10, q11, q12, q13, q14⟩ := HRD2.out _ KK.out
    go_wp2_with fail
    refine (D7.out _).mono ?_
    rintro e w7 ⟨rfl, hb7⟩
    have K7 := Lib.hid (KK.out.step hb7)
    clear hb7
    clear q00 q01 q02 q03 q04 q10 q11 q12 q13 q14
    go_wp2
    refine wp_region_quiet (C := fun w1 => Keep W B (.cells (c5 c0 c1 c2 c3 c4) 33 (0, 0)) w1) (by kernel_rfl) (by kernel_rfl) (K7.out.drew) ?_
    repeat (first | go_big_quiet_skip | (refine wpQuiet_step (fun K hK => ?_); go_simp; first | (refine hK _ ?_; clear hK K) | (apply Exists.intro; refine ⟨fun w1 hw1 => ?_, hK _ ?_⟩; (first | with_reducible rfl | with_reducible exact QS0.out _ hw1 | with_reducible exact QA0.out _ hw1 | with_reducible exact Q8A.out _ hw1 | with_reducible exact QS1.out _ hw1 | with_reducible exact QM1.out _ hw1 | with_reducible exact Q8B.out _ hw1 | (obtain ⟨⟨q00, q01, q02, q03, q04⟩, q10, q11, q12, q13, q14⟩ := HRD2.out _ hw1; go_simp; with_reducible rfl)); clear hK K)))
    refine wpQuiet_nil ?_
    intro wq8 hwq8
    have HQ8 := Lib.hid hwq8
    clear hwq8
    go_wp2
    refine wp_region_quiet (C := fun w1 => Keep W B (.cells (c5 c0 c1 c2 c3 c4) 33 (0, 0)) w1) (by kernel_rfl) (by kernel_rfl) (HQ8.out.drew) ?_
    repeat (first | go_big_quiet_skip | (refine wpQuiet_step (fun K hK => ?_); go_simp; first | (refine hK _ ?_; clear hK K) | (apply Exists.intro; refine ⟨fun w1 hw1 => ?_, hK _ ?_⟩; (first | with_reducible rfl | with_reducible exact QS0.out _ hw1 | with_reducible exact QM0.out _ hw1 | with_reducible exact Q9.out _ hw1 | (obtain ⟨⟨q00, q01, q02, q03, q04⟩, q10, q11, q12, q13, q14⟩ := HRD2.out _ hw1; go_simp; with_reducible rfl)); clear hK K)))
    refine wpQuiet_nil ?_
    intro wq9 hwq9
    have HQ9 := Lib.hid hwq9
    clear hwq9
    obtain ⟨⟨q00, q01, q02, q03, q04⟩, q10, q11, q12, q13, q14⟩ := HRD2.out _ HQ9.out
    go_wp2_with fail
    refine (DSS.out _ (H4.out.below h4p (HBW.out.trans (HQ9.out.1.mono HBW.out.size)))).mono ?_
    rintro e w10 ⟨rfl, hb10⟩
    have K10 := Lib.hid (HQ9.out.step hb10)
    clear hb10
    go_wp2_with fail
    refine (D10.out _).mono ?_
    rintro e w11 ⟨rfl, hb11⟩
    have K11 := Lib.hid (K10.out.step hb11)
    clear hb11
    clear q00 q01 q02 q03 q04 q10 q11 q12 q13 q14
    go_wp2
    refine wp_region_quiet (C := fun w1 => Keep W B (.cells (c5 c0 c1 c2 c3 c4) 33 (0, 0)) w1) (by kernel_rfl) (by kernel_rfl) (K11.out.drew) ?_
    repeat (first | go_big_quiet_skip | (refine wpQuiet_step (fun K hK => ?_); go_simp; first | (refine hK _ ?_; clear hK K) | (apply Exists.intro; refine ⟨fun w1 hw1 => ?_, hK _ ?_⟩; (first | with_reducible rfl | with_reducible exact QS1.out _ hw1 | with_reducible exact Q11.out _ hw1 | (obtain ⟨⟨q00, q01, q02, q03, q04⟩, q10, q11, q12, q13, q14⟩ := HRD2.out _ hw1; go_simp; with_reducible rfl)); clear hK K)))
    refine wpQuiet_nil ?_
    intro wq11 hwq11
    have HQ11 := Lib.hid hwq11
    clear hwq11
    obtain ⟨⟨q00, q01, q02, q03, q04⟩, q10, q11, q12, q13, q14⟩ := HRD2.out _ HQ11.out
    go_wp2_with fail
    refine (D12.out _).mono ?_
    rintro e w12 ⟨rfl, hb12⟩
    have K12 := Lib.hid (HQ11.out.step hb12)
    clear hb12
    clear q00 q01 q02 q03 q04 q10 q11 q12 q13 q14
    cases bz
    all_goals go_wp2
    all_goals go_ret
    all_goals exact ⟨rfl, HBW.out.trans (K12.out.1.mono HBW.out.size)⟩
  · have KK := Lib.hid (show Keep W w3.heap.size (.cells (c5 c0 c1 c2 c3 c4) 33 (0, 0)) (((((w4.setCell ⟨w3.heap.size, 0, none⟩ (.int .u64 c0)).setCell ⟨w3.heap.size, 1, none⟩ (.int .u64 c1)).setCell ⟨w3.heap.size, 2, none⟩ (.int .u64 c2)).setCell ⟨w3.heap.size, 3, none⟩ (.int .u64 c3)).setCell ⟨w3.heap.size, 4, none⟩ (.int .u64 c4)) from ⟨below_all hB4 hB3.size (.int .u64 c0) (.int .u64 c1) (.int .u64 c2) (.int .u64 c3) (.int .u64 c4), set_all ZB4 (.int .u64 c0) (.int .u64 c1) (.int .u64 c2) (.int .u64 c3) (.int .u64 c4)⟩)
    generalize (((((w4.setCell ⟨w3.heap.size, 0, none⟩ (.int .u64 c0)).setCell ⟨w3.heap.size, 1, none⟩ (.int .u64 c1)).setCell ⟨w3.heap.size, 2, none⟩ (.int .u64 c2)).setCell ⟨w3.heap.size, 3, none⟩ (.int .u64 c3)).setCell ⟨w3.heap.size, 4, none⟩ (.int .u64 c4)) = V2 at KK ⊢
    clear p00
    generalize w3.heap.size = B at KK ⊢
    have HRD2 := Lib.hid (fun (w1 : World) (hb : Keep W B (.cells (c5 c0 c1 c2 c3 c4) 33 (0, 0)) w1) => (show _ ∧ _ from ⟨(HRD.out _ hb.1).1, (facts5 hb.2).1⟩))
    have QS0 := Lib.hid (fun (w1 : World) (hb : Keep W B (.cells (c5 c0 c1 c2 c3 c4) 33 (0, 0)) w1) => (DS0.out w1).mono (fun e w2 ⟨h, hb2⟩ => (show e = Ending.returned _ ∧ Keep W B (.cells (c5 c0 c1 c2 c3 c4) 33 (0, 0)) w2 from ⟨h, hb.step hb2⟩)))
    have QS1 := Lib.hid (fun (w1 : World) (hb : Keep W B (.cells (c5 c0 c1 c2 c3 c4) 33 (0, 0)) w1) => (DS1.out w1).mono (fun e w2 ⟨h, hb2⟩ => (show e = Ending.returned _ ∧ Keep W B (.cells (c5 c0 c1 c2 c3 c4) 33 (0, 0)) w2 from ⟨h, hb.step hb2⟩)))
    have QA0 := Lib.hid (fun (w1 : World) (hb : Keep W B (.cells (c5 c0 c1 c2 c3 c4) 33 (0, 0)) w1) => (DA0.out w1).mono (fun e w2 ⟨h, hb2⟩ => (show e = Ending.returned _ ∧ Keep W B (.cells (c5 c0 c1 c2 c3 c4) 33 (0, 0)) w2 from ⟨h, hb.step hb2⟩)))
    have QM1 := Lib.hid (fun (w1 : World) (hb : Keep W B (.cells (c5 c0 c1 c2 c3 c4) 33 (0, 0)) w1) => (DM1.out w1).mono (fun e w2 ⟨h, hb2⟩ => (show e = Ending.returned _ ∧ Keep W B (.cells (c5 c0 c1 c2 c3 c4) 33 (0, 0)) w2 from ⟨h, hb.step hb2⟩)))
    have QM0 := Lib.hid (fun (w1 : World) (hb : Keep W B (.cells (c5 c0 c1 c2 c3 c4) 33 (0, 0)) w1) => (DM0.out w1).mono (fun e w2 ⟨h, hb2⟩ => (show e = Ending.returned _ ∧ Keep W B (.cells (c5 c0 c1 c2 c3 c4) 33 (0, 0)) w2 from ⟨h, hb.step hb2⟩)))
    have Q8A := Lib.hid (fun (w1 : World) (hb : Keep W B (.cells (c5 c0 c1 c2 c3 c4) 33 (0, 0)) w1) => (D8A.out w1).mono (fun e w2 ⟨h, hb2⟩ => (show e = Ending.returned _ ∧ Keep W B (.cells (c5 c0 c1 c2 c3 c4) 33 (0, 0)) w2 from ⟨h, hb.step hb2⟩)))
    have Q8B := Lib.hid (fun (w1 : World) (hb : Keep W B (.cells (c5 c0 c1 c2 c3 c4) 33 (0, 0)) w1) => (D8B.out w1).mono (fun e w2 ⟨h, hb2⟩ => (show e = Ending.returned _ ∧ Keep W B (.cells (c5 c0 c1 c2 c3 c4) 33 (0, 0)) w2 from ⟨h, hb.step hb2⟩)))
    have Q9 := Lib.hid (fun (w1 : World) (hb : Keep W B (.cells (c5 c0 c1 c2 c3 c4) 33 (0, 0)) w1) => (D9.out w1).mono (fun e w2 ⟨h, hb2⟩ => (show e = Ending.returned _ ∧ Keep W B (.cells (c5 c0 c1 c2 c3 c4) 33 (0, 0)) w2 from ⟨h, hb.step hb2⟩)))
    have Q11 := Lib.hid (fun (w1 : World) (hb : Keep W B (.cells (c5 c0 c1 c2 c3 c4) 33 (0, 0)) w1) => (D11.out w1).mono (fun e w2 ⟨h, hb2⟩ => (show e = Ending.returned _ ∧ Keep W B (.cells (c5 c0 c1 c2 c3 c4) 33 (0, 0)) w2 from ⟨h, hb.step hb2⟩)))
    try simp only [Exit.then]
    obtain ⟨⟨q00, q01, q02, q03, q04⟩, q10, q11, q12, q13, q14⟩ := HRD2.out _ KK.out
    go_wp2_with fail
    refine (D7.out _).mono ?_
    rintro e w7 ⟨rfl, hb7⟩
    have K7 := Lib.hid (KK.out.step hb7)
    clear hb7
    clear q00 q01 q02 q03 q04 q10 q11 q12 q13 q14
    go_wp2
    refine wp_region_quiet (C := fun w1 => Keep W B (.cells (c5 c0 c1 c2 c3 c4) 33 (0, 0)) w1) (by kernel_rfl) (by kernel_rfl) (K7.out.drew) ?_
    repeat (first | go_big_quiet_skip | (refine wpQuiet_step (fun K hK => ?_); go_simp; first | (refine hK _ ?_; clear hK K) | (apply Exists.intro; refine ⟨fun w1 hw1 => ?_, hK _ ?_⟩; (first | with_reducible rfl | with_reducible exact QS0.out _ hw1 | with_reducible exact QA0.out _ hw1 | with_reducible exact Q8A.out _ hw1 | with_reducible exact QS1.out _ hw1 | with_reducible exact QM1.out _ hw1 | with_reducible exact Q8B.out _ hw1 | (obtain ⟨⟨q00, q01, q02, q03, q04⟩, q10, q11, q12, q13, q14⟩ := HRD2.out _ hw1; go_simp; with_reducible rfl)); clear hK K)))
    refine wpQuiet_nil ?_
    intro wq8 hwq8
    have HQ8 := Lib.hid hwq8
    clear hwq8
    go_wp2
    refine wp_region_quiet (C := fun w1 => Keep W B (.cells (c5 c0 c1 c2 c3 c4) 33 (0, 0)) w1) (by kernel_rfl) (by kernel_rfl) (HQ8.out.drew) ?_
    repeat (first | go_big_quiet_skip | (refine wpQuiet_step (fun K hK => ?_); go_simp; first | (refine hK _ ?_; clear hK K) | (apply Exists.intro; refine ⟨fun w1 hw1 => ?_, hK _ ?_⟩; (first | with_reducible rfl | with_reducible exact QS0.out _ hw1 | with_reducible exact QM0.out _ hw1 | with_reducible exact Q9.out _ hw1 | (obtain ⟨⟨q00, q01, q02, q03, q04⟩, q10, q11, q12, q13, q14⟩ := HRD2.out _ hw1; go_simp; with_reducible rfl)); clear hK K)))
    refine wpQuiet_nil ?_
    intro wq9 hwq9
    have HQ9 := Lib.hid hwq9
    clear hwq9
    obtain ⟨⟨q00, q01, q02, q03, q04⟩, q10, q11, q12, q13, q14⟩ := HRD2.out _ HQ9.out
    go_wp2_with fail
    refine (DSS.out _ (H4.out.below h4p (HBW.out.trans (HQ9.out.1.mono HBW.out.size)))).mono ?_
    rintro e w10 ⟨rfl, hb10⟩
    have K10 := Lib.hid (HQ9.out.step hb10)
    clear hb10
    go_wp2_with fail
    refine (D10.out _).mono ?_
    rintro e w11 ⟨rfl, hb11⟩
    have K11 := Lib.hid (K10.out.step hb11)
    clear hb11
    clear q00 q01 q02 q03 q04 q10 q11 q12 q13 q14
    go_wp2
    refine wp_region_quiet (C := fun w1 => Keep W B (.cells (c5 c0 c1 c2 c3 c4) 33 (0, 0)) w1) (by kernel_rfl) (by kernel_rfl) (K11.out.drew) ?_
    repeat (first | go_big_quiet_skip | (refine wpQuiet_step (fun K hK => ?_); go_simp; first | (refine hK _ ?_; clear hK K) | (apply Exists.intro; refine ⟨fun w1 hw1 => ?_, hK _ ?_⟩; (first | with_reducible rfl | with_reducible exact QS1.out _ hw1 | with_reducible exact Q11.out _ hw1 | (obtain ⟨⟨q00, q01, q02, q03, q04⟩, q10, q11, q12, q13, q14⟩ := HRD2.out _ hw1; go_simp; with_reducible rfl)); clear hK K)))
    refine wpQuiet_nil ?_
    intro wq11 hwq11
    have HQ11 := Lib.hid hwq11
    clear hwq11
    obtain ⟨⟨q00, q01, q02, q03, q04⟩, q10, q11, q12, q13, q14⟩ := HRD2.out _ HQ11.out
    go_wp2_with fail
    refine (D12.out _).mono ?_
    rintro e w12 ⟨rfl, hb12⟩
    have K12 := Lib.hid (HQ11.out.step hb12)
    clear hb12
    clear q00 q01 q02 q03 q04 q10 q11 q12 q13 q14
    cases bz
    all_goals go_wp2
    all_goals go_ret
    all_goals exact ⟨rfl, HBW.out.trans (K12.out.1.mono HBW.out.size)⟩
  · have KK := Lib.hid (show Keep W wq1.heap.size (.cells (c5 c0 c1 c2 c3 c4) 33 (0, 0)) (((((w4.setCell ⟨wq1.heap.size, 0, none⟩ (.int .u64 c0)).setCell ⟨wq1.heap.size, 1, none⟩ (.int .u64 c1)).setCell ⟨wq1.heap.size, 2, none⟩ (.int .u64 c2)).setCell ⟨wq1.heap.size, 3, none⟩ (.int .u64 c3)).setCell ⟨wq1.heap.size, 4, none⟩ (.int .u64 c4)) from ⟨below_all hB4 HQ1.out.size (.int .u64 c0) (.int .u64 c1) (.int .u64 c2) (.int .u64 c3) (.int .u64 c4), set_all ZB4 (.int .u64 c0) (.int .u64 c1) (.int .u64 c2) (.int .u64 c3) (.int .u64 c4)⟩)
    generalize (((((w4.setCell ⟨wq1.heap.size, 0, none⟩ (.int .u64 c0)).setCell ⟨wq1.heap.size, 1, none⟩ (.int .u64 c1)).setCell ⟨wq1.heap.size, 2, none⟩ (.int .u64 c2)).setCell ⟨wq1.heap.size, 3, none⟩ (.int .u64 c3)).setCell ⟨wq1.heap.size, 4, none⟩ (.int .u64 c4)) = V2 at KK ⊢
    clear p00
    generalize wq1.heap.size = B at KK ⊢
    have HRD2 := Lib.hid (fun (w1 : World) (hb : Keep W B (.cells (c5 c0 c1 c2 c3 c4) 33 (0, 0)) w1) => (show _ ∧ _ from ⟨(HRD.out _ hb.1).1, (facts5 hb.2).1⟩))
    have QS0 := Lib.hid (fun (w1 : World) (hb : Keep W B (.cells (c5 c0 c1 c2 c3 c4) 33 (0, 0)) w1) => (DS0.out w1).mono (fun e w2 ⟨h, hb2⟩ => (show e = Ending.returned _ ∧ Keep W B (.cells (c5 c0 c1 c2 c3 c4) 33 (0, 0)) w2 from ⟨h, hb.step hb2⟩)))
    have QS1 := Lib.hid (fun (w1 : World) (hb : Keep W B (.cells (c5 c0 c1 c2 c3 c4) 33 (0, 0)) w1) => (DS1.out w1).mono (fun e w2 ⟨h, hb2⟩ => (show e = Ending.returned _ ∧ Keep W B (.cells (c5 c0 c1 c2 c3 c4) 33 (0, 0)) w2 from ⟨h, hb.step hb2⟩)))
    have QA0 := Lib.hid (fun (w1 : World) (hb : Keep W B (.cells (c5 c0 c1 c2 c3 c4) 33 (0, 0)) w1) => (DA0.out w1).mono (fun e w2 ⟨h, hb2⟩ => (show e = Ending.returned _ ∧ Keep W B (.cells (c5 c0 c1 c2 c3 c4) 33 (0, 0)) w2 from ⟨h, hb.step hb2⟩)))
    have QM1 := Lib.hid (fun (w1 : World) (hb : Keep W B (.cells (c5 c0 c1 c2 c3 c4) 33 (0, 0)) w1) => (DM1.out w1).mono (fun e w2 ⟨h, hb2⟩ => (show e = Ending.returned _ ∧ Keep W B (.cells (c5 c0 c1 c2 c3 c4) 33 (0, 0)) w2 from ⟨h, hb.step hb2⟩)))
    have QM0 := Lib.hid (fun (w1 : World) (hb : Keep W B (.cells (c5 c0 c1 c2 c3 c4) 33 (0, 0)) w1) => (DM0.out w1).mono (fun e w2 ⟨h, hb2⟩ => (show e = Ending.returned _ ∧ Keep W B (.cells (c5 c0 c1 c2 c3 c4) 33 (0, 0)) w2 from ⟨h, hb.step hb2⟩)))
    have Q8A := Lib.hid (fun (w1 : World) (hb : Keep W B (.cells (c5 c0 c1 c2 c3 c4) 33 (0, 0)) w1) => (D8A.out w1).mono (fun e w2 ⟨h, hb2⟩ => (show e = Ending.returned _ ∧ Keep W B (.cells (c5 c0 c1 c2 c3 c4) 33 (0, 0)) w2 from ⟨h, hb.step hb2⟩)))
    have Q8B := Lib.hid (fun (w1 : World) (hb : Keep W B (.cells (c5 c0 c1 c2 c3 c4) 33 (0, 0)) w1) => (D8B.out w1).mono (fun e w2 ⟨h, hb2⟩ => (show e = Ending.returned _ ∧ Keep W B (.cells (c5 c0 c1 c2 c3 c4) 33 (0, 0)) w2 from ⟨h, hb.step hb2⟩)))
    have Q9 := Lib.hid (fun (w1 : World) (hb : Keep W B (.cells (c5 c0 c1 c2 c3 c4) 33 (0, 0)) w1) => (D9.out w1).mono (fun e w2 ⟨h, hb2⟩ => (show e = Ending.returned _ ∧ Keep W B (.cells (c5 c0 c1 c2 c3 c4) 33 (0, 0)) w2 from ⟨h, hb.step hb2⟩)))
    have Q11 := Lib.hid (fun (w1 : World) (hb : Keep W B (.cells (c5 c0 c1 c2 c3 c4) 33 (0, 0)) w1) => (D11.out w1).mono (fun e w2 ⟨h, hb2⟩ => (show e = Ending.returned _ ∧ Keep W B (.cells (c5 c0 c1 c2 c3 c4) 33 (0, 0)) w2 from ⟨h, hb.step hb2⟩)))
    try simp only [Exit.then]
    obtain ⟨⟨q00, q01, q02, q03, q04⟩, q10, q11, q12, q13, q14⟩ := HRD2.out _ KK.out
    go_wp2_with fail
    refine (D7.out _).mono ?_
    rintro e w7 ⟨rfl, hb7⟩
    have K7 := Lib.hid (KK.out.step hb7)
    clear hb7
    clear q00 q01 q02 q03 q04 q10 q11 q12 q13 q14
    go_wp2
    refine wp_region_quiet (C := fun w1 => Keep W B (.cells (c5 c0 c1 c2 c3 c4) 33 (0, 0)) w1) (by kernel_rfl) (by kernel_rfl) (K7.out.drew) ?_
    repeat (first | go_big_quiet_skip | (refine wpQuiet_step (fun K hK => ?_); go_simp; first | (refine hK _ ?_; clear hK K) | (apply Exists.intro; refine ⟨fun w1 hw1 => ?_, hK _ ?_⟩; (first | with_reducible rfl | with_reducible exact QS0.out _ hw1 | with_reducible exact QA0.out _ hw1 | with_reducible exact Q8A.out _ hw1 | with_reducible exact QS1.out _ hw1 | with_reducible exact QM1.out _ hw1 | with_reducible exact Q8B.out _ hw1 | (obtain ⟨⟨q00, q01, q02, q03, q04⟩, q10, q11, q12, q13, q14⟩ := HRD2.out _ hw1; go_simp; with_reducible rfl)); clear hK K)))
    refine wpQuiet_nil ?_
    intro wq8 hwq8
    have HQ8 := Lib.hid hwq8
    clear hwq8
    go_wp2
    refine wp_region_quiet (C := fun w1 => Keep W B (.cells (c5 c0 c1 c2 c3 c4) 33 (0, 0)) w1) (by kernel_rfl) (by kernel_rfl) (HQ8.out.drew) ?_
    repeat (first | go_big_quiet_skip | (refine wpQuiet_step (fun K hK => ?_); go_simp; first | (refine hK _ ?_; clear hK K) | (apply Exists.intro; refine ⟨fun w1 hw1 => ?_, hK _ ?_⟩; (first | with_reducible rfl | with_reducible exact QS0.out _ hw1 | with_reducible exact QM0.out _ hw1 | with_reducible exact Q9.out _ hw1 | (obtain ⟨⟨q00, q01, q02, q03, q04⟩, q10, q11, q12, q13, q14⟩ := HRD2.out _ hw1; go_simp; with_reducible rfl)); clear hK K)))
    refine wpQuiet_nil ?_
    intro wq9 hwq9
    have HQ9 := Lib.hid hwq9
    clear hwq9
    obtain ⟨⟨q00, q01, q02, q03, q04⟩, q10, q11, q12, q13, q14⟩ := HRD2.out _ HQ9.out
    go_wp2_with fail
    refine (DSS.out _ (H4.out.below h4p (HBW.out.trans (HQ9.out.1.mono HBW.out.size)))).mono ?_
    rintro e w10 ⟨rfl, hb10⟩
    have K10 := Lib.hid (HQ9.out.step hb10)
    clear hb10
    go_wp2_with fail
    refine (D10.out _).mono ?_
    rintro e w11 ⟨rfl, hb11⟩
    have K11 := Lib.hid (K10.out.step hb11)
    clear hb11
    clear q00 q01 q02 q03 q04 q10 q11 q12 q13 q14
    go_wp2
    refine wp_region_quiet (C := fun w1 => Keep W B (.cells (c5 c0 c1 c2 c3 c4) 33 (0, 0)) w1) (by kernel_rfl) (by kernel_rfl) (K11.out.drew) ?_
    repeat (first | go_big_quiet_skip | (refine wpQuiet_step (fun K hK => ?_); go_simp; first | (refine hK _ ?_; clear hK K) | (apply Exists.intro; refine ⟨fun w1 hw1 => ?_, hK _ ?_⟩; (first | with_reducible rfl | with_reducible exact QS1.out _ hw1 | with_reducible exact Q11.out _ hw1 | (obtain ⟨⟨q00, q01, q02, q03, q04⟩, q10, q11, q12, q13, q14⟩ := HRD2.out _ hw1; go_simp; with_reducible rfl)); clear hK K)))
    refine wpQuiet_nil ?_
    intro wq11 hwq11
    have HQ11 := Lib.hid hwq11
    clear hwq11
    obtain ⟨⟨q00, q01, q02, q03, q04⟩, q10, q11, q12, q13, q14⟩ := HRD2.out _ HQ11.out
    go_wp2_with fail
    refine (D12.out _).mono ?_
    rintro e w12 ⟨rfl, hb12⟩
    have K12 := Lib.hid (HQ11.out.step hb12)
    clear hb12
    clear q00 q01 q02 q03 q04 q10 q11 q12 q13 q14
    cases bz
    all_goals go_wp2
    all_goals go_ret
    all_goals exact ⟨rfl, HBW.out.trans (K12.out.1.mono HBW.out.size)⟩

end Go.Proofs.YtdmioipdmdmkhaaDoor
