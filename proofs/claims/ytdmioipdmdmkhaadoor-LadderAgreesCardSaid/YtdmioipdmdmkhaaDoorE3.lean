/- FieldWhole: the walk. -/
import Derived.Test.YtdmioipdmdmkhaaDoorE2
set_option linter.unusedVariables false
set_option linter.unusedSimpArgs false
namespace Go.Proofs.YtdmioipdmdmkhaaDoor
open Go.RowKit

theorem kz_size (f : Nat → Nat) : zArr.size = (kArr f).size := rfl
theorem quiet_eqkb {C : World → Prop} {o : Oper} {a : Act} {K : Act → Prop} (x y : Operand) (ho : o.op = .binOp .eql 23 x y 23) (m n : Nat) (b : Bool) (hb : b = decide (m = n)) (hx : a.eval x = .agg (kArr (byteOf m))) (hy : a.eval y = .agg (kArr (byteOf n)))
    (hm : m < pr) (hn : n < pr) (hk : K (a.put o.dst (.bool b))) : o.quiet Tryd.prog a C K := by
  subst hb; exact quiet_eqk x y ho m n hx hy hm hn hk

set_option maxRecDepth 100000 in
set_option maxHeartbeats 16000000 in
theorem whole_any (f : Nat → Nat) (hf : ∀ b, b < 32 → f b < 256) (g : Nat → Nat) (hg : ∀ b, b < 32 → g b < 256) (w : World) (h4 : Four w) : Calls Tryd.prog 4 #[.agg (kArr f), .agg (kArr g)] w fun r w' => r = .returned (.bool true) ∧ Below w.heap.size w w' := by
  have H4 := Lib.hid h4
  have h4p := h4.pos
  clear h4
  obtain ⟨V, hV⟩ : ∃ V, V = ((w.alloc (.cells (kArr f) 23)).alloc (.cells (kArr g) 23)) := ⟨_, rfl⟩
  have G0 := Lib.hid (show V.heap[w.heap.size]? = some (.cells (kArr f) 23 (0, 0)) from by rw [hV]; rw [Below.heap_alloc _ _ _ (by simp; try omega)]; exact alloc_at (by simp))
  have G1 := Lib.hid (show V.heap[w.heap.size + 1]? = some (.cells (kArr g) 23 (0, 0)) from by rw [hV]; exact alloc_at (by simp))
  have BV := Lib.hid (show Below w.heap.size w V from by rw [hV]; exact (alloc_only w _).alloc (by simp; try omega) _)
  have VS := Lib.hid (show V.heap.size = w.heap.size + 1 + 1 from by rw [hV]; simp)
  have Of := Lib.hid (of_any f hf)
  have Lf := Lib.hid (ofL_el hf)
  obtain ⟨x0, x1, x2, x3, x4, hcf⟩ : ∃ a b c d e, ofL f = ⟨a, b, c, d, e⟩ := ⟨_, _, _, _, _, rfl⟩
  rw [hcf] at Of Lf
  unfold Det L5.v limbsV at Of
  dsimp only at Of
  generalize kVal f % 57896044618658097711785492504343953926634992332820282019728792003956564819968 % pr = nf at Lf
  clear hcf
  have Og := Lib.hid (of_any g hg)
  have Lg := Lib.hid (ofL_el hg)
  obtain ⟨y0, y1, y2, y3, y4, hcg⟩ : ∃ a b c d e, ofL g = ⟨a, b, c, d, e⟩ := ⟨_, _, _, _, _, rfl⟩
  rw [hcg] at Og Lg
  unfold Det L5.v limbsV at Og
  dsimp only at Og
  generalize kVal g % 57896044618658097711785492504343953926634992332820282019728792003956564819968 % pr = ng at Lg
  clear hcg
  go_enter Tryd.func4, Tryd.ntmps4
  go_wp2_with fail
  rw [← hV]
  refine (awakeF_any _ (H4.out.below h4p BV.out)).mono ?_
  rintro e wa ⟨rfl, hba⟩
  have C0 := Lib.hid hba
  have CB := Lib.hid (BV.out.trans (hba.mono BV.out.size))
  clear hba hV
  have F0 := Lib.hid ((C0.out.block (w.heap.size) (by have := VS.out; omega)).trans G0.out)
  go_wp2_with (refine wpList_load_row rfl 23 (.tmp 2) rfl (w.heap.size) rfl 23 (kArr f) (0, 0) _ F0.out Tryd.underlying23 rfl info23 ?_)
  refine (Of.out _).mono ?_
  rintro e wo0 ⟨rfl, hbo0⟩
  have M0 := Lib.hid (C0.out.trans (hbo0.mono C0.out.size))
  have C1 := Lib.hid (M0.out.alloc M0.out.size (.cells (c5 x0 x1 x2 x3 x4) 33))
  have X0_1 := Lib.hid (show (wo0.alloc (.cells (c5 x0 x1 x2 x3 x4) 33)).heap[wo0.heap.size]? = some (.cells (c5 x0 x1 x2 x3 x4) 33 (0, 0)) from alloc_at rfl)
  clear hbo0
  have F1 := Lib.hid ((C1.out.block (w.heap.size + 1) (by have := VS.out; omega)).trans G1.out)
  go_wp2_with (refine wpList_load_row rfl 23 (.tmp 3) rfl (w.heap.size + 1) rfl 23 (kArr g) (0, 0) _ F1.out Tryd.underlying23 rfl info23 ?_)
  refine (Og.out _).mono ?_
  rintro e wo1 ⟨rfl, hbo1⟩
  have M1 := Lib.hid (C1.out.trans (hbo1.mono C1.out.size))
  have C2 := Lib.hid (M1.out.alloc M1.out.size (.cells (c5 y0 y1 y2 y3 y4) 33))
  have X0_2 := Lib.hid (show (wo1.alloc (.cells (c5 y0 y1 y2 y3 y4) 33)).heap[wo0.heap.size]? = some (.cells (c5 x0 x1 x2 x3 x4) 33 (0, 0)) from by rw [Below.heap_alloc _ _ _ (Nat.lt_of_lt_of_le (heap_lt X0_1.out) hbo1.size)]; exact (hbo1.block _ (heap_lt X0_1.out)).trans X0_1.out)
  have X1_2 := Lib.hid (show (wo1.alloc (.cells (c5 y0 y1 y2 y3 y4) 33)).heap[wo1.heap.size]? = some (.cells (c5 y0 y1 y2 y3 y4) 33 (0, 0)) from alloc_at rfl)
  clear hbo1
  obtain ⟨W, hW⟩ : ∃ W, W = wo1.alloc (.cells (c5 y0 y1 y2 y3 y4) 33) := ⟨_, rfl⟩
  rw [← hW] at C2 X0_2 X1_2
  have HBW := Lib.hid (BV.out.trans (C2.out.mono BV.out.size))
  have HRD := Lib.hid (fun (w1 : World) (hb : Below W.heap.size W w1) => (show (w1.cell? ⟨wo0.heap.size, 0, none⟩ = some (.int .u64 x0) ∧ w1.cell? ⟨wo0.heap.size, 1, none⟩ = some (.int .u64 x1) ∧ w1.cell? ⟨wo0.heap.size, 2, none⟩ = some (.int .u64 x2) ∧ w1.cell? ⟨wo0.heap.size, 3, none⟩ = some (.int .u64 x3) ∧ w1.cell? ⟨wo0.heap.size, 4, none⟩ = some (.int .u64 x4)) ∧ (w1.cell? ⟨wo1.heap.size, 0, none⟩ = some (.int .u64 y0) ∧ w1.cell? ⟨wo1.heap.size, 1, none⟩ = some (.int .u64 y1) ∧ w1.cell? ⟨wo1.heap.size, 2, none⟩ = some (.int .u64 y2) ∧ w1.cell? ⟨wo1.heap.size, 3, none⟩ = some (.int .u64 y3) ∧ w1.cell? ⟨wo1.heap.size, 4, none⟩ = some (.int .u64 y4)) from ⟨(facts5 ((hb.block _ (heap_lt X0_2.out)).trans X0_2.out)).1, (facts5 ((hb.block _ (heap_lt X1_2.out)).trans X1_2.out)).1⟩))
  have E_x : El (limbsV x0 x1 x2 x3 x4) nf := Lf.out
  have lt_x := E_x.lt
  have E_y : El (limbsV y0 y1 y2 y3 y4) ng := Lg.out
  have lt_y := E_y.lt
  have lk := fun i (hi : i < 32) => byteOf_lt nf i
  have O3 := Lib.hid (fof_any (byteOf nf) (fun i hi => byteOf_lt nf i))
  have L3 := Lib.hid (ofL_el (f := byteOf nf) (fun i hi => byteOf_lt nf i))
  have hkv : kVal (byteOf nf) = nf := kNum_bytes nf 32 (Nat.lt_trans lt_x (by decide +kernel))
  rw [hkv] at O3 L3
  rw [show nf % 57896044618658097711785492504343953926634992332820282019728792003956564819968 % pr = nf from by rw [Nat.mod_eq_of_lt (Nat.lt_trans lt_x (by decide +kernel)), Nat.mod_eq_of_lt lt_x]] at L3
  rw [show decide (nf < pr) = true from decide_eq_true lt_x] at O3
  clear hkv lk
  obtain ⟨z0, z1, z2, z3, z4, hcz⟩ : ∃ a b c d e, ofL (byteOf nf) = ⟨a, b, c, d, e⟩ := ⟨_, _, _, _, _, rfl⟩
  rw [hcz] at O3 L3
  unfold Det L5.v limbsV at O3
  dsimp only at O3
  clear hcz
  have E_z : El (limbsV z0 z1 z2 z3 z4) nf := L3.out
  have DKX := Lib.hid (fun w => key_any E_x w)
  have DKY := Lib.hid (fun w => key_any E_y w)
  have DKZ := Lib.hid (fun w => key_any E_z w)
  have DQ1 := Lib.hid (fun w => equal_true E_z E_x rfl w)
  have DQ2 := Lib.hid (fun w => equal_any E_x E_y w)
  obtain ⟨be, hbe⟩ : ∃ b, b = decide (nf = ng) := ⟨_, rfl⟩
  rw [← hbe] at DQ2
  have HBE := Lib.hid hbe
  have HLX := Lib.hid lt_x
  have HLY := Lib.hid lt_y
  have h31 : byteOf nf 31 < 128 := by
    have : nf < 57896044618658097711785492504343953926634992332820282019728792003956564819968 := Nat.lt_trans lt_x (by decide +kernel)
    unfold byteOf
    rw [show (256 : Nat) ^ 31 = 452312848583266388373324160190187140051835877600158453279131187530910662656 from rfl]
    omega
  have d31 : decide ((byteOf nf 31 : Int) < 128) = true := by simp; omega
  unfold limbsV at DKX DKY DKZ DQ1 DQ2
  unfold keyOf at DKX DKY DKZ
  clear E_x E_y E_z lt_x lt_y hbe
  have X0' := Lib.hid (show (wo1.alloc (.cells (c5 y0 y1 y2 y3 y4) 33)).heap[wo0.heap.size]? = some (.cells (c5 x0 x1 x2 x3 x4) 33 (0, 0)) from by rw [← hW]; exact X0_2.out)
  go_wp2_with (refine wpList_load_row rfl 33 (.tmp 6) rfl wo0.heap.size rfl 33 (c5 x0 x1 x2 x3 x4) (0, 0) _ X0'.out Tryd.underlying33 rfl info33 ?_)
  rw [← hW]
  clear hW X0'
  refine (DKX.out _).mono ?_
  rintro e w3 ⟨rfl, hb3⟩
  have B3 := Lib.hid hb3
  clear hb3
  have HP := Lib.hid (put_new w3 zArr (kArr (byteOf nf)) 23)
  have A1 := Lib.hid (show (w3.alloc (.cells zArr 23)).heap[w3.heap.size]? = some (.cells zArr 23 (0, 0)) from alloc_at rfl)
  go_wp2_with (first | (refine wpList_store_row rfl 23 (.tmp 8) (.tmp 19) rfl w3.heap.size (kArr (byteOf nf)) rfl rfl 23 zArr A1.out info23 (kz_size _) (kArr_one _) ?_) | (refine wpList_load_row rfl 23 (.tmp 8) rfl w3.heap.size rfl 23 (kArr (byteOf nf)) (0, 0) _ HP.out.2 Tryd.underlying23 rfl info23 ?_))
  obtain ⟨V3, hV3⟩ : ∃ V, V = (w3.alloc (.cells zArr 23)).setRow w3.heap.size (kArr (byteOf nf)) := ⟨_, rfl⟩
  rw [← hV3] at HP ⊢
  clear hV3 A1
  refine (O3.out _).mono ?_
  rintro e w4 ⟨rfl, hb4⟩
  have B4 := Lib.hid (B3.out.trans ((HP.out.1.trans (hb4.mono HP.out.1.size)).mono B3.out.size))
  have K4 := Lib.hid ((hb4.block _ (heap_lt HP.out.2)).trans HP.out.2)
  have X4 := Lib.hid ((B4.out.block _ (heap_lt X0_2.out)).trans X0_2.out)
  have hV := put_new w4 (c5 0 0 0 0 0) (c5 z0 z1 z2 z3 z4) 33
  obtain ⟨V4, hV4⟩ : ∃ V, V = w4.alloc (.cells (c5 z0 z1 z2 z3 z4) 33) := ⟨_, rfl⟩
  have VB4 := Lib.hid (show Below w4.heap.size w4 V4 from by rw [hV4]; exact alloc_only _ _)
  have N4 := Lib.hid (show V4.heap[w4.heap.size]? = some (.cells (c5 z0 z1 z2 z3 z4) 33 (0, 0)) from by rw [hV4]; exact alloc_at rfl)
  have N4' := Lib.hid (show (w4.alloc (.cells (c5 z0 z1 z2 z3 z4) 33)).heap[w4.heap.size]? = some (.cells (c5 z0 z1 z2 z3 z4) 33 (0, 0)) from alloc_at rfl)
  have X4' := Lib.hid (show (w4.alloc (.cells (c5 z0 z1 z2 z3 z4) 33)).heap[wo0.heap.size]? = some (.cells (c5 x0 x1 x2 x3 x4) 33 (0, 0)) from (Below.heap_alloc _ _ _ (heap_lt X4.out)).trans X4.out)
  clear hV hb4
  go_wp2_with (first | (refine wpList_load_row rfl 33 (.tmp 9) rfl w4.heap.size rfl 33 (c5 z0 z1 z2 z3 z4) (0, 0) _ N4'.out Tryd.underlying33 rfl info33 ?_) | (refine wpList_load_row rfl 33 (.tmp 6) rfl wo0.heap.size rfl 33 (c5 x0 x1 x2 x3 x4) (0, 0) _ X4'.out Tryd.underlying33 rfl info33 ?_))
  rw [← hV4]
  clear hV4 N4' X4'
  refine (DQ1.out _).mono ?_
  rintro e w5 ⟨rfl, hb5⟩
  have B5 := Lib.hid (B4.out.trans ((VB4.out.trans (hb5.mono VB4.out.size)).mono B4.out.size))
  have Z5 := Lib.hid (VB4.out.trans (hb5.mono VB4.out.size))
  have X5 := Lib.hid ((B5.out.block _ (heap_lt X0_2.out)).trans X0_2.out)
  have Y5 := Lib.hid ((B5.out.block _ (heap_lt X1_2.out)).trans X1_2.out)
  have N5 := Lib.hid ((hb5.block _ (heap_lt N4.out)).trans N4.out)
  clear hb5
  go_wp2_with (first | (refine wpList_load_row rfl 33 (.tmp 7) rfl wo1.heap.size rfl 33 (c5 y0 y1 y2 y3 y4) (0, 0) _ Y5.out Tryd.underlying33 rfl info33 ?_) | (refine wpList_load_row rfl 33 (.tmp 6) rfl wo0.heap.size rfl 33 (c5 x0 x1 x2 x3 x4) (0, 0) _ X5.out Tryd.underlying33 rfl info33 ?_))
  refine (DQ2.out _).mono ?_
  rintro e W6 ⟨rfl, hb6⟩
  have B6 := Lib.hid (B5.out.trans (hb6.mono B5.out.size))
  have RY := Lib.hid (fun (v : World) (hb : Below W6.heap.size W6 v) => ((hb.block _ (Nat.lt_of_lt_of_le (heap_lt X1_2.out) B6.out.size)).trans ((B6.out.block _ (heap_lt X1_2.out)).trans X1_2.out)))
  have RZ := Lib.hid (fun (v : World) (hb : Below W6.heap.size W6 v) => ((hb.block _ (Nat.lt_of_lt_of_le (heap_lt N5.out) hb6.size)).trans ((hb6.block _ (heap_lt N5.out)).trans N5.out)))
  have K6 := (Z5.out.trans (hb6.mono Z5.out.size))
  have RK := Lib.hid (fun (v : World) (hb : Below W6.heap.size W6 v) => ((hb.block _ (Nat.lt_of_lt_of_le (heap_lt K4.out) K6.size)).trans ((K6.block _ (heap_lt K4.out)).trans K4.out)))
  have RC := Lib.hid (fun (v : World) (hb : Below W6.heap.size W6 v) => (show v.cell? ⟨w3.heap.size, 31, none⟩ = some (.int .u8 (byteOf nf 31 : Nat)) from cell_of_blk (RK.out v hb) 31 (kArr_at _ (by omega))))
  have Q1 := Lib.hid (lift_below W6 DKZ.out)
  have Q2 := Lib.hid (lift_below W6 DKY.out)
  clear hb6 K6
  go_wp2
  refine wp_region_quiet (C := fun w1 => Below W6.heap.size W6 w1) (by kernel_rfl) (by kernel_rfl) ((Below.refl W6.heap.size W6).drew) ?_
  repeat (first
    | go_big_quiet_skip
    | (go_big_quiet_want; (first | (refine quiet_load_row 23 (.tmp 8) rfl w3.heap.size rfl 23 (kArr (byteOf nf)) (0, 0) _ RK.out Tryd.underlying23 rfl info23 ?_) | (refine quiet_load_row 33 (.tmp 7) rfl wo1.heap.size rfl 33 (c5 y0 y1 y2 y3 y4) (0, 0) _ RY.out Tryd.underlying33 rfl info33 ?_) | (refine quiet_load_row 33 (.tmp 9) rfl w4.heap.size rfl 33 (c5 z0 z1 z2 z3 z4) (0, 0) _ RZ.out Tryd.underlying33 rfl info33 ?_) | (refine quiet_same _ _ rfl (byteOf nf) rfl rfl ?_) | (refine quiet_eqkb _ _ rfl nf ng be HBE.out rfl rfl HLX.out HLY.out ?_)); go_simp; go_big_quiet_on)
    | (refine wpQuiet_step (fun K hK => ?_); go_simp; first | (refine hK _ ?_; clear hK K) | (apply Exists.intro; refine ⟨fun w1 hw1 => ?_, hK _ ?_⟩; (first | with_reducible rfl | with_reducible exact Q1.out _ hw1 | with_reducible exact Q2.out _ hw1 | (have hc := RC.out _ hw1; go_simp; with_reducible rfl)); clear hK K)))
  refine wpQuiet_nil ?_
  intro wq hwq
  have HQ := Lib.hid hwq
  clear hwq
  go_wp2
  go_ret
  exact ⟨rfl, HBW.out.trans ((B6.out.trans (HQ.out.mono B6.out.size)).mono HBW.out.size)⟩

end Go.Proofs.YtdmioipdmdmkhaaDoor
