/- FieldReads: the walk. -/
import Derived.Test.YtdmioipdmdmkhaaDoorE0
set_option linter.unusedVariables false
set_option linter.unusedSimpArgs false
namespace Go.Proofs.YtdmioipdmdmkhaaDoor
open Go.RowKit

theorem quiet_eq27b {C : World → Prop} {o : Oper} {a : Act} {K : Act → Prop} (x y : Operand) (ho : o.op = .binOp .eql 27 x y 27) (m n : Nat) (b : Bool) (hb : b = decide (m = n)) (hx : a.eval x = .agg (nArr (dg m))) (hy : a.eval y = .agg (nArr (dg n)))
    (hm : m < pr) (hn : n < pr) (hk : K (a.put o.dst (.bool b))) : o.quiet Tryd.prog a C K := by
  subst hb; exact quiet_eq27 x y ho m n hx hy hm hn hk
theorem zero27 : (Value.agg #[.int .u64 0, .int .u64 0, .int .u64 0, .int .u64 0, .int .u64 0, .int .u64 0, .int .u64 0, .int .u64 0, .int .u64 0, .int .u64 0, .int .u64 0, .int .u64 0, .int .u64 0, .int .u64 0, .int .u64 0, .int .u64 0] : Value) = .agg (nArr (dg 0)) := by kernel_rfl

set_option maxRecDepth 100000 in
set_option maxHeartbeats 16000000 in
theorem reads_any (f : Nat → Nat) (hf : ∀ b, b < 32 → f b < 256) (n : Nat) (hn : n < 18446744073709551616) (w : World) (h4 : Four w) : Calls Tryd.prog 6 #[.agg (kArr f), .int .u64 n] w fun r w' => r = .returned (.bool true) ∧ Below w.heap.size w w' := by
  have H4 := Lib.hid h4
  have h4p := h4.pos
  have O := Lib.hid (fof_any f hf)
  have L := Lib.hid (ofL_el hf)
  have HR := Lib.hid (fun w => rof_any f hf w)
  clear h4 hf
  obtain ⟨x0, x1, x2, x3, x4, hcf⟩ : ∃ a b c d e, ofL f = ⟨a, b, c, d, e⟩ := ⟨_, _, _, _, _, rfl⟩
  rw [hcf] at O L
  unfold Det L5.v limbsV at O
  unfold two255 at HR
  dsimp only at O
  generalize kVal f % 57896044618658097711785492504343953926634992332820282019728792003956564819968 % pr = nf at L HR
  generalize decide (kVal f < pr) = bw at HR O
  clear hcf
  have ex : El (limbsV x0 x1 x2 x3 x4) nf := L.out
  have lx := ex.lt
  have HLX := Lib.hid lx
  have hnp : n < pr := Nat.lt_trans hn (by decide +kernel)
  obtain ⟨es, ds⟩ := smallV_spec n hn
  generalize smallV n = vs at es ds
  obtain ⟨s0, s1, s2, s3, s4, rfl⟩ := es.limbs
  have DS := Lib.hid ds
  have DZ := Lib.hid (fun w => isZero_any ex w)
  have DKX := Lib.hid (fun w => key_any ex w)
  have DKS := Lib.hid (fun w => key_any es w)
  have RS := Lib.hid (fun w => rsmall_any n hn w)
  have RKX := Lib.hid (fun w => rkey_any nf w)
  have RKS := Lib.hid (fun w => rkey_any n w)
  obtain ⟨bz, hbz⟩ : ∃ b, b = decide (nf = 0) := ⟨_, rfl⟩
  rw [← hbz] at DZ
  have HBZ := Lib.hid hbz
  unfold limbsV Det keyOf at *
  unfold numV at RS RKX RKS HR
  clear ex lx es ds hbz hnp
  go_enter Tryd.func6, Tryd.ntmps6
  go_wp2_with fail
  have BV := Lib.hid (alloc_only w (.cells (kArr f) 23))
  have G0 := Lib.hid (show (w.alloc (.cells (kArr f) 23)).heap[w.heap.size]? = some (.cells (kArr f) 23 (0, 0)) from alloc_at rfl)
  refine (awakeF_any _ (H4.out.below h4p BV.out)).mono ?_
  rintro e wa ⟨rfl, hba⟩
  have C0 := Lib.hid (BV.out.trans (hba.mono BV.out.size))
  have F0 := Lib.hid ((hba.block _ (heap_lt G0.out)).trans G0.out)
  clear hba
  go_wp2_with (refine wpList_load_row rfl 23 (.tmp 2) rfl w.heap.size rfl 23 (kArr f) (0, 0) _ F0.out Tryd.underlying23 rfl info23 ?_)
  refine (O.out _).mono ?_
  rintro e w1 ⟨rfl, hb1⟩
  have C1 := Lib.hid (C0.out.trans (hb1.mono C0.out.size))
  have F1 := Lib.hid ((hb1.block _ (heap_lt F0.out)).trans F0.out)
  clear hb1
  have F1' := Lib.hid (show (w1.alloc (.cells (c5 x0 x1 x2 x3 x4) 33)).heap[w.heap.size]? = some (.cells (kArr f) 23 (0, 0)) from (Below.heap_alloc _ _ _ (heap_lt F1.out)).trans F1.out)
  go_wp2_with (refine wpList_load_row rfl 23 (.tmp 2) rfl w.heap.size rfl 23 (kArr f) (0, 0) _ F1'.out Tryd.underlying23 rfl info23 ?_)
  obtain ⟨V1, hV1⟩ : ∃ V, V = w1.alloc (.cells (c5 x0 x1 x2 x3 x4) 33) := ⟨_, rfl⟩
  have VB1 := Lib.hid (show Below w1.heap.size w1 V1 from by rw [hV1]; exact alloc_only _ _)
  have N1 := Lib.hid (show V1.heap[w1.heap.size]? = some (.cells (c5 x0 x1 x2 x3 x4) 33 (0, 0)) from by rw [hV1]; exact alloc_at rfl)
  rw [← hV1]
  clear hV1
  refine (HR.out _).mono ?_
  rintro e w2 ⟨rfl, hb2⟩
  have M2 := Lib.hid (VB1.out.trans (hb2.mono VB1.out.size))
  have N1b := Lib.hid ((hb2.block _ (heap_lt N1.out)).trans N1.out)
  clear hb2
  obtain ⟨V2, hV2⟩ : ∃ V, V = w2.alloc (.cells (nArr (dg nf)) 27) := ⟨_, rfl⟩
  have VB2 := Lib.hid (show Below w2.heap.size w2 V2 from by rw [hV2]; exact alloc_only _ _)
  have N2 := Lib.hid (show V2.heap[w2.heap.size]? = some (.cells (nArr (dg nf)) 27 (0, 0)) from by rw [hV2]; exact alloc_at rfl)
  go_wp2_with fail
  rw [← hV2]
  clear hV2
  refine (DS.out _).mono ?_
  rintro e w3 ⟨rfl, hb3⟩
  have M3 := Lib.hid (VB2.out.trans (hb3.mono VB2.out.size))
  have N1c := Lib.hid ((M3.out.block _ (Nat.lt_of_lt_of_le (heap_lt N1b.out) (Nat.le_refl _))).trans N1b.out)
  have N2c := Lib.hid ((hb3.block _ (heap_lt N2.out)).trans N2.out)
  clear hb3
  obtain ⟨V3, hV3⟩ : ∃ V, V = w3.alloc (.cells (c5 s0 s1 s2 s3 s4) 33) := ⟨_, rfl⟩
  have VB3 := Lib.hid (show Below w3.heap.size w3 V3 from by rw [hV3]; exact alloc_only _ _)
  have N3 := Lib.hid (show V3.heap[w3.heap.size]? = some (.cells (c5 s0 s1 s2 s3 s4) 33 (0, 0)) from by rw [hV3]; exact alloc_at rfl)
  have N1d := Lib.hid ((VB3.out.block _ (heap_lt N1c.out)).trans N1c.out)
  have N1e := Lib.hid (show (w3.alloc (.cells (c5 s0 s1 s2 s3 s4) 33)).heap[w1.heap.size]? = some (.cells (c5 x0 x1 x2 x3 x4) 33 (0, 0)) from by rw [← hV3]; exact N1d.out)
  go_wp2_with (refine wpList_load_row rfl 33 (.tmp 6) rfl w1.heap.size rfl 33 (c5 x0 x1 x2 x3 x4) (0, 0) _ N1e.out Tryd.underlying33 rfl info33 ?_)
  rw [← hV3]
  clear hV3 N1e
  refine (DZ.out _).mono ?_
  rintro e W ⟨rfl, hb4⟩
  have Z4 := VB3.out.trans (hb4.mono VB3.out.size)
  have Z3 := M3.out.trans (Z4.mono M3.out.size)
  have Z2 := M2.out.trans (Z3.mono M2.out.size)
  have HBW := Lib.hid (C1.out.trans (Z2.mono C1.out.size))
  have R1 := Lib.hid (fun (v : World) (hb : Below W.heap.size W v) => ((hb.block _ (Nat.lt_of_lt_of_le (heap_lt N1b.out) Z3.size)).trans ((Z3.block _ (heap_lt N1b.out)).trans N1b.out)))
  have R2 := Lib.hid (fun (v : World) (hb : Below W.heap.size W v) => ((hb.block _ (Nat.lt_of_lt_of_le (heap_lt N2c.out) Z4.size)).trans ((Z4.block _ (heap_lt N2c.out)).trans N2c.out)))
  have R3 := Lib.hid (fun (v : World) (hb : Below W.heap.size W v) => ((hb.block _ (Nat.lt_of_lt_of_le (heap_lt N3.out) hb4.size)).trans ((hb4.block _ (heap_lt N3.out)).trans N3.out)))
  have Q1 := Lib.hid (lift_below W DKX.out)
  have Q2 := Lib.hid (lift_below W RKX.out)
  have Q3 := Lib.hid (lift_below W DKS.out)
  have Q4 := Lib.hid (lift_below W RS.out)
  have Q5 := Lib.hid (lift_below W RKS.out)
  unfold numV at Q2 Q5
  clear Z2 Z3 Z4 hb4
  go_wp2
  refine wp_region_quiet (C := fun w1 => Below W.heap.size W w1) (by kernel_rfl) (by kernel_rfl) ((Below.refl W.heap.size W).drew) ?_
  repeat (first
    | go_big_quiet_skip
    | (go_big_quiet_want; (first | (refine quiet_load_row 27 (.tmp 8) rfl w2.heap.size rfl 27 (nArr (dg nf)) (0, 0) _ R2.out Tryd.underlying27 rfl info27 ?_) | (refine quiet_load_row 33 (.tmp 6) rfl w1.heap.size rfl 33 (c5 x0 x1 x2 x3 x4) (0, 0) _ R1.out Tryd.underlying33 rfl info33 ?_) | (refine quiet_load_row 33 (.tmp 10) rfl w3.heap.size rfl 33 (c5 s0 s1 s2 s3 s4) (0, 0) _ R3.out Tryd.underlying33 rfl info33 ?_) | (refine quiet_same _ _ rfl _ rfl rfl ?_) | (refine quiet_eq27b _ _ rfl nf 0 bz HBZ.out rfl zero27 HLX.out (by decide +kernel) ?_)); go_big_quiet_on)
    | (refine wpQuiet_step (fun K hK => ?_); go_simp; first | (refine hK _ ?_; clear hK K) | (apply Exists.intro; refine ⟨fun w1 hw1 => ?_, hK _ ?_⟩; (first | with_reducible rfl | with_reducible exact Q1.out _ hw1 | with_reducible exact Q2.out _ hw1 | with_reducible exact Q3.out _ hw1 | with_reducible exact Q4.out _ hw1 | with_reducible exact Q5.out _ hw1); clear hK K)))
  refine wpQuiet_nil ?_
  intro wq hwq
  have HQ := Lib.hid hwq
  clear hwq
  go_wp2
  go_ret
  exact ⟨rfl, HBW.out.trans (HQ.out.mono HBW.out.size)⟩

end Go.Proofs.YtdmioipdmdmkhaaDoor
