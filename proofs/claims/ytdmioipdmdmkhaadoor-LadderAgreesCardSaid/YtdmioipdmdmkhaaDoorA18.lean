/- The chapter's examples of package field stand. -/
import Derived.Test.YtdmioipdmdmkhaaDoorA16
set_option linter.unusedVariables false
set_option linter.unusedSimpArgs false
namespace Go.Proofs.YtdmioipdmdmkhaaDoor
open Go.RowKit

set_option maxRecDepth 100000 in
set_option maxHeartbeats 8000000 in
theorem awakeF_any : DetF 17 #[] (.bool true) := by
  intro w h4
  obtain ⟨e0, d0⟩ := smallV_spec 0 (by omega)
  obtain ⟨e1, d1⟩ := smallV_spec 1 (by omega)
  obtain ⟨e2, d2⟩ := smallV_spec 2 (by omega)
  obtain ⟨e18, d18⟩ := smallV_spec 18 (by omega)
  obtain ⟨eS, dS⟩ := subV_spec e0 e1
  have HK := Lib.hid (fun w => key_any eS w)
  obtain ⟨m0, m1, m31, msub⟩ := minus_key
  have mval := minus_val
  have mbl := fun b (h : b < 32) => byteOf_lt (subP 0 1) b
  unfold keyOf at HK
  generalize byteOf (subP 0 1) = fm at *
  have HF1 := Lib.hid (fof_any fm mbl)
  rw [mval, show decide (pr - 1 < pr) = true by decide +kernel] at HF1
  obtain ⟨c0, c1, c2, c3, c4, hcv⟩ : ∃ c0 c1 c2 c3 c4, ofL fm = ⟨c0, c1, c2, c3, c4⟩ := ⟨_, _, _, _, _, rfl⟩
  rw [hcv] at HF1
  have HF2 := Lib.hid (fof_any (byteOf allY) (fun b _ => byteOf_lt _ b))
  rw [allY_val, show decide (allY < pr) = false by decide +kernel] at HF2
  have hel := ofL_el (f := byteOf allY) (fun b _ => byteOf_lt _ b)
  rw [allY_val, all_el] at hel
  obtain ⟨t0, t1, t2, t3, t4, htv⟩ : ∃ c0 c1 c2 c3 c4, ofL (byteOf allY) = ⟨c0, c1, c2, c3, c4⟩ := ⟨_, _, _, _, _, rfl⟩
  rw [htv] at HF2 hel
  have HQ := Lib.hid (fun w => equal_any hel e18 w)
  rw [show decide (18 = 18) = true by decide] at HQ
  have HI := Lib.hid (invert_any e2)
  obtain ⟨eM, dM⟩ := mulV_spec (invV_el e2) e2
  rw [two_inv] at eM
  have HQ2 := Lib.hid (fun w => equal_any eM e1 w)
  rw [show decide (1 = 1) = true by decide] at HQ2
  generalize smallV 0 = z0 at *
  generalize smallV 1 = z1 at *
  generalize smallV 2 = z2 at *
  generalize smallV 18 = z18 at *
  generalize subV z0 z1 = zs at *
  generalize invV z2 = zi at *
  generalize mulV zi z2 = zm at *
  have D0 := Lib.hid (show Det 29 #[.int .u64 0] z0 from d0)
  have D1 := Lib.hid (show Det 29 #[.int .u64 1] z1 from d1)
  have D2 := Lib.hid (show Det 29 #[.int .u64 2] z2 from d2)
  have D18 := Lib.hid (show Det 29 #[.int .u64 18] z18 from d18)
  have DS := Lib.hid dS; have DM := Lib.hid dM; have H4 := Lib.hid h4
  have h4p := h4.pos
  clear d0 d1 d2 d18 dS dM e0 e1 e2 e18 eS eM hel hcv htv mval mbl msub h4
  unfold Det at D0 D1 D2 D18 HF1 HF2 HI DM
  unfold DetF at DS
  dsimp only [L5.v, limbsV] at HF1 HF2 HQ
  go_enter Tryd.func17, Tryd.ntmps17
  go_wp2_with fail
  refine (D0.out _).mono ?_
  rintro e w1 ⟨rfl, hb1⟩
  have B1 := Lib.hid hb1; clear hb1
  go_wp2_with fail
  refine (D1.out _).mono ?_
  rintro e w2 ⟨rfl, hb2⟩
  have B2 := Lib.hid (B1.out.trans (hb2.mono B1.out.size)); clear hb2
  go_wp2_with fail
  refine (DS.out _ (H4.out.below h4p B2.out)).mono ?_
  rintro e w3 ⟨rfl, hb3⟩
  have B3 := Lib.hid (B2.out.trans (hb3.mono B2.out.size)); clear hb3
  go_wp2_with fail
  refine (HK.out _).mono ?_
  rintro e w4 ⟨rfl, hb4⟩
  have B4 := Lib.hid (B3.out.trans (hb4.mono B3.out.size)); clear hb4
  have G0 := Lib.hid (show (w4.alloc (.cells zArr 23)).heap[w4.heap.size]? = some (.cells zArr 23 (0, 0)) from alloc_at rfl)
  have G1 := Lib.hid (heap_setRow G0.out (kArr fm))
  have GB := Lib.hid (below_setRow (B4.out.alloc B4.out.size (.cells zArr 23)) B4.out.size (kArr fm))
  go_wp2_with (first | (refine wpList_load_row rfl 23 (.tmp 1) rfl w4.heap.size rfl 23 (kArr fm) (0, 0) _ G1.out Tryd.underlying23 rfl info23 ?_) | (refine wpList_store_row rfl 23 (.tmp 1) (.tmp 13) rfl w4.heap.size (kArr fm) rfl rfl 23 zArr G0.out info23 rfl (kArr_one _) ?_))
  refine (HF1.out _).mono ?_
  rintro e w5 ⟨rfl, hb5⟩
  have hs5 := hb5.size
  simp [World.setRow] at hs5
  have B5 := Lib.hid (GB.out.trans (hb5.mono GB.out.size))
  have K1 := Lib.hid ((hb5.block _ (heap_lt G1.out)).trans G1.out)
  clear hb5
  have U0 := Lib.hid (show ((w5.alloc (.cells (c5 c0 c1 c2 c3 c4) 33)).alloc (.cells zArr 23)).heap[w5.heap.size + 1]? = some (.cells zArr 23 (0, 0)) from alloc_at (by simp))
  have UB := Lib.hid ((B5.out.alloc B5.out.size (.cells (c5 c0 c1 c2 c3 c4) 33)).alloc (B5.out.alloc B5.out.size (.cells (c5 c0 c1 c2 c3 c4) 33)).size (.cells zArr 23))
  have B6 := Lib.hid (below_setRow UB.out (g := w5.heap.size + 1) (by have := B5.out.size; omega) zArr)
  have K2 := Lib.hid (show (((w5.alloc (.cells (c5 c0 c1 c2 c3 c4) 33)).alloc (.cells zArr 23)).setRow (w5.heap.size + 1) zArr).heap[w4.heap.size]? = some (.cells (kArr fm) 23 (0, 0)) from by
    rw [setRow_other _ _ _ _ (by omega), Below.heap_alloc _ _ _ (by simp; omega), Below.heap_alloc _ _ _ (by omega)]; exact K1.out)
  have K4 := Lib.hid (heap_setRow U0.out zArr)
  go_wp2_with (refine wpList_store_row rfl 23 (.tmp 4) (.tmp 19) rfl (w5.heap.size + 1) zArr rfl rfl 23 zArr U0.out info23 rfl (by rw [zArr_k]; exact kArr_one _) ?_)
  have hw5 := B5.out.size
  go_loopw [5] (fun v5 wr => ∃ i : Nat, v5 = .int .i64 i ∧ i ≤ 32 ∧ wr.heap[w5.heap.size + 1]? = some (.cells (kArr (mix 0 allY i)) 23 (0, 0)) ∧ wr.heap[w4.heap.size]? = some (.cells (kArr fm) 23 (0, 0)) ∧ Below w.heap.size w wr) (fun v5 _ => 32 - (intOf v5).toNat)
  case atStart =>
    refine ⟨0, rfl, by omega, ?_, K2.out, B6.out⟩
    have e : kArr (mix 0 allY 0) = zArr := by rw [zArr_k]; exact kArr_congr fun b hb => mix_ge (Nat.zero_le _)
    rw [e]; exact K4.out
  case round =>
    obtain ⟨i, rfl, hi, hh, ho, hb⟩ := hrel
    have HH := Lib.hid hh; have HO := Lib.hid ho; have HB := Lib.hid hb
    by_cases hlt : i < 32
    · have x := cell_of_blk hh i (kArr_get _ hlt)
      have xf := frozen_of_blk hh i
      have HSET := Lib.hid (kArr_set (X := 0) (Y := allY) hlt (allY_byte i hlt))
      generalize mix 0 allY i i = q at x
      clear hh ho hb
      go_wp2
      go_roundw
      case rel => exact ⟨i + 1, by go_num, hlt, set_blk1 HH.out i _ HSET.out, set_far HO.out _ _ (by omega), HB.out.setCell (by simp only []; omega) _⟩
      case measure => simp [intOf]; omega
    · have e : kArr (mix 0 allY i) = kArr (byteOf allY) := kArr_congr fun b hb => mix_lt (by omega)
      rw [e] at HH
      clear hh ho hb
      go_wp2_with (refine wpList_load_row rfl 23 (.tmp 4) rfl (w5.heap.size + 1) rfl 23 (kArr (byteOf allY)) (0, 0) _ HH.out Tryd.underlying23 rfl info23 ?_)
      refine (HF2.out _).mono ?_
      rintro e w6 ⟨rfl, hb6⟩
      have N1 := Lib.hid ((hb6.block _ (heap_lt HO.out)).trans HO.out)
      have N6 := Lib.hid (HB.out.trans (hb6.mono HB.out.size))
      clear hb6
      go_wp2
      obtain ⟨W, hW⟩ : ∃ W, W = w6.alloc (.cells (c5 t0 t1 t2 t3 t4) 33) := ⟨_, rfl⟩
      have P1 := Lib.hid (show W.heap[w4.heap.size]? = some (.cells (kArr fm) 23 (0, 0)) from by rw [hW, Below.heap_alloc _ _ _ (heap_lt N1.out)]; exact N1.out)
      have PB := Lib.hid (show Below w.heap.size w W from by rw [hW]; exact N6.out.alloc N6.out.size _)
      have PT := Lib.hid (show W.heap[w6.heap.size]? = some (.cells (c5 t0 t1 t2 t3 t4) 33 (0, 0)) from by rw [hW]; exact alloc_at rfl)
      have HRD := Lib.hid (fun (w1 : World) (hb : Below W.heap.size W w1) => (facts5 ((hb.block _ (heap_lt PT.out)).trans PT.out)).1)
      have Q18 := Lib.hid (fun (w1 : World) (hb : Below W.heap.size W w1) => (D18.out w1).mono (fun e w2 ⟨h, hb2⟩ => (show e = Ending.returned z18 ∧ Below W.heap.size W w2 from ⟨h, hb.trans (hb2.mono hb.size)⟩)))
      have QE := Lib.hid (fun (w1 : World) (hb : Below W.heap.size W w1) => (HQ.out w1).mono (fun e w2 ⟨h, hb2⟩ => (show e = Ending.returned (.bool true) ∧ Below W.heap.size W w2 from ⟨h, hb.trans (hb2.mono hb.size)⟩)))
      rw [← hW]
      clear hW
      refine wp_region_quiet (C := fun w1 => Below W.heap.size W w1) (by kernel_rfl) (by kernel_rfl) ((Below.refl W.heap.size W).drew) ?_
      repeat (first | go_big_quiet_skip | (refine wpQuiet_step (fun K hK => ?_); go_simp; first | (refine hK _ ?_; clear hK K) | (apply Exists.intro; refine ⟨fun w1 hw1 => ?_, hK _ ?_⟩; (first | with_reducible rfl | with_reducible exact Q18.out _ hw1 | with_reducible exact QE.out _ hw1 | (obtain ⟨q0, q1, q2, q3, q4⟩ := HRD.out _ hw1; go_simp; with_reducible rfl)); clear hK K)))
      refine wpQuiet_nil ?_
      intro w7 hb7
      have C7 := Lib.hid hb7; clear hb7
      go_wp2_with fail
      refine (D2.out _).mono ?_
      rintro e w8 ⟨rfl, hb8⟩
      have C8 := Lib.hid (C7.out.trans (hb8.mono C7.out.size)); clear hb8
      go_wp2_with fail
      refine (HI.out _).mono ?_
      rintro e w9 ⟨rfl, hb9⟩
      have C9 := Lib.hid (C8.out.trans (hb9.mono C8.out.size)); clear hb9
      go_wp2_with fail
      refine (D2.out _).mono ?_
      rintro e w10 ⟨rfl, hb10⟩
      have C10 := Lib.hid (C9.out.trans (hb10.mono C9.out.size)); clear hb10
      go_wp2_with fail
      refine (DM.out _).mono ?_
      rintro e w11 ⟨rfl, hb11⟩
      have C11 := Lib.hid (C10.out.trans (hb11.mono C10.out.size)); clear hb11
      go_wp2_with fail
      refine (D1.out _).mono ?_
      rintro e w12 ⟨rfl, hb12⟩
      have C12 := Lib.hid (C11.out.trans (hb12.mono C11.out.size)); clear hb12
      go_wp2_with fail
      refine (HQ2.out _).mono ?_
      rintro e w13 ⟨rfl, hb13⟩
      have C13 := Lib.hid (C12.out.trans (hb13.mono C12.out.size)); clear hb13
      have R := Lib.hid ((C13.out.block _ (heap_lt P1.out)).trans P1.out)
      have r0 : w13.cell? ⟨w4.heap.size, 0, none⟩ = some (.int .u8 236) := by rw [cell_of_blk R.out 0 (kArr_get fm (by omega)), m0]; rfl
      have r1 : w13.cell? ⟨w4.heap.size, 1, none⟩ = some (.int .u8 255) := by rw [cell_of_blk R.out 1 (kArr_get fm (by omega)), m1]; rfl
      have r31 : w13.cell? ⟨w4.heap.size, 31, none⟩ = some (.int .u8 127) := by rw [cell_of_blk R.out 31 (kArr_get fm (by omega)), m31]; rfl
      go_wp2
      go_ret
      exact ⟨rfl, PB.out.trans (C13.out.mono PB.out.size)⟩

end Go.Proofs.YtdmioipdmdmkhaaDoor
