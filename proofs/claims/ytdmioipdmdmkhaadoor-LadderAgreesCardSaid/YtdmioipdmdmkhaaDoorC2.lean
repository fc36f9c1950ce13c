/- least of the reference's numbers. -/
import Derived.Test.YtdmioipdmdmkhaaDoorC1
import Derived.IntWalk
set_option linter.unusedVariables false
set_option linter.unusedSimpArgs false
namespace Go.Proofs.YtdmioipdmdmkhaaDoor
open Go.RowKit

theorem dArr_block (f : Nat → Nat) {g : Nat → Nat} (w : World) (B : Nat) (h : ∀ i, i < 17 → f i = g i) (hw : w.heap[B]? = some (.cells (dArr f) 64 (0, 0))) : w.heap[B]? = some (.cells (dArr g) 64 (0, 0)) := by
  rw [← dArr_congr h]; exact hw
theorem setRow_far {w : World} {g g' : Nat} {o : Obj} (h : w.heap[g]? = some o) (hne : g ≠ g') (ds : Array Value) : (w.setRow g' ds).heap[g]? = some o := by
  simp only [World.setRow, Array.getElem?_modify]; rw [if_neg (Ne.symm hne)]; exact h
/-- The passes' start. -/
theorem Pss.start {f : Nat → Nat} (h : ∀ j, j < 17 → f j < 70368744177664) : Pss (dNum f 17) f 0 := ⟨by omega, rfl, h, by omega, by omega, by omega⟩

set_option maxRecDepth 100000 in
set_option maxHeartbeats 8000000 in
theorem least_any (f : Nat → Nat) (hf : ∀ j, j < 17 → f j < 70368744177664) (w : World) : Calls Tryd.prog 51 #[.agg (dArr f)] w fun r w' => r = .returned (.agg (nArr (dg (dNum f 17 % pr)))) ∧ Below w.heap.size w w' := by
  have HP0 := Lib.hid (Pss.start hf)
  clear hf
  obtain ⟨n, hn⟩ : ∃ n, n = dNum f 17 := ⟨_, rfl⟩
  rw [← hn] at HP0 ⊢
  clear hn
  obtain ⟨B1, hB1⟩ : ∃ B, w.heap.size + 1 = B := ⟨_, rfl⟩
  have HB1 := Lib.hid hB1
  have HS0 := Lib.hid (show ((w.alloc (.cells (dArr f) 64)).alloc (.cells (nArr (fun _ => 0)) 27)).heap[w.heap.size]? = some (.cells (dArr f) 64 (0, 0)) from by
    rw [Below.heap_alloc _ _ _ (by simp)]; exact alloc_at rfl)
  have HS1 := Lib.hid (show ((w.alloc (.cells (dArr f) 64)).alloc (.cells (nArr (fun _ => 0)) 27)).heap[B1]? = some (.cells (nArr (fun _ => 0)) 27 (0, 0)) from alloc_at (by simp [hB1]))
  have HSB := Lib.hid (show Below w.heap.size w ((w.alloc (.cells (dArr f) 64)).alloc (.cells (nArr (fun _ => 0)) 27)) from (alloc_only w _).alloc (by simp) _)
  clear hB1
  go_enter Tryd.func51, Tryd.ntmps51
  go_wp2
  try simp only [HB1.out]
  go_loopw [3, 4] (fun v3 v4 wr => ∃ k g, v3 = .int .i64 (k : Nat) ∧ Pss n g k ∧
    wr.heap[w.heap.size]? = some (.cells (dArr g) 64 (0, 0)) ∧ wr.heap[B1]? = some (.cells (nArr (fun _ => 0)) 27 (0, 0)) ∧ Below w.heap.size w wr) (fun v3 v4 _ => 4 - (intOf v3).toNat)
  case atStart => exact ⟨0, f, rfl, HP0.out, HS0.out, HS1.out, HSB.out⟩
  case round =>
    obtain ⟨k, g, hcnt, hP, h0, h1, hb⟩ := hrel
    have HP := Lib.hid hP; have H0 := Lib.hid h0; have H1 := Lib.hid h1; have HB := Lib.hid hb
    have h01 : w.heap.size < B1 := by have := HB1.out; omega
    have hk := hP.kk
    by_cases hlt : k < 4
    · subst hcnt
      have hk4 : decide ((k : Int) < 4) = true := by simp; omega
      have x0 : wr.cell? ⟨w.heap.size, 0, none⟩ = some (.int .u64 (g 0 : Nat)) := cell_of_blk h0 0 (dArr_at _ (by omega))
      have x16 : wr.cell? ⟨w.heap.size, 16, none⟩ = some (.int .u64 (g 16 : Nat)) := cell_of_blk h0 16 (dArr_at _ (by omega))
      have f0 := frozen_of_blk h0 0
      have f16 := frozen_of_blk h0 16
      have l0 := hP.b0 0 (by omega)
      have l16 := hP.b0 16 (by omega)
      have HF := Lib.hid (foldF_lt hP)
      have HFD := Lib.hid (show foldF g = upd (upd g 0 (g 0 + 38 * g 16)) 16 0 from rfl)
      clear hP h0 h1 hb
      generalize g 0 = a at *
      generalize g 16 = c at *
      have HS2 := Lib.hid (show ((wr.setCell ⟨w.heap.size, 0, none⟩ (.int .u64 ((a : Int) + 38 * (c : Int)))).setCell ⟨w.heap.size, 16, none⟩ (.int .u64 0)).heap[w.heap.size]? = some (.cells (dArr (foldF g)) 64 (0, 0)) from by
        rw [HFD.out, show ((a : Int) + 38 * (c : Int)) = ((a + 38 * c : Nat) : Int) from by omega]; exact set_blk1 (set_blk1 H0.out 0 _ (dArr_set g (by omega) _)) 16 _ (dArr_set _ (by omega) _))
      go_wp2
      go_loopw [4] (fun v4 wq => ∃ i d, v4 = .int .i64 (i : Nat) ∧ Inn (foldF g) d i ∧
        wq.heap[w.heap.size]? = some (.cells (dArr d) 64 (0, 0)) ∧ wq.heap[B1]? = some (.cells (nArr (fun _ => 0)) 27 (0, 0)) ∧ Below w.heap.size w wq) (fun v4 _ => 16 - (intOf v4).toNat)
      case atStart => exact ⟨0, _, rfl, Inn.start _, HS2.out, set_far (set_far H1.out _ _ (by omega)) _ _ (by omega), (HB.out.setCell (by simp only []; omega) _).setCell (by simp only []; omega) _⟩
      case round =>
        obtain ⟨i, d, rfl, hI, h0, h1, hb⟩ := hrel
        have HI := Lib.hid hI; have J0 := Lib.hid h0; have J1 := Lib.hid h1; have JB := Lib.hid hb
        have hii := hI.ii
        by_cases hil : i < 16
        · have x0 : wr.cell? ⟨w.heap.size, i, none⟩ = some (.int .u64 (d i : Nat)) := cell_of_blk h0 i (dArr_at _ (by omega))
          have x1 : wr.cell? ⟨w.heap.size, i + 1, none⟩ = some (.int .u64 (d (i + 1) : Nat)) := cell_of_blk h0 (i + 1) (dArr_at _ (by omega))
          have f0 := frozen_of_blk h0 i
          have f1 := frozen_of_blk h0 (i + 1)
          have b0 := hI.at_
          have b1 := HF.out i (by omega)
          have b2 := HF.out (i + 1) (by omega)
          rw [← hI.hi (i + 1) (by omega)] at b2
          have HN := Lib.hid (hI.step hil HF.out)
          have HD := Lib.hid (show innF d i = upd (upd d (i + 1) (d (i + 1) + d i / 65536)) i (d i % 65536) from rfl)
          clear hI h0 h1 hb
          generalize foldF g i = b at *
          generalize hx : d i = x at *
          generalize hy : d (i + 1) = y at *
          have HX := Lib.hid hx; have HY := Lib.hid hy
          clear hx hy
          have wi : IntKind.i64.wrap ((i : Int) + 1) = (i : Int) + 1 := IntWalk.i64_in _ (by omega)
          have bi0 : 0 ≤ (i : Int) + 1 := by omega
          have bi1 : (i : Int) + 1 < 17 := by omega
          have bj0 : 0 ≤ (i : Int) := by omega
          have bj1 : (i : Int) < 17 := by omega
          have ti : ((i : Int) + 1).toNat = i + 1 := by omega
          have e1 : IntKind.u64.wrap ((y : Int) + (x : Int) / 65536) = (y : Int) + (x : Int) / 65536 := by rw [IntKind.wrap_u64]; omega
          go_wp2
          go_region_law (fail)
          all_goals
            clear e1 wi bi0 bi1 ti bj0 bj1
            go_wp2
            go_roundw
            case rel =>
              have HB2 := (JB.out.setCell (p := ⟨w.heap.size, i + 1, none⟩) (by simp only []; omega) (.int .u64 ((y + x / 65536 : Nat) : Int))).setCell (p := ⟨w.heap.size, i, none⟩) (by simp only []; omega) (.int .u64 ((x % 65536 : Nat) : Int))
              have HG := set_blk1 (set_blk1 J0.out (i + 1) (.int .u64 ((y + x / 65536 : Nat) : Int)) (dArr_set d (by omega) _)) i (.int .u64 ((x % 65536 : Nat) : Int)) (dArr_set _ (by omega) _)
              rw [← HD.out] at HG
              exact ⟨i + 1, _, by go_num, HN.out, HG, set_far (set_far J1.out _ _ (by omega)) _ _ (by omega), HB2.drew⟩
            case measure => simp [intOf]; omega
        · obtain rfl : i = 16 := by omega
          have HN := Lib.hid (HP.out.next hlt hI)
          clear hI h0 h1 hb
          go_wp2
          go_roundw
          case rel => exact ⟨k + 1, d, by go_num, HN.out, J0.out, J1.out, JB.out⟩
          case measure => simp [intOf]; omega
    · obtain rfl : k = 4 := by omega
      have hcn : _ = Value.int .i64 4 := hcnt
      clear hcnt
      subst hcn
      obtain ⟨D1, D2, D3⟩ := hP.done
      have HD1 := Lib.hid D1; have HD2 := Lib.hid D2; have HD3 := Lib.hid D3
      clear hP h0 h1 hb D1 D2 D3
      obtain ⟨x, hx⟩ : ∃ x, x = dNum g 16 := ⟨_, rfl⟩
      rw [← hx] at HD1 HD2 HD3
      have G0 := Lib.hid (show wr.heap[w.heap.size]? = some (.cells (dArr (dg x)) 64 (0, 0)) from by rw [← HD1.out]; exact H0.out)
      clear hx H0
      go_wp2
      go_loopw [5] (fun v5 wq => ∃ i y, v5 = .int .i64 (i : Nat) ∧ i ≤ 3 ∧ y < 65536 ^ 16 ∧ (i = 0 → y = x) ∧ (i = 1 → y = lessN x) ∧ (i = 2 → y = lessN (lessN x)) ∧ (i = 3 → y = lessN (lessN (lessN x))) ∧
        wq.heap[w.heap.size]? = some (.cells (dArr (dg y)) 64 (0, 0)) ∧ wq.heap[B1]? = some (.cells (nArr (fun _ => 0)) 27 (0, 0)) ∧ Below w.heap.size w wq) (fun v5 _ => 3 - (intOf v5).toNat)
      case atStart => exact ⟨0, x, rfl, by omega, HD2.out, fun _ => rfl, by omega, by omega, by omega, G0.out, H1.out, HB.out⟩
      case round =>
        obtain ⟨i, y, hcnt, hi, hy, e0, e1, e2, e3, h0, h1, hb⟩ := hrel
        have HY := Lib.hid hy; have J0 := Lib.hid h0; have J1 := Lib.hid h1; have JB := Lib.hid hb
        have E0 := Lib.hid e0; have E1 := Lib.hid e1; have E2 := Lib.hid e2; have E3 := Lib.hid e3
        clear hy h0 h1 hb e0 e1 e2 e3
        by_cases hil : i < 3
        · subst hcnt
          go_wp2_with (refine wpList_load_row rfl 64 (.tmp 1) rfl w.heap.size rfl 64 (dArr (dg y)) (0, 0) _ J0.out Tryd.underlying64 rfl info64 ?_)
          refine (less_any y HY.out _).mono ?_
          rintro e w2 ⟨rfl, hb2⟩
          have K0 := Lib.hid ((hb2.block _ (heap_lt J0.out)).trans J0.out)
          have K1 := Lib.hid ((hb2.block _ (heap_lt J1.out)).trans J1.out)
          have KB := Lib.hid (JB.out.trans (hb2.mono JB.out.size))
          clear hb2
          go_wp2_with (refine wpList_store_row rfl 64 (.tmp 1) (.tmp 47) rfl w.heap.size (dArr (dg (lessN y))) rfl rfl 64 (dArr (dg y)) K0.out info64 rfl (dArr_one _) ?_)
          go_roundw
          case rel =>
            refine ⟨i + 1, lessN y, by go_num, by omega, lessN_lt HY.out, by omega, fun h => ?_, fun h => ?_, fun h => ?_, heap_setRow K0.out _, ?_, below_setRow KB.out (Nat.le_refl _) _⟩
            · rw [E0.out (by omega)]
            · rw [E1.out (by omega)]
            · rw [E2.out (by omega)]
            · exact setRow_far K1.out (by omega) _
          case measure => simp [intOf]; omega
        · obtain rfl : i = 3 := by omega
          have hcn : _ = Value.int .i64 3 := hcnt
          clear hcnt
          subst hcn
          have HX := Lib.hid (show y = n % pr from by rw [E3.out rfl, less_three HD2.out]; exact HD3.out)
          clear E0 E1 E2 E3
          obtain ⟨B3, hB3⟩ : ∃ B, wr.heap.size = B := ⟨_, rfl⟩
          have S0 := Lib.hid (show (wr.alloc (.cells (nArr (bld (dg y) 0)) 27)).heap[w.heap.size]? = some (.cells (dArr (dg y)) 64 (0, 0)) from by
            rw [Below.heap_alloc _ _ _ (heap_lt J0.out)]; exact J0.out)
          have S1 := Lib.hid (show (wr.alloc (.cells (nArr (bld (dg y) 0)) 27)).heap[B1]? = some (.cells (nArr (fun _ => 0)) 27 (0, 0)) from by
            rw [Below.heap_alloc _ _ _ (heap_lt J1.out)]; exact J1.out)
          have S3 := Lib.hid (show (wr.alloc (.cells (nArr (bld (dg y) 0)) 27)).heap[B3]? = some (.cells (nArr (bld (dg y) 0)) 27 (0, 0)) from alloc_at hB3)
          have SB := Lib.hid (JB.out.alloc JB.out.size (.cells (nArr (bld (dg y) 0)) 27))
          have l1 := heap_lt J1.out
          have h13 : B1 < B3 := by omega
          have HB3 := Lib.hid hB3
          clear hB3 l1
          go_wp2
          try simp only [HB3.out]
          go_loopw [7] (fun v7 wq => ∃ j, v7 = .int .i64 (j : Nat) ∧ j ≤ 16 ∧
            wq.heap[w.heap.size]? = some (.cells (dArr (dg y)) 64 (0, 0)) ∧ wq.heap[B1]? = some (.cells (nArr (fun _ => 0)) 27 (0, 0)) ∧ wq.heap[B3]? = some (.cells (nArr (bld (dg y) j)) 27 (0, 0)) ∧ Below w.heap.size w wq) (fun v7 _ => 16 - (intOf v7).toNat)
          case atStart => exact ⟨0, rfl, by omega, S0.out, S1.out, S3.out, SB.out⟩
          case round =>
            obtain ⟨j, hcnt, hj, h0, h1, h3, hb⟩ := hrel
            have T0 := Lib.hid h0; have T1 := Lib.hid h1; have T3 := Lib.hid h3; have TB := Lib.hid hb
            by_cases hjl : j < 16
            · subst hcnt
              have x0 : wr.cell? ⟨w.heap.size, j, none⟩ = some (.int .u64 (dg y j : Nat)) := cell_of_blk h0 j (dArr_at _ (by omega))
              have y0 : wr.cell? ⟨B3, j, none⟩ = some (.int .u64 (bld (dg y) j j : Nat)) := cell_of_blk h3 j (nArr_at _ (by omega))
              have yf := frozen_of_blk h3 j
              clear h0 h1 h3 hb
              go_wp2
              go_roundw
              case rel => exact ⟨j + 1, by go_num, by omega, set_far T0.out _ _ (by omega), set_far T1.out _ _ (by omega), by rw [← bld_upd]; exact set_blk1 T3.out j _ (nArr_set _ hjl _), TB.out.setCell (by simp only []; omega) _⟩
              case measure => simp [intOf]; omega
            · obtain rfl : j = 16 := by omega
              have hcn : _ = Value.int .i64 16 := hcnt
              clear hcnt
              subst hcn
              have HE := Lib.hid (show nArr (bld (dg y) 16) = nArr (dg (n % pr)) from by rw [← HX.out]; exact nArr_congr fun i hi => by unfold bld; rw [if_pos hi])
              clear h0 h1 h3 hb
              go_wp2_with (first | (refine wpList_load_row rfl 27 (.tmp 6) rfl B3 rfl 27 (nArr (bld (dg y) 16)) (0, 0) _ T3.out Tryd.underlying27 rfl info27 ?_) | (refine wpList_store_row rfl 27 (.tmp 2) (.tmp 58) rfl B1 (nArr (bld (dg y) 16)) rfl rfl 27 (nArr (fun _ => 0)) T1.out info27 rfl (nArr_one _) ?_))
              try simp only [Exit.inBlock, Exit.then]
              refine bodyPost_ret (results_cell_row rfl _ _ B1 27 (nArr (bld (dg y) 16)) (0, 0) _ rfl (heap_setRow T1.out _) Tryd.underlying27 rfl info27) rfl ?_
              exact ⟨by rw [HE.out], below_setRow TB.out (by omega) _⟩

end Go.Proofs.YtdmioipdmdmkhaaDoor
