/- Mul of the reference's numbers. -/
import Derived.Test.YtdmioipdmdmkhaaDoorC3
set_option linter.unusedVariables false
set_option linter.unusedSimpArgs false
namespace Go.Proofs.YtdmioipdmdmkhaaDoor
open Go.RowKit

theorem mulD_lt {w : Nat → Nat} (h : ∀ k, k < 32 → w k ≤ 73012215825) (i : Nat) (hi : i < 17) : bld (mulD w) 16 i < 70368744177664 := by
  unfold bld mulD
  split
  · have h1 := h i (by omega)
    have h2 := h (i + 16) (by omega)
    omega
  · omega
set_option maxRecDepth 100000 in
set_option maxHeartbeats 8000000 in
theorem rmul_any (x y : Nat) (hx : x < pr) (hy : y < pr) (w : World) : Calls Tryd.prog 35 #[numV x, numV y] w fun r w' => r = .returned (numV (x * y % pr)) ∧ Below w.heap.size w w' := by
  have HXL := Lib.hid hx
  have HYL := Lib.hid hy
  have HS0 := Lib.hid (Mls.start x y)
  clear hx hy
  unfold numV
  obtain ⟨B1, hB1⟩ : ∃ B, w.heap.size + 1 = B := ⟨_, rfl⟩
  obtain ⟨B2, hB2⟩ : ∃ B, B1 + 1 = B := ⟨_, rfl⟩
  obtain ⟨B3, hB3⟩ : ∃ B, B2 + 1 = B := ⟨_, rfl⟩
  have HS := Lib.hid (start_ref w (nArr (dg x)) (nArr (dg y)) (nArr (fun _ => 0)) (wArr (fun _ => 0)) hB1 hB2 hB3 79)
  have HB1 := Lib.hid hB1; have HB2 := Lib.hid hB2; have HB3 := Lib.hid hB3
  clear hB1 hB2 hB3
  go_enter Tryd.func35, Tryd.ntmps35
  go_wp2
  try simp only [HB1.out, HB2.out, HB3.out]
  go_loopw [6, 7] (fun v6 v7 wr => ∃ i g, v6 = .int .i64 (i : Nat) ∧ Mls x y g i 0 ∧
    wr.heap[w.heap.size]? = some (.cells (nArr (dg x)) 27 (0, 0)) ∧ wr.heap[B1]? = some (.cells (nArr (dg y)) 27 (0, 0)) ∧ wr.heap[B2]? = some (.cells (nArr (fun _ => 0)) 27 (0, 0)) ∧ wr.heap[B3]? = some (.cells (wArr g) 79 (0, 0)) ∧ Below w.heap.size w wr) (fun v6 v7 _ => 16 - (intOf v6).toNat)
  case atStart => exact ⟨0, _, rfl, HS0.out, HS.out.1, HS.out.2.1, HS.out.2.2.1, HS.out.2.2.2.1, HS.out.2.2.2.2⟩
  case round =>
    obtain ⟨i, g, hcnt, hM, h0, h1, h2, h3, hb⟩ := hrel
    have HM := Lib.hid hM; have H0 := Lib.hid h0; have H1 := Lib.hid h1; have H2 := Lib.hid h2; have H3 := Lib.hid h3; have HB := Lib.hid hb
    have h01 : w.heap.size < B1 := by have := HB1.out; omega
    have h12 : B1 < B2 := by have := HB2.out; omega
    have h23 : B2 < B3 := by have := HB3.out; omega
    have hi := hM.ii
    by_cases hlt : i < 16
    · subst hcnt
      have hk4 : decide ((i : Int) < 16) = true := by simp; omega
      clear hM h0 h1 h2 h3 hb
      go_wp2
      go_loopw [7] (fun v7 wq => ∃ j d, v7 = .int .i64 (j : Nat) ∧ Mls x y d i j ∧
        wq.heap[w.heap.size]? = some (.cells (nArr (dg x)) 27 (0, 0)) ∧ wq.heap[B1]? = some (.cells (nArr (dg y)) 27 (0, 0)) ∧ wq.heap[B2]? = some (.cells (nArr (fun _ => 0)) 27 (0, 0)) ∧ wq.heap[B3]? = some (.cells (wArr d) 79 (0, 0)) ∧ Below w.heap.size w wq) (fun v7 _ => 16 - (intOf v7).toNat)
      case atStart => exact ⟨0, g, rfl, HM.out, H0.out, H1.out, H2.out, H3.out, HB.out⟩
      case round =>
        obtain ⟨j, d, hcnt, hM, h0, h1, h2, h3, hb⟩ := hrel
        have KM := Lib.hid hM; have K0 := Lib.hid h0; have K1 := Lib.hid h1; have K2 := Lib.hid h2; have K3 := Lib.hid h3; have KB := Lib.hid hb
        have hj := hM.jj
        by_cases hjl : j < 16
        · subst hcnt
          have x0 : wr.cell? ⟨w.heap.size, i, none⟩ = some (.int .u64 (dg x i : Nat)) := cell_of_blk h0 i (nArr_at _ (by omega))
          have x1 : wr.cell? ⟨B1, j, none⟩ = some (.int .u64 (dg y j : Nat)) := cell_of_blk h1 j (nArr_at _ (by omega))
          have y0 : wr.cell? ⟨B3, i + j, none⟩ = some (.int .u64 (d (i + j) : Nat)) := cell_of_blk h3 (i + j) (wArr_at _ (by omega))
          have yf := frozen_of_blk h3 (i + j)
          have hu := hM.lo (i + j) (by omega)
          have HN := Lib.hid (hM.step hlt hjl)
          have la := dg_lt x i
          have lb := dg_lt y j
          have hp : dg x i * dg y j ≤ 65535 * 65535 := Nat.mul_le_mul (by omega) (by omega)
          clear hM h0 h1 h2 h3 hb
          generalize dg x i = a at *
          generalize dg y j = b at *
          generalize hv : d (i + j) = v at *
          have HV := Lib.hid hv
          clear hv
          have hc : (a : Int) * (b : Int) = ((a * b : Nat) : Int) := by simp
          obtain ⟨q, hq⟩ : ∃ q, q = a * b := ⟨_, rfl⟩
          rw [← hq] at hc hp HN
          have bj0 : 0 ≤ (i : Int) := by omega
          have bj1 : (i : Int) < 16 := by omega
          have bj2 : 0 ≤ (j : Int) := by omega
          have bj3 : (j : Int) < 16 := by omega
          have bk0 : 0 ≤ (i : Int) + (j : Int) := by omega
          have bk1 : (i : Int) + (j : Int) < 32 := by omega
          have ti : ((i : Int) + (j : Int)).toNat = i + j := by omega
          have wi : IntKind.i64.wrap ((i : Int) + (j : Int)) = (i : Int) + (j : Int) := IntWalk.i64_in _ (by omega)
          have vq : v + q < 18446744073709551616 := by
            have : (i + 1) * 4294836225 ≤ 17 * 4294836225 := Nat.mul_le_mul_right _ (by omega)
            omega
          have e0 : IntKind.u64.wrap (q : Int) = (q : Int) := by rw [IntKind.wrap_u64]; omega
          have e1 : IntKind.u64.wrap ((v : Int) + (q : Int)) = (v : Int) + (q : Int) := by rw [IntKind.wrap_u64]; omega
          clear hq hu
          go_wp2
          go_region_law (fail)
          all_goals
            clear e0 e1 bj0 bj1 bj2 bj3 bk0 bk1 ti wi hc
            go_wp2
            go_roundw
            case rel =>
              have HG := set_blk1 K3.out (i + j) (.int .u64 ((v + q : Nat) : Int)) (wArr_set _ (by omega) _)
              exact ⟨j + 1, _, by go_num, HN.out, set_far K0.out _ _ (by omega), set_far K1.out _ _ (by omega), set_far K2.out _ _ (by omega), HG, KB.out.drew.setCell (by simp only []; omega) _⟩
            case measure => simp [intOf]; omega
        · obtain rfl : j = 16 := by omega
          have hcn : _ = Value.int .i64 16 := hcnt
          clear hcnt
          subst hcn
          have HN := Lib.hid (hM.turn hlt HYL.out)
          clear hM h0 h1 h2 h3 hb
          go_wp2
          go_roundw
          case rel => exact ⟨i + 1, d, by go_num, HN.out, K0.out, K1.out, K2.out, K3.out, KB.out⟩
          case measure => simp [intOf]; omega
    · obtain rfl : i = 16 := by omega
      have hcn : _ = Value.int .i64 16 := hcnt
      clear hcnt
      subst hcn
      obtain ⟨D1, D2⟩ := hM.done HXL.out
      have HD2 := Lib.hid D2
      have HDB := Lib.hid (mulD_lt D2)
      have HDN := Lib.hid (show dNum (bld (mulD g) 16) 17 % pr = x * y % pr from by rw [mulD_num, D1])
      have HFE := Lib.hid (fun i => show mulD g i = g i + 38 * g (i + 16) from rfl)
      generalize mulD g = F at *
      obtain ⟨B4, hB4⟩ : ∃ B, wr.heap.size = B := ⟨_, rfl⟩
      have l3 := heap_lt h3
      have h34 : B3 < B4 := by omega
      have S2 := Lib.hid (show (wr.alloc (.cells (dArr (bld F 0)) 64)).heap[B2]? = some (.cells (nArr (fun _ => 0)) 27 (0, 0)) from by
        rw [Below.heap_alloc _ _ _ (heap_lt H2.out)]; exact H2.out)
      have S3 := Lib.hid (show (wr.alloc (.cells (dArr (bld F 0)) 64)).heap[B3]? = some (.cells (wArr g) 79 (0, 0)) from by
        rw [Below.heap_alloc _ _ _ (heap_lt H3.out)]; exact H3.out)
      have S4 := Lib.hid (show (wr.alloc (.cells (dArr (bld F 0)) 64)).heap[B4]? = some (.cells (dArr (bld F 0)) 64 (0, 0)) from alloc_at hB4)
      have SB := Lib.hid (HB.out.alloc HB.out.size (.cells (dArr (bld F 0)) 64))
      have HB4 := Lib.hid hB4
      clear hM h0 h1 h2 h3 hb D1 D2 hB4 l3
      go_wp2
      try simp only [HB4.out]
      go_loopw [9] (fun v9 wq => ∃ i, v9 = .int .i64 (i : Nat) ∧ i ≤ 16 ∧
        wq.heap[B2]? = some (.cells (nArr (fun _ => 0)) 27 (0, 0)) ∧ wq.heap[B3]? = some (.cells (wArr g) 79 (0, 0)) ∧ wq.heap[B4]? = some (.cells (dArr (bld F i)) 64 (0, 0)) ∧ Below w.heap.size w wq) (fun v9 _ => 16 - (intOf v9).toNat)
      case atStart => exact ⟨0, rfl, by omega, S2.out, S3.out, S4.out, SB.out⟩
      case round =>
        obtain ⟨i, hcnt, hi, h2, h3, h4, hb⟩ := hrel
        have T2 := Lib.hid h2; have T3 := Lib.hid h3; have T4 := Lib.hid h4; have TB := Lib.hid hb
        by_cases hlt : i < 16
        · subst hcnt
          have x0 : wr.cell? ⟨B3, i, none⟩ = some (.int .u64 (g i : Nat)) := cell_of_blk h3 i (wArr_at _ (by omega))
          have x1 : wr.cell? ⟨B3, i + 16, none⟩ = some (.int .u64 (g (i + 16) : Nat)) := cell_of_blk h3 (i + 16) (wArr_at _ (by omega))
          have y0 : wr.cell? ⟨B4, i, none⟩ = some (.int .u64 (bld F i i : Nat)) := cell_of_blk h4 i (dArr_at _ (by omega))
          have yf := frozen_of_blk h4 i
          have la := HD2.out i (by omega)
          have lb := HD2.out (i + 16) (by omega)
          have HF := Lib.hid (HFE.out i)
          clear h2 h3 h4 hb
          generalize g i = a at *
          generalize g (i + 16) = b at *
          have bj0 : 0 ≤ (i : Int) := by omega
          have bj1 : (i : Int) < 16 := by omega
          have bj2 : (i : Int) < 17 := by omega
          have bj3 : (i : Int) < 32 := by omega
          have bk0 : 0 ≤ (i : Int) + 16 := by omega
          have bk1 : (i : Int) + 16 < 32 := by omega
          have ti : ((i : Int) + 16).toNat = i + 16 := by omega
          have wi : IntKind.i64.wrap ((i : Int) + 16) = (i : Int) + 16 := IntWalk.i64_in _ (by omega)
          have e0 : IntKind.u64.wrap (38 * (b : Int)) = 38 * (b : Int) := by rw [IntKind.wrap_u64]; omega
          have e1 : IntKind.u64.wrap ((a : Int) + 38 * (b : Int)) = (a : Int) + 38 * (b : Int) := by rw [IntKind.wrap_u64]; omega
          go_wp2
          go_region_law (fail)
          all_goals
            clear e0 e1 bj0 bj1 bj2 bj3 bk0 bk1 ti wi
            go_wp2
            go_roundw
            case rel =>
              have HG := set_blk1 T4.out i (.int .u64 ((F i : Nat) : Int)) (dArr_set _ (by omega) _)
              rw [bld_upd, HF.out] at HG
              exact ⟨i + 1, by go_num, by omega, set_far T2.out _ _ (by omega), set_far T3.out _ _ (by omega), HG, TB.out.drew.setCell (by simp only []; omega) _⟩
            case measure => simp [intOf]; omega
        · obtain rfl : i = 16 := by omega
          have hcn : _ = Value.int .i64 16 := hcnt
          clear hcnt
          subst hcn
          clear h2 h3 h4 hb
          go_wp2_with (refine wpList_load_row rfl 64 (.tmp 8) rfl B4 rfl 64 (dArr (bld F 16)) (0, 0) _ T4.out Tryd.underlying64 rfl info64 ?_)
          refine (least_any _ HDB.out _).mono ?_
          rintro e w2 ⟨rfl, hb2⟩
          rw [HDN.out]
          have K2 := Lib.hid ((hb2.block _ (heap_lt T2.out)).trans T2.out)
          have KB := Lib.hid (TB.out.trans (hb2.mono TB.out.size))
          clear hb2
          go_wp2_with (refine wpList_store_row rfl 27 (.tmp 4) (.tmp 52) rfl B2 (nArr (dg (x * y % pr))) rfl rfl 27 (nArr (fun _ => 0)) K2.out info27 rfl (nArr_one _) ?_)
          try simp only [Exit.inBlock, Exit.then]
          refine bodyPost_ret (results_cell_row rfl _ _ B2 27 (nArr (dg (x * y % pr))) (0, 0) _ rfl (heap_setRow K2.out _) Tryd.underlying27 rfl info27) rfl ?_
          exact ⟨rfl, below_setRow KB.out (by omega) _⟩

end Go.Proofs.YtdmioipdmdmkhaaDoor
