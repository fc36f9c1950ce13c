/- Power and Invert of the reference's numbers. -/
import Derived.Test.YtdmioipdmdmkhaaDoorC4
import Derived.Test.YtdmioipdmdmkhaaDoorC5
import Derived.Test.YtdmioipdmdmkhaaDoorB0
set_option linter.unusedVariables false
set_option linter.unusedSimpArgs false
namespace Go.Proofs.YtdmioipdmdmkhaaDoor
open Go.RowKit

theorem powP_le (x n : Nat) : powP x n < pr := Nat.mod_lt _ (by decide +kernel)
theorem one_lt : 1 < pr := by decide +kernel
theorem powP_zero (x : Nat) : powP x 0 = 1 := by unfold powP; rw [Nat.pow_zero]; exact Nat.mod_eq_of_lt one_lt
theorem powP_dbl (x n : Nat) : powP x n * powP x n % pr = powP x (2 * n) := by rw [pow_mul_pow, show n + n = 2 * n by omega]
theorem powP_succ (x n : Nat) : powP x n * x % pr = powP x (n + 1) := by unfold powP; rw [Nat.pow_succ, Nat.mod_mul_mod]
theorem half_of (n s : Nat) : n / 2 ^ s = 2 * (n / 2 ^ (s + 1)) + n / 2 ^ s % 2 := by
  rw [Nat.pow_succ, ← Nat.div_div_eq_div_mul]; omega

set_option maxRecDepth 100000 in
set_option maxHeartbeats 8000000 in
theorem rpow_any (x n : Nat) (hx : x < pr) (hn : n < 18446744073709551616) (w : World) : Calls Tryd.prog 24 #[numV x, .int .u64 n] w fun r w' => r = .returned (numV (powP x n)) ∧ Below w.heap.size w w' := by
  have HX := Lib.hid hx
  clear hx
  unfold numV
  obtain ⟨B1, hB1⟩ : ∃ B, w.heap.size + 1 = B := ⟨_, rfl⟩
  have HB1 := Lib.hid hB1
  have HS0 := Lib.hid (show ((w.alloc (.cells (nArr (dg x)) 27)).alloc (.cells (nArr (fun _ => 0)) 27)).heap[w.heap.size]? = some (.cells (nArr (dg x)) 27 (0, 0)) from by
    rw [Below.heap_alloc _ _ _ (by simp)]; exact alloc_at rfl)
  have HS1 := Lib.hid (show ((w.alloc (.cells (nArr (dg x)) 27)).alloc (.cells (nArr (fun _ => 0)) 27)).heap[B1]? = some (.cells (nArr (fun _ => 0)) 27 (0, 0)) from alloc_at (by simp [hB1]))
  have HSB := Lib.hid (show Below w.heap.size w ((w.alloc (.cells (nArr (dg x)) 27)).alloc (.cells (nArr (fun _ => 0)) 27)) from (alloc_only w _).alloc (by simp) _)
  clear hB1
  go_enter Tryd.func24, Tryd.ntmps24
  go_wp2_with fail
  refine (rsmall_any 1 (by omega) _).mono ?_
  rintro e w2 ⟨rfl, hb2⟩
  have K0 := Lib.hid ((hb2.block _ (heap_lt HS0.out)).trans HS0.out)
  have K1 := Lib.hid ((hb2.block _ (heap_lt HS1.out)).trans HS1.out)
  have KB := Lib.hid (HSB.out.trans (hb2.mono HSB.out.size))
  clear hb2
  obtain ⟨B2, hB2⟩ : ∃ B, w2.heap.size = B := ⟨_, rfl⟩
  have l1 := heap_lt K1.out
  have h01 : w.heap.size < B1 := by have := HB1.out; omega
  have h12 : B1 < B2 := by omega
  have G2 := Lib.hid (show (w2.alloc (.cells (nArr (fun _ => 0)) 27)).heap[w2.heap.size]? = some (.cells (nArr (fun _ => 0)) 27 (0, 0)) from alloc_at rfl)
  have S0 := Lib.hid (setRow_far (show (w2.alloc (.cells (nArr (fun _ => 0)) 27)).heap[w.heap.size]? = some (.cells (nArr (dg x)) 27 (0, 0)) from by
    rw [Below.heap_alloc _ _ _ (heap_lt K0.out)]; exact K0.out) (show w.heap.size ≠ B2 by omega) (nArr (dg 1)))
  have S1 := Lib.hid (setRow_far (show (w2.alloc (.cells (nArr (fun _ => 0)) 27)).heap[B1]? = some (.cells (nArr (fun _ => 0)) 27 (0, 0)) from by
    rw [Below.heap_alloc _ _ _ (heap_lt K1.out)]; exact K1.out) (show B1 ≠ B2 by omega) (nArr (dg 1)))
  have S2 := Lib.hid (heap_setRow (show (w2.alloc (.cells (nArr (fun _ => 0)) 27)).heap[B2]? = some (.cells (nArr (fun _ => 0)) 27 (0, 0)) from alloc_at hB2) (nArr (dg 1)))
  have SB := Lib.hid (below_setRow (KB.out.alloc KB.out.size (.cells (nArr (fun _ => 0)) 27)) (show w.heap.size ≤ B2 by omega) (nArr (dg 1)))
  have HB2 := Lib.hid hB2
  clear hB2 l1
  unfold numV
  go_wp2_with (refine wpList_store_row rfl 27 (.tmp 5) (.tmp 7) rfl w2.heap.size (nArr (dg 1)) rfl rfl 27 (nArr (fun _ => 0)) G2.out info27 rfl (nArr_one _) ?_)
  try simp only [HB1.out, HB2.out]
  go_loopw [6] (fun v6 wr => ∃ r : Nat, v6 = .int .i64 ((r : Int) - 1) ∧ r ≤ 64 ∧
    wr.heap[w.heap.size]? = some (.cells (nArr (dg x)) 27 (0, 0)) ∧ wr.heap[B1]? = some (.cells (nArr (fun _ => 0)) 27 (0, 0)) ∧ wr.heap[B2]? = some (.cells (nArr (dg (powP x (n / 2 ^ r)))) 27 (0, 0)) ∧ Below w.heap.size w wr) (fun v6 _ => (intOf v6 + 1).toNat)
  case atStart => exact ⟨64, rfl, by omega, S0.out, S1.out, by rw [Nat.div_eq_of_lt (show n < 2 ^ 64 from hn), powP_zero]; exact S2.out, SB.out⟩
  case round =>
    obtain ⟨r, hcnt, hr, h0, h1, h2, hb⟩ := hrel
    have H0 := Lib.hid h0; have H1 := Lib.hid h1; have H2 := Lib.hid h2; have HB := Lib.hid hb
    clear h0 h1 h2 hb
    cases r with
    | zero =>
      have hcn : _ = Value.int .i64 (-1) := hcnt
      clear hcnt
      subst hcn
      rw [Nat.pow_zero, Nat.div_one] at H2
      go_wp2_with (first | (refine wpList_load_row rfl 27 (.tmp 5) rfl B2 rfl 27 (nArr (dg (powP x n))) (0, 0) _ H2.out Tryd.underlying27 rfl info27 ?_) | (refine wpList_store_row rfl 27 (.tmp 4) (.tmp 23) rfl B1 (nArr (dg (powP x n))) rfl rfl 27 (nArr (fun _ => 0)) H1.out info27 rfl (nArr_one _) ?_))
      try simp only [Exit.inBlock, Exit.then]
      refine bodyPost_ret (results_cell_row rfl _ _ B1 27 (nArr (dg (powP x n))) (0, 0) _ rfl (heap_setRow H1.out _) Tryd.underlying27 rfl info27) rfl ?_
      exact ⟨rfl, below_setRow HB.out (by omega) _⟩
    | succ s =>
      have hcn : _ = Value.int .i64 (s : Int) := hcnt.trans (congrArg (Value.int .i64) (by omega))
      clear hcnt
      subst hcn
      have HM := Lib.hid (fun w => rmul_any (powP x (n / 2 ^ (s + 1))) (powP x (n / 2 ^ (s + 1))) (powP_le _ _) (powP_le _ _) w)
      rw [powP_dbl] at HM
      have HH := Lib.hid (half_of n s)
      generalize n / 2 ^ (s + 1) = m at *
      unfold numV at HM
      go_wp2_with (refine wpList_load_row rfl 27 (.tmp 5) rfl B2 rfl 27 (nArr (dg (powP x m))) (0, 0) _ H2.out Tryd.underlying27 rfl info27 ?_)
      refine (HM.out _).mono ?_
      rintro e w3 ⟨rfl, hb3⟩
      have L0 := Lib.hid ((hb3.block _ (heap_lt H0.out)).trans H0.out)
      have L1 := Lib.hid ((hb3.block _ (heap_lt H1.out)).trans H1.out)
      have L2 := Lib.hid ((hb3.block _ (heap_lt H2.out)).trans H2.out)
      have LB := Lib.hid (HB.out.trans (hb3.mono HB.out.size))
      clear hb3
      have M2 := Lib.hid (heap_setRow L2.out (nArr (dg (powP x (2 * m)))))
      have M0 := Lib.hid (setRow_far L0.out (show w.heap.size ≠ B2 by omega) (nArr (dg (powP x (2 * m)))))
      have M1 := Lib.hid (setRow_far L1.out (show B1 ≠ B2 by omega) (nArr (dg (powP x (2 * m)))))
      have MB := Lib.hid (below_setRow LB.out (show w.heap.size ≤ B2 by omega) (nArr (dg (powP x (2 * m)))))
      have hq : n / 2 ^ s < 18446744073709551616 := Nat.lt_of_le_of_lt (Nat.div_le_self _ _) hn
      have hc : (n : Int) / 2 ^ s = ((n / 2 ^ s : Nat) : Int) := by simp
      by_cases hodd : n / 2 ^ s % 2 = 1
      · have ha : bits .and .u64 ((n : Int) / 2 ^ s) 1 = 1 := by rw [hc, and_one _ hq, hodd]; rfl
        have HE := Lib.hid (show n / 2 ^ s = 2 * m + 1 from by rw [HH.out, hodd])
        have HM2 := Lib.hid (fun w => rmul_any (powP x (2 * m)) x (powP_le _ _) HX.out w)
        rw [powP_succ] at HM2
        unfold numV at HM2
        clear hc hodd hq
        go_wp2_with (first | (refine wpList_store_row rfl 27 (.tmp 5) (.tmp 14) rfl B2 (nArr (dg (powP x (2 * m)))) rfl rfl 27 (nArr (dg (powP x m))) L2.out info27 rfl (nArr_one _) ?_) | (refine wpList_load_row rfl 27 (.tmp 5) rfl B2 rfl 27 (nArr (dg (powP x (2 * m)))) (0, 0) _ M2.out Tryd.underlying27 rfl info27 ?_) | (refine wpList_load_row rfl 27 (.tmp 2) rfl w.heap.size rfl 27 (nArr (dg x)) (0, 0) _ M0.out Tryd.underlying27 rfl info27 ?_))
        refine (HM2.out _).mono ?_
        rintro e w4 ⟨rfl, hb4⟩
        have N0 := Lib.hid ((hb4.block _ (heap_lt M0.out)).trans M0.out)
        have N1 := Lib.hid ((hb4.block _ (heap_lt M1.out)).trans M1.out)
        have N2 := Lib.hid ((hb4.block _ (heap_lt M2.out)).trans M2.out)
        have NB := Lib.hid (MB.out.trans (hb4.mono MB.out.size))
        clear hb4
        go_wp2_with (refine wpList_store_row rfl 27 (.tmp 5) (.tmp 22) rfl B2 (nArr (dg (powP x (2 * m + 1)))) rfl rfl 27 (nArr (dg (powP x (2 * m)))) N2.out info27 rfl (nArr_one _) ?_)
        go_roundw
        case rel => exact ⟨s, rfl, by omega, setRow_far N0.out (by omega) _, setRow_far N1.out (by omega) _, by rw [HE.out]; exact heap_setRow N2.out _, below_setRow NB.out (by omega) _⟩
        case measure => simp [intOf]
      · have ha : bits .and .u64 ((n : Int) / 2 ^ s) 1 = 0 := by rw [hc, and_one _ hq, show n / 2 ^ s % 2 = 0 by omega]; rfl
        have HE := Lib.hid (show n / 2 ^ s = 2 * m from by rw [HH.out]; omega)
        clear hc hodd hq
        go_wp2_with (refine wpList_store_row rfl 27 (.tmp 5) (.tmp 14) rfl B2 (nArr (dg (powP x (2 * m)))) rfl rfl 27 (nArr (dg (powP x m))) L2.out info27 rfl (nArr_one _) ?_)
        go_roundw
        case rel => exact ⟨s, rfl, by omega, M0.out, M1.out, by rw [HE.out]; exact M2.out, MB.out⟩
        case measure => simp [intOf]

/-! ### Invert -/
theorem inv_bits : ∀ s, s < 255 → invE / 2 ^ s = 2 * (invE / 2 ^ (s + 1)) + (if s = 2 ∨ s = 4 then 0 else 1) := by decide +kernel
theorem inv_top : invE / 2 ^ 255 = 0 := by decide +kernel
set_option maxRecDepth 100000 in
set_option maxHeartbeats 8000000 in
theorem rinv_any (x : Nat) (hx : x < pr) (w : World) : Calls Tryd.prog 25 #[numV x] w fun r w' => r = .returned (numV (powP x invE)) ∧ Below w.heap.size w w' := by
  have HX := Lib.hid hx
  have HBT := Lib.hid inv_bits
  have HTP := Lib.hid inv_top
  clear hx
  obtain ⟨n, hnE⟩ : ∃ n, n = invE := ⟨_, rfl⟩
  rw [← hnE] at HBT HTP ⊢
  clear hnE
  unfold numV
  obtain ⟨B1, hB1⟩ : ∃ B, w.heap.size + 1 = B := ⟨_, rfl⟩
  have HB1 := Lib.hid hB1
  have HS0 := Lib.hid (show ((w.alloc (.cells (nArr (dg x)) 27)).alloc (.cells (nArr (fun _ => 0)) 27)).heap[w.heap.size]? = some (.cells (nArr (dg x)) 27 (0, 0)) from by
    rw [Below.heap_alloc _ _ _ (by simp)]; exact alloc_at rfl)
  have HS1 := Lib.hid (show ((w.alloc (.cells (nArr (dg x)) 27)).alloc (.cells (nArr (fun _ => 0)) 27)).heap[B1]? = some (.cells (nArr (fun _ => 0)) 27 (0, 0)) from alloc_at (by simp [hB1]))
  have HSB := Lib.hid (show Below w.heap.size w ((w.alloc (.cells (nArr (dg x)) 27)).alloc (.cells (nArr (fun _ => 0)) 27)) from (alloc_only w _).alloc (by simp) _)
  clear hB1
  go_enter Tryd.func25, Tryd.ntmps25
  go_wp2_with fail
  refine (rsmall_any 1 (by omega) _).mono ?_
  rintro e w2 ⟨rfl, hb2⟩
  have K0 := Lib.hid ((hb2.block _ (heap_lt HS0.out)).trans HS0.out)
  have K1 := Lib.hid ((hb2.block _ (heap_lt HS1.out)).trans HS1.out)
  have KB := Lib.hid (HSB.out.trans (hb2.mono HSB.out.size))
  clear hb2
  obtain ⟨B2, hB2⟩ : ∃ B, w2.heap.size = B := ⟨_, rfl⟩
  have l1 := heap_lt K1.out
  have h01 : w.heap.size < B1 := by have := HB1.out; omega
  have h12 : B1 < B2 := by omega
  have G2 := Lib.hid (show (w2.alloc (.cells (nArr (fun _ => 0)) 27)).heap[w2.heap.size]? = some (.cells (nArr (fun _ => 0)) 27 (0, 0)) from alloc_at rfl)
  have S0 := Lib.hid (setRow_far (show (w2.alloc (.cells (nArr (fun _ => 0)) 27)).heap[w.heap.size]? = some (.cells (nArr (dg x)) 27 (0, 0)) from by
    rw [Below.heap_alloc _ _ _ (heap_lt K0.out)]; exact K0.out) (show w.heap.size ≠ B2 by omega) (nArr (dg 1)))
  have S1 := Lib.hid (setRow_far (show (w2.alloc (.cells (nArr (fun _ => 0)) 27)).heap[B1]? = some (.cells (nArr (fun _ => 0)) 27 (0, 0)) from by
    rw [Below.heap_alloc _ _ _ (heap_lt K1.out)]; exact K1.out) (show B1 ≠ B2 by omega) (nArr (dg 1)))
  have S2 := Lib.hid (heap_setRow (show (w2.alloc (.cells (nArr (fun _ => 0)) 27)).heap[B2]? = some (.cells (nArr (fun _ => 0)) 27 (0, 0)) from alloc_at hB2) (nArr (dg 1)))
  have SB := Lib.hid (below_setRow (KB.out.alloc KB.out.size (.cells (nArr (fun _ => 0)) 27)) (show w.heap.size ≤ B2 by omega) (nArr (dg 1)))
  have HB2 := Lib.hid hB2
  clear hB2 l1
  unfold numV
  go_wp2_with (refine wpList_store_row rfl 27 (.tmp 3) (.tmp 5) rfl w2.heap.size (nArr (dg 1)) rfl rfl 27 (nArr (fun _ => 0)) G2.out info27 rfl (nArr_one _) ?_)
  try simp only [HB1.out, HB2.out]
  go_loopw [4] (fun v4 wr => ∃ r : Nat, v4 = .int .i64 ((r : Int) - 1) ∧ r ≤ 255 ∧
    wr.heap[w.heap.size]? = some (.cells (nArr (dg x)) 27 (0, 0)) ∧ wr.heap[B1]? = some (.cells (nArr (fun _ => 0)) 27 (0, 0)) ∧ wr.heap[B2]? = some (.cells (nArr (dg (powP x (n / 2 ^ r)))) 27 (0, 0)) ∧ Below w.heap.size w wr) (fun v4 _ => (intOf v4 + 1).toNat)
  case atStart => exact ⟨255, rfl, by omega, S0.out, S1.out, by rw [HTP.out, powP_zero]; exact S2.out, SB.out⟩
  case round =>
    obtain ⟨r, hcnt, hr, h0, h1, h2, hb⟩ := hrel
    have H0 := Lib.hid h0; have H1 := Lib.hid h1; have H2 := Lib.hid h2; have HB := Lib.hid hb
    clear h0 h1 h2 hb
    cases r with
    | zero =>
      have hcn : _ = Value.int .i64 (-1) := hcnt
      clear hcnt
      subst hcn
      rw [Nat.pow_zero, Nat.div_one] at H2
      go_wp2_with (first | (refine wpList_load_row rfl 27 (.tmp 3) rfl B2 rfl 27 (nArr (dg (powP x n))) (0, 0) _ H2.out Tryd.underlying27 rfl info27 ?_) | (refine wpList_store_row rfl 27 (.tmp 2) (.tmp 22) rfl B1 (nArr (dg (powP x n))) rfl rfl 27 (nArr (fun _ => 0)) H1.out info27 rfl (nArr_one _) ?_))
      try simp only [Exit.inBlock, Exit.then]
      refine bodyPost_ret (results_cell_row rfl _ _ B1 27 (nArr (dg (powP x n))) (0, 0) _ rfl (heap_setRow H1.out _) Tryd.underlying27 rfl info27) rfl ?_
      exact ⟨rfl, below_setRow HB.out (by omega) _⟩
    | succ s =>
      have hcn : _ = Value.int .i64 (s : Int) := hcnt.trans (congrArg (Value.int .i64) (by omega))
      clear hcnt
      subst hcn
      have HM := Lib.hid (fun w => rmul_any (powP x (n / 2 ^ (s + 1))) (powP x (n / 2 ^ (s + 1))) (powP_le _ _) (powP_le _ _) w)
      rw [powP_dbl] at HM
      have HH := Lib.hid (HBT.out s (by omega))
      generalize n / 2 ^ (s + 1) = m at *
      unfold numV at HM
      go_wp2_with (refine wpList_load_row rfl 27 (.tmp 3) rfl B2 rfl 27 (nArr (dg (powP x m))) (0, 0) _ H2.out Tryd.underlying27 rfl info27 ?_)
      refine (HM.out _).mono ?_
      rintro e w3 ⟨rfl, hb3⟩
      have L0 := Lib.hid ((hb3.block _ (heap_lt H0.out)).trans H0.out)
      have L1 := Lib.hid ((hb3.block _ (heap_lt H1.out)).trans H1.out)
      have L2 := Lib.hid ((hb3.block _ (heap_lt H2.out)).trans H2.out)
      have LB := Lib.hid (HB.out.trans (hb3.mono HB.out.size))
      clear hb3
      have M2 := Lib.hid (heap_setRow L2.out (nArr (dg (powP x (2 * m)))))
      have M0 := Lib.hid (setRow_far L0.out (show w.heap.size ≠ B2 by omega) (nArr (dg (powP x (2 * m)))))
      have M1 := Lib.hid (setRow_far L1.out (show B1 ≠ B2 by omega) (nArr (dg (powP x (2 * m)))))
      have MB := Lib.hid (below_setRow LB.out (show w.heap.size ≤ B2 by omega) (nArr (dg (powP x (2 * m)))))
      by_cases hz : s = 2 ∨ s = 4
      · have HE := Lib.hid (show n / 2 ^ s = 2 * m from by rw [HH.out, if_pos hz]; rfl)
        rcases hz with rfl | rfl
        all_goals
          go_wp2_with (refine wpList_store_row rfl 27 (.tmp 3) (.tmp 12) rfl B2 (nArr (dg (powP x (2 * m)))) rfl rfl 27 (nArr (dg (powP x m))) L2.out info27 rfl (nArr_one _) ?_)
          go_roundw
          case rel => first | exact ⟨2, rfl, by omega, M0.out, M1.out, by rw [HE.out]; exact M2.out, MB.out⟩ | exact ⟨4, rfl, by omega, M0.out, M1.out, by rw [HE.out]; exact M2.out, MB.out⟩
          case measure => simp [intOf]
      · have HE := Lib.hid (show n / 2 ^ s = 2 * m + 1 from by rw [HH.out, if_neg hz])
        have e2 : ((s : Int) == 2) = false := by simp; omega
        have e4 : ((s : Int) == 4) = false := by simp; omega
        have f2 : ((s : Int) != 2) = true := by simp; omega
        have f4 : ((s : Int) != 4) = true := by simp; omega
        have HM2 := Lib.hid (fun w => rmul_any (powP x (2 * m)) x (powP_le _ _) HX.out w)
        rw [powP_succ] at HM2
        unfold numV at HM2
        clear hz
        go_wp2_with (first | (refine wpList_store_row rfl 27 (.tmp 3) (.tmp 12) rfl B2 (nArr (dg (powP x (2 * m)))) rfl rfl 27 (nArr (dg (powP x m))) L2.out info27 rfl (nArr_one _) ?_) | (refine wpList_load_row rfl 27 (.tmp 3) rfl B2 rfl 27 (nArr (dg (powP x (2 * m)))) (0, 0) _ M2.out Tryd.underlying27 rfl info27 ?_) | (refine wpList_load_row rfl 27 (.tmp 1) rfl w.heap.size rfl 27 (nArr (dg x)) (0, 0) _ M0.out Tryd.underlying27 rfl info27 ?_))
        refine (HM2.out _).mono ?_
        rintro e w4 ⟨rfl, hb4⟩
        have N0 := Lib.hid ((hb4.block _ (heap_lt M0.out)).trans M0.out)
        have N1 := Lib.hid ((hb4.block _ (heap_lt M1.out)).trans M1.out)
        have N2 := Lib.hid ((hb4.block _ (heap_lt M2.out)).trans M2.out)
        have NB := Lib.hid (MB.out.trans (hb4.mono MB.out.size))
        clear hb4
        go_wp2_with (refine wpList_store_row rfl 27 (.tmp 3) (.tmp 21) rfl B2 (nArr (dg (powP x (2 * m + 1)))) rfl rfl 27 (nArr (dg (powP x (2 * m)))) N2.out info27 rfl (nArr_one _) ?_)
        go_roundw
        case rel => exact ⟨s, rfl, by omega, setRow_far N0.out (by omega) _, setRow_far N1.out (by omega) _, by rw [HE.out]; exact heap_setRow N2.out _, below_setRow NB.out (by omega) _⟩
        case measure => simp [intOf]

end Go.Proofs.YtdmioipdmdmkhaaDoor
