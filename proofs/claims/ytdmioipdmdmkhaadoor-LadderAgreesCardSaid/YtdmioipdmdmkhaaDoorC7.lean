/- Of of the reference's numbers. -/
import Derived.Test.YtdmioipdmdmkhaaDoorC5
import Derived.Test.YtdmioipdmdmkhaaDoorA12
set_option linter.unusedVariables false
set_option linter.unusedSimpArgs false
namespace Go.Proofs.YtdmioipdmdmkhaaDoor
open Go.RowKit

/-- A key's digit. -/
def kDig (f : Nat → Nat) (i : Nat) : Nat := f (2 * i) + 256 * f (2 * i + 1)
theorem kDig_lt {f : Nat → Nat} (hf : ∀ b, b < 32 → f b < 256) {i : Nat} (h : i < 16) : kDig f i < 65536 := by
  unfold kDig; have := hf (2 * i) (by omega); have := hf (2 * i + 1) (by omega); omega
theorem kDig_num (f : Nat → Nat) : dNum (kDig f) 16 = kVal f := kNum_pair f 16
abbrev two255 : Nat := 57896044618658097711785492504343953926634992332820282019728792003956564819968
/-- The digits without the highest bit. -/
def kLow (f : Nat → Nat) : Nat → Nat := upd (bld (kDig f) 16) 15 (kDig f 15 % 32768)
theorem kLow_lt {f : Nat → Nat} (hf : ∀ b, b < 32 → f b < 256) : ∀ j, j < 17 → kLow f j < 65536 := by
  intro j hj
  unfold kLow
  by_cases e : j = 15
  · subst e; rw [upd_eq]; omega
  · rw [upd_ne _ _ e]
    unfold bld
    split
    · exact kDig_lt hf (by omega)
    · omega
theorem kLow_num {f : Nat → Nat} (hf : ∀ b, b < 32 → f b < 256) : dNum (kLow f) 17 = kVal f % two255 ∧ (32768 ≤ kDig f 15 ↔ two255 ≤ kVal f) := by
  have e1 := dNum_upd (bld (kDig f) 16) 15 (kDig f 15 % 32768) 17 (by omega)
  rw [bld_num _ _ _ (by omega), kDig_num] at e1
  have e2 : bld (kDig f) 16 15 = kDig f 15 := rfl
  rw [e2] at e1
  have e3 : kVal f = dNum (kDig f) 15 + kDig f 15 * 65536 ^ 15 := by rw [← kDig_num]; rfl
  have e4 := dNum_lt (f := kDig f) 15 (fun i hi => kDig_lt hf (by omega))
  have e5 := kDig_lt hf (i := 15) (by omega)
  rw [show dNum (kLow f) 17 = dNum (upd (bld (kDig f) 16) 15 (kDig f 15 % 32768)) 17 from rfl]
  generalize dNum (upd (bld (kDig f) 16) 15 (kDig f 15 % 32768)) 17 = L at *
  generalize kDig f 15 = a at *
  generalize dNum (kDig f) 15 = b at *
  rw [show two255 = 57896044618658097711785492504343953926634992332820282019728792003956564819968 from rfl] at *
  rw [show (65536 : Nat) ^ 15 = 1766847064778384329583297500742918515827483896875618958121606201292619776 from rfl] at *
  omega
theorem kLow_dg {f : Nat → Nat} (hf : ∀ b, b < 32 → f b < 256) : dArr (kLow f) = dArr (dg (kVal f % two255)) := by
  rw [← (kLow_num hf).1]
  exact dArr_congr fun i hi => (dg_dNum 17 (kLow_lt hf) i hi).symm
theorem dg_inj {x y : Nat} (hx : x < 65536 ^ 16) (hy : y < 65536 ^ 16) (h : ∀ i, i < 16 → dg x i = dg y i) : x = y := by
  rw [← dNum_dg_lt hx, ← dNum_dg_lt hy]; exact dNum_congr 16 h
/-- Whether it is whole. -/
theorem whole_iff {f : Nat → Nat} {high wh : Bool} (hh : high = decide (two255 ≤ kVal f)) (hw : wh = true ↔ high = false ∧ ∀ i, i < 16 → dg (kVal f % two255 % pr) i = dg (kVal f % two255) i) : wh = decide (kVal f < pr) := by
  have hp := two256
  have hpv : pr = 57896044618658097711785492504343953926634992332820282019728792003956564819949 := rfl
  have h255 : two255 = 57896044618658097711785492504343953926634992332820282019728792003956564819968 := rfl
  have hl : kVal f % two255 < two255 := Nat.mod_lt _ (by decide)
  have hl2 : kVal f % two255 % pr ≤ kVal f % two255 := Nat.mod_le _ _
  rw [Bool.eq_iff_iff, hw, hh, decide_eq_false_iff_not, decide_eq_true_iff]
  constructor
  · rintro ⟨h1, h2⟩
    have h3 := dg_inj (by omega) (by omega) h2
    have h4 : kVal f % two255 % pr < pr := Nat.mod_lt _ (by omega)
    rw [Nat.mod_eq_of_lt (show kVal f < two255 by omega)] at h3 h4
    omega
  · intro h1
    refine ⟨by omega, fun i hi => ?_⟩
    rw [Nat.mod_eq_of_lt (show kVal f < two255 by omega), Nat.mod_eq_of_lt h1]

set_option maxRecDepth 100000 in
set_option maxHeartbeats 8000000 in
theorem rof_any (f : Nat → Nat) (hf : ∀ b, b < 32 → f b < 256) (w : World) : Calls Tryd.prog 18 #[.agg (kArr f)] w fun r w' => r = .returned (.tuple #[numV (kVal f % two255 % pr), .bool (decide (kVal f < pr))]) ∧ Below w.heap.size w w' := by
  have HF := Lib.hid hf
  have HFE := Lib.hid (fun i => show kDig f i = f (2 * i) + 256 * f (2 * i + 1) from rfl)
  have HFL := Lib.hid (fun i (h : i < 16) => kDig_lt hf h)
  have HKL := Lib.hid (show kLow f = upd (bld (kDig f) 16) 15 (kDig f 15 % 32768) from rfl)
  have HKD := Lib.hid (kLow_dg hf)
  have HHI := Lib.hid (kLow_num hf).2
  have HWI := Lib.hid (fun high wh => whole_iff (f := f) (high := high) (wh := wh))
  clear hf
  generalize kVal f = K at *
  obtain ⟨X, hX⟩ : ∃ X, X = K % two255 := ⟨_, rfl⟩
  rw [← hX] at HKD HWI ⊢
  have HX16 := Lib.hid (show X < 65536 ^ 16 from by rw [hX]; exact Nat.lt_of_lt_of_le (Nat.mod_lt _ (by decide)) (by decide +kernel))
  clear hX
  obtain ⟨high, hhigh⟩ : ∃ b, b = decide (two255 ≤ K) := ⟨_, rfl⟩
  have HHG := Lib.hid hhigh
  clear hhigh
  unfold numV
  obtain ⟨B1, hB1⟩ : ∃ B, w.heap.size + 1 = B := ⟨_, rfl⟩
  obtain ⟨B2, hB2⟩ : ∃ B, B1 + 1 = B := ⟨_, rfl⟩
  have HS := Lib.hid (start_rk w (kArr f) (nArr (fun _ => 0)) (dArr (bld (kDig f) 0)) hB1 hB2 23 27 64)
  have HB1 := Lib.hid hB1; have HB2 := Lib.hid hB2
  clear hB1 hB2
  go_enter Tryd.func18, Tryd.ntmps18
  go_wp2
  try simp only [HB1.out, HB2.out]
  generalize kDig f = F at *
  go_loopw [5] (fun v5 wr => ∃ i, v5 = .int .i64 (i : Nat) ∧ i ≤ 16 ∧
    wr.heap[w.heap.size]? = some (.cells (kArr f) 23 (0, 0)) ∧ wr.heap[B1]? = some (.cells (nArr (fun _ => 0)) 27 (0, 0)) ∧ wr.heap[B2]? = some (.cells (dArr (bld F i)) 64 (0, 0)) ∧ Below w.heap.size w wr) (fun v5 _ => 16 - (intOf v5).toNat)
  case atStart => exact ⟨0, rfl, by omega, HS.out.1, HS.out.2.1, HS.out.2.2.1, HS.out.2.2.2⟩
  case round =>
    obtain ⟨i, hcnt, hi, h0, h1, h2, hb⟩ := hrel
    have H0 := Lib.hid h0; have H1 := Lib.hid h1; have H2 := Lib.hid h2; have HB := Lib.hid hb
    have h01 : w.heap.size < B1 := by have := HB1.out; omega
    have h12 : B1 < B2 := by have := HB2.out; omega
    by_cases hlt : i < 16
    · subst hcnt
      have x0 : wr.cell? ⟨w.heap.size, 2 * i, none⟩ = some (.int .u8 (f (2 * i) : Nat)) := cell_of_blk h0 (2 * i) (kArr_at _ (by omega))
      have x1 : wr.cell? ⟨w.heap.size, 2 * i + 1, none⟩ = some (.int .u8 (f (2 * i + 1) : Nat)) := cell_of_blk h0 (2 * i + 1) (kArr_at _ (by omega))
      have y0 : wr.cell? ⟨B2, i, none⟩ = some (.int .u64 (bld F i i : Nat)) := cell_of_blk h2 i (dArr_at _ (by omega))
      have yf := frozen_of_blk h2 i
      have la := HF.out (2 * i) (by omega)
      have lb := HF.out (2 * i + 1) (by omega)
      have HE := Lib.hid (HFE.out i)
      clear h0 h1 h2 hb
      generalize f (2 * i) = a at *
      generalize f (2 * i + 1) = b at *
      have bj0 : 0 ≤ (i : Int) := by omega
      have bj2 : (i : Int) < 17 := by omega
      have bk0 : 0 ≤ 2 * (i : Int) := by omega
      have bk1 : 2 * (i : Int) < 32 := by omega
      have bl0 : 0 ≤ 2 * (i : Int) + 1 := by omega
      have bl1 : 2 * (i : Int) + 1 < 32 := by omega
      have ti : (2 * (i : Int)).toNat = 2 * i := by omega
      have tj : (2 * (i : Int) + 1).toNat = 2 * i + 1 := by omega
      have wi : IntKind.i64.wrap (2 * (i : Int)) = 2 * (i : Int) := IntWalk.i64_in _ (by omega)
      have wj : IntKind.i64.wrap (2 * (i : Int) + 1) = 2 * (i : Int) + 1 := IntWalk.i64_in _ (by omega)
      have c0 : IntKind.u64.wrap (a : Int) = (a : Int) := by rw [IntKind.wrap_u64]; omega
      have c1 : IntKind.u64.wrap (b : Int) = (b : Int) := by rw [IntKind.wrap_u64]; omega
      have e0 : IntKind.u64.wrap (256 * (b : Int)) = 256 * (b : Int) := by rw [IntKind.wrap_u64]; omega
      have e1 : IntKind.u64.wrap ((a : Int) + 256 * (b : Int)) = (a : Int) + 256 * (b : Int) := by rw [IntKind.wrap_u64]; omega
      go_wp2
      go_region_law (fail)
      all_goals
        clear e0 e1 bj0 bj2 bk0 bk1 bl0 bl1 ti tj wi wj c0 c1
        go_wp2
        go_roundw
        case rel =>
          have HG := set_blk1 H2.out i (.int .u64 ((F i : Nat) : Int)) (dArr_set _ (by omega) _)
          rw [bld_upd, HE.out] at HG
          exact ⟨i + 1, by go_num, by omega, set_far H0.out _ _ (by omega), set_far H1.out _ _ (by omega), HG, HB.out.drew.setCell (by simp only []; omega) _⟩
        case measure => simp [intOf]; omega
    · obtain rfl : i = 16 := by omega
      have hcn : _ = Value.int .i64 16 := hcnt
      clear hcnt
      subst hcn
      have x15 : wr.cell? ⟨B2, 15, none⟩ = some (.int .u64 (F 15 : Nat)) := cell_of_blk h2 15 (dArr_at _ (by omega))
      have f15 := frozen_of_blk h2 15
      have l15 := HFL.out 15 (by omega)
      have G2 := Lib.hid (show (wr.setCell ⟨B2, 15, none⟩ (.int .u64 ((F 15 : Int) % 32768))).heap[B2]? = some (.cells (dArr (dg X)) 64 (0, 0)) from by
        rw [← HKD.out, HKL.out]; exact set_blk1 H2.out 15 (.int .u64 ((F 15 % 32768 : Nat) : Int)) (dArr_set _ (by omega) _))
      have G1 := Lib.hid (set_far (g' := B2) H1.out 15 (.int .u64 ((F 15 : Int) % 32768)) (by omega))
      have GB := Lib.hid (HB.out.setCell (p := ⟨B2, 15, none⟩) (by simp only []; omega) (.int .u64 ((F 15 : Int) % 32768)))
      have hd : decide ((32768 : Int) ≤ (F 15 : Int)) = high := by
        rw [HHG.out]
        have := HHI.out
        by_cases h : two255 ≤ K
        · rw [decide_eq_true h, decide_eq_true]; have := this.2 h; omega
        · rw [decide_eq_false h, decide_eq_false]; intro h2; exact h (this.1 (by omega))
      clear h0 h1 h2 hb
      generalize F 15 = a at *
      go_wp2_with (refine wpList_load_row rfl 64 (.tmp 4) rfl B2 rfl 64 (dArr (dg X)) (0, 0) _ G2.out Tryd.underlying64 rfl info64 ?_)
      refine (least_any (dg X) (fun j _ => Nat.lt_trans (dg_lt X j) (by omega)) _).mono ?_
      rintro e w2 ⟨rfl, hb2⟩
      rw [dNum_dg_lt (show X < 65536 ^ 17 from Nat.lt_of_lt_of_le HX16.out (by decide +kernel))]
      have K1 := Lib.hid ((hb2.block _ (heap_lt G1.out)).trans G1.out)
      have K2 := Lib.hid ((hb2.block _ (heap_lt G2.out)).trans G2.out)
      have KB := Lib.hid (GB.out.trans (hb2.mono GB.out.size))
      clear hb2
      obtain ⟨B3, hB3⟩ : ∃ B, w2.heap.size = B := ⟨_, rfl⟩
      have l1 := heap_lt K2.out
      have h23 : B2 < B3 := by omega
      have A3 := Lib.hid (show (w2.alloc (.cells (nArr (fun _ => 0)) 27)).heap[w2.heap.size]? = some (.cells (nArr (fun _ => 0)) 27 (0, 0)) from alloc_at rfl)
      have S1 := Lib.hid (setRow_far (show (w2.alloc (.cells (nArr (fun _ => 0)) 27)).heap[B1]? = some (.cells (nArr (fun _ => 0)) 27 (0, 0)) from by
        rw [Below.heap_alloc _ _ _ (heap_lt K1.out)]; exact K1.out) (show B1 ≠ B3 by omega) (nArr (dg (X % pr))))
      have S2 := Lib.hid (setRow_far (show (w2.alloc (.cells (nArr (fun _ => 0)) 27)).heap[B2]? = some (.cells (dArr (dg X)) 64 (0, 0)) from by
        rw [Below.heap_alloc _ _ _ (heap_lt K2.out)]; exact K2.out) (show B2 ≠ B3 by omega) (nArr (dg (X % pr))))
      have S3 := Lib.hid (heap_setRow (show (w2.alloc (.cells (nArr (fun _ => 0)) 27)).heap[B3]? = some (.cells (nArr (fun _ => 0)) 27 (0, 0)) from alloc_at hB3) (nArr (dg (X % pr))))
      have SB := Lib.hid (below_setRow (KB.out.alloc KB.out.size (.cells (nArr (fun _ => 0)) 27)) (show w.heap.size ≤ B3 by omega) (nArr (dg (X % pr))))
      have HB3 := Lib.hid hB3
      clear hB3 l1
      go_wp2_with (refine wpList_store_row rfl 27 (.tmp 7) (.tmp 38) rfl w2.heap.size (nArr (dg (X % pr))) rfl rfl 27 (nArr (fun _ => 0)) A3.out info27 rfl (nArr_one _) ?_)
      try simp only [HB3.out]
      obtain ⟨h', hh'⟩ : ∃ b, b = !high := ⟨_, rfl⟩
      have HHN := Lib.hid hh'
      try simp only [← hh']
      clear hh'
      go_loopw [8, 9] (fun v8 v9 wq => ∃ (i : Nat) (b : Bool), v9 = .int .i64 (i : Nat) ∧ v8 = .bool b ∧ i ≤ 16 ∧ (b = true ↔ high = false ∧ ∀ j, j < i → dg (X % pr) j = dg X j) ∧
        wq.heap[B1]? = some (.cells (nArr (fun _ => 0)) 27 (0, 0)) ∧ wq.heap[B2]? = some (.cells (dArr (dg X)) 64 (0, 0)) ∧ wq.heap[B3]? = some (.cells (nArr (dg (X % pr))) 27 (0, 0)) ∧ Below w.heap.size w wq) (fun v8 v9 _ => 16 - (intOf v9).toNat)
      case atStart => exact ⟨0, h', rfl, rfl, by omega, by rw [HHN.out]; simp, S1.out, S2.out, S3.out, SB.out⟩
      case round =>
        obtain ⟨i, b, hcnt, rfl, hi, hbi, h1, h2, h3, hb⟩ := hrel
        have T1 := Lib.hid h1; have T2 := Lib.hid h2; have T3 := Lib.hid h3; have TB := Lib.hid hb
        have HBI := Lib.hid hbi
        clear hbi
        by_cases hlt : i < 16
        · subst hcnt
          have x0 : wr.cell? ⟨B3, i, none⟩ = some (.int .u64 (dg (X % pr) i : Nat)) := cell_of_blk h3 i (nArr_at _ (by omega))
          have x1 : wr.cell? ⟨B2, i, none⟩ = some (.int .u64 (dg X i : Nat)) := cell_of_blk h2 i (dArr_at _ (by omega))
          have bj0 : 0 ≤ (i : Int) := by omega
          have bj1 : (i : Int) < 16 := by omega
          have bj2 : (i : Int) < 17 := by omega
          clear h1 h2 h3 hb
          by_cases he : dg (X % pr) i = dg X i
          · have HE := Lib.hid he
            rw [he] at x0
            clear he
            go_wp2
            go_quiet (fail)
            go_wp2
            go_roundw
            case rel =>
              refine ⟨i + 1, b, by go_num, rfl, by omega, ?_, T1.out, T2.out, T3.out, below_drewN TB.out _⟩
              rw [HBI.out]
              refine ⟨fun ⟨h1, h2⟩ => ⟨h1, fun j hj => ?_⟩, fun ⟨h1, h2⟩ => ⟨h1, fun j hj => h2 j (by omega)⟩⟩
              by_cases hji : j = i
              · subst hji; exact HE.out
              · exact h2 j (by omega)
            case measure => simp [intOf]; omega
          · have HE := Lib.hid he
            have n1 : ((dg (X % pr) i : Int) == (dg X i : Int)) = false := by simp; omega
            have n2 : ((dg (X % pr) i : Int) != (dg X i : Int)) = true := by simp; omega
            clear he
            generalize dg (X % pr) i = a1 at x0 n1 n2
            generalize dg X i = a2 at x1 n1 n2
            go_wp2
            go_quiet (fail)
            go_wp2
            go_roundw
            case rel =>
              refine ⟨i + 1, false, by go_num, rfl, by omega, ?_, T1.out, T2.out, T3.out, below_drewN TB.out _⟩
              refine ⟨fun h => by simp at h, fun ⟨h1, h2⟩ => absurd (h2 i (by omega)) HE.out⟩
            case measure => simp [intOf]; omega
        · obtain rfl : i = 16 := by omega
          have hcn : _ = Value.int .i64 16 := hcnt
          clear hcnt
          subst hcn
          have HW := Lib.hid (HWI.out high b HHG.out HBI.out)
          clear h1 h2 h3 hb
          go_wp2_with (first | (refine wpList_load_row rfl 27 (.tmp 7) rfl B3 rfl 27 (nArr (dg (X % pr))) (0, 0) _ T3.out Tryd.underlying27 rfl info27 ?_) | (refine wpList_store_row rfl 27 (.tmp 2) (.tmp 52) rfl B1 (nArr (dg (X % pr))) rfl rfl 27 (nArr (fun _ => 0)) T1.out info27 rfl (nArr_one _) ?_))
          try simp only [Exit.inBlock, Exit.then]
          refine bodyPost_ret (results_two rfl _ _ B1 27 (nArr (dg (X % pr))) (0, 0) _ rfl (heap_setRow T1.out _) Tryd.underlying27 rfl info27) rfl ?_
          exact ⟨by rw [← HW.out]; rfl, below_setRow TB.out (by omega) _⟩

end Go.Proofs.YtdmioipdmdmkhaaDoor
