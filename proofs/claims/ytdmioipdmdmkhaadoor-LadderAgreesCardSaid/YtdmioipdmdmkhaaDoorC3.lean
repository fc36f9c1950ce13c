/- Add and Sub of the reference's numbers. -/
import Derived.Test.YtdmioipdmdmkhaaDoorC2
set_option linter.unusedVariables false
set_option linter.unusedSimpArgs false
namespace Go.Proofs.YtdmioipdmdmkhaaDoor
open Go.RowKit

/-- The reference's number x. -/
def numV (x : Nat) : Value := .agg (nArr (dg x))
theorem start_ref (w : World) (x y z d : Array Value) {B1 B2 B3 : Nat} (h1 : w.heap.size + 1 = B1) (h2 : B1 + 1 = B2) (h3 : B2 + 1 = B3) (t : TypeId) :
    ((((w.alloc (.cells x 27)).alloc (.cells y 27)).alloc (.cells z 27)).alloc (.cells d t)).heap[w.heap.size]? = some (.cells x 27 (0, 0)) ∧
    ((((w.alloc (.cells x 27)).alloc (.cells y 27)).alloc (.cells z 27)).alloc (.cells d t)).heap[B1]? = some (.cells y 27 (0, 0)) ∧
    ((((w.alloc (.cells x 27)).alloc (.cells y 27)).alloc (.cells z 27)).alloc (.cells d t)).heap[B2]? = some (.cells z 27 (0, 0)) ∧
    ((((w.alloc (.cells x 27)).alloc (.cells y 27)).alloc (.cells z 27)).alloc (.cells d t)).heap[B3]? = some (.cells d t (0, 0)) ∧
    Below w.heap.size w ((((w.alloc (.cells x 27)).alloc (.cells y 27)).alloc (.cells z 27)).alloc (.cells d t)) := by
  subst h1 h2 h3
  refine ⟨?_, ?_, ?_, alloc_at (by simp), ((((alloc_only w _).alloc (by simp) _).alloc (by simp; omega) _).alloc (by simp; omega) _)⟩
  · rw [Below.heap_alloc _ _ _ (by simp; omega), Below.heap_alloc _ _ _ (by simp; omega), Below.heap_alloc _ _ _ (by simp)]; exact alloc_at rfl
  · rw [Below.heap_alloc _ _ _ (by simp), Below.heap_alloc _ _ _ (by simp)]; exact alloc_at (by simp)
  · rw [Below.heap_alloc _ _ _ (by simp)]; exact alloc_at (by simp)
theorem add_num (x y : Nat) (hx : x < 65536 ^ 16) (hy : y < 65536 ^ 16) : dNum (bld (fun i => dg x i + dg y i) 16) 17 = x + y := by
  rw [bld_num _ _ _ (by omega), dNum_add, dNum_dg_lt hx, dNum_dg_lt hy]
theorem p_lt : pr < 65536 ^ 16 := by have := two256; omega

set_option maxRecDepth 100000 in
set_option maxHeartbeats 8000000 in
theorem radd_any (x y : Nat) (hx : x < pr) (hy : y < pr) (w : World) : Calls Tryd.prog 34 #[numV x, numV y] w fun r w' => r = .returned (numV ((x + y) % pr)) ∧ Below w.heap.size w w' := by
  have HX := Lib.hid (add_num x y (Nat.lt_trans hx p_lt) (Nat.lt_trans hy p_lt))
  clear hx hy
  unfold numV
  have HFE := Lib.hid (fun i => show (fun i => dg x i + dg y i) i = dg x i + dg y i from rfl)
  have HBD := Lib.hid (show ∀ j, j < 17 → bld (fun i => dg x i + dg y i) 16 j < 70368744177664 from fun j _ => by
    have := dg_lt x j; have := dg_lt y j; unfold bld; dsimp only; split <;> omega)
  generalize (fun i => dg x i + dg y i) = F at *
  obtain ⟨B1, hB1⟩ : ∃ B, w.heap.size + 1 = B := ⟨_, rfl⟩
  obtain ⟨B2, hB2⟩ : ∃ B, B1 + 1 = B := ⟨_, rfl⟩
  obtain ⟨B3, hB3⟩ : ∃ B, B2 + 1 = B := ⟨_, rfl⟩
  have HS := Lib.hid (start_ref w (nArr (dg x)) (nArr (dg y)) (nArr (fun _ => 0)) (dArr (bld F 0)) hB1 hB2 hB3 64)
  have HB1 := Lib.hid hB1; have HB2 := Lib.hid hB2; have HB3 := Lib.hid hB3
  clear hB1 hB2 hB3
  go_enter Tryd.func34, Tryd.ntmps34
  go_wp2
  try simp only [HB1.out, HB2.out, HB3.out]
  go_loopw [6] (fun v6 wr => ∃ i, v6 = .int .i64 (i : Nat) ∧ i ≤ 16 ∧
    wr.heap[w.heap.size]? = some (.cells (nArr (dg x)) 27 (0, 0)) ∧ wr.heap[B1]? = some (.cells (nArr (dg y)) 27 (0, 0)) ∧ wr.heap[B2]? = some (.cells (nArr (fun _ => 0)) 27 (0, 0)) ∧ wr.heap[B3]? = some (.cells (dArr (bld F i)) 64 (0, 0)) ∧ Below w.heap.size w wr) (fun v6 _ => 16 - (intOf v6).toNat)
  case atStart => exact ⟨0, rfl, by omega, HS.out.1, HS.out.2.1, HS.out.2.2.1, HS.out.2.2.2.1, HS.out.2.2.2.2⟩
  case round =>
    obtain ⟨i, hcnt, hi, h0, h1, h2, h3, hb⟩ := hrel
    have H0 := Lib.hid h0; have H1 := Lib.hid h1; have H2 := Lib.hid h2; have H3 := Lib.hid h3; have HB := Lib.hid hb
    have h01 : w.heap.size < B1 := by have := HB1.out; omega
    have h12 : B1 < B2 := by have := HB2.out; omega
    have h23 : B2 < B3 := by have := HB3.out; omega
    by_cases hlt : i < 16
    · subst hcnt
      have x0 : wr.cell? ⟨w.heap.size, i, none⟩ = some (.int .u64 (dg x i : Nat)) := cell_of_blk h0 i (nArr_at _ (by omega))
      have x1 : wr.cell? ⟨B1, i, none⟩ = some (.int .u64 (dg y i : Nat)) := cell_of_blk h1 i (nArr_at _ (by omega))
      have y0 : wr.cell? ⟨B3, i, none⟩ = some (.int .u64 (bld F i i : Nat)) := cell_of_blk h3 i (dArr_at _ (by omega))
      have yf := frozen_of_blk h3 i
      have la := dg_lt x i
      have lb := dg_lt y i
      have HF := Lib.hid (HFE.out i)
      clear h0 h1 h2 h3 hb
      generalize dg x i = a at *
      generalize dg y i = b at *
      have bj0 : 0 ≤ (i : Int) := by omega
      have bj1 : (i : Int) < 16 := by omega
      have bj2 : (i : Int) < 17 := by omega
      have e1 : IntKind.u64.wrap ((a : Int) + (b : Int)) = (a : Int) + (b : Int) := by rw [IntKind.wrap_u64]; omega
      go_wp2
      go_region_law (fail)
      all_goals
        clear e1 bj0 bj1 bj2
        go_wp2
        go_roundw
        case rel =>
          have HG := set_blk1 H3.out i (.int .u64 ((F i : Nat) : Int)) (dArr_set _ (by omega) _)
          rw [bld_upd, HF.out] at HG
          exact ⟨i + 1, by go_num, by omega, set_far H0.out _ _ (by omega), set_far H1.out _ _ (by omega), set_far H2.out _ _ (by omega), HG, HB.out.drew.setCell (by simp only []; omega) _⟩
        case measure => simp [intOf]; omega
    · obtain rfl : i = 16 := by omega
      have hcn : _ = Value.int .i64 16 := hcnt
      clear hcnt
      subst hcn
      clear h0 h1 h2 h3 hb
      go_wp2_with (refine wpList_load_row rfl 64 (.tmp 5) rfl B3 rfl 64 (dArr (bld F 16)) (0, 0) _ H3.out Tryd.underlying64 rfl info64 ?_)
      refine (least_any _ HBD.out _).mono ?_
      rintro e w2 ⟨rfl, hb2⟩
      rw [HX.out]
      have K2 := Lib.hid ((hb2.block _ (heap_lt H2.out)).trans H2.out)
      have KB := Lib.hid (HB.out.trans (hb2.mono HB.out.size))
      clear hb2
      go_wp2_with (refine wpList_store_row rfl 27 (.tmp 4) (.tmp 22) rfl B2 (nArr (dg ((x + y) % pr))) rfl rfl 27 (nArr (fun _ => 0)) K2.out info27 rfl (nArr_one _) ?_)
      try simp only [Exit.inBlock, Exit.then]
      refine bodyPost_ret (results_cell_row rfl _ _ B2 27 (nArr (dg ((x + y) % pr))) (0, 0) _ rfl (heap_setRow K2.out _) Tryd.underlying27 rfl info27) rfl ?_
      exact ⟨rfl, below_setRow KB.out (by omega) _⟩

/-- The borrow's slot: m - 1. -/
def brw (m : Nat) : Int := IntKind.u64.wrap ((m : Int) - 1)
theorem brw_val {m : Nat} (h : m ≤ 2) : brw m = if m = 0 then 18446744073709551615 else (m : Int) - 1 := by
  unfold brw
  rw [IntKind.wrap_u64]
  split <;> omega
set_option maxRecDepth 100000 in
set_option maxHeartbeats 8000000 in
theorem rsub_any (x y : Nat) (hx : x < pr) (hy : y < pr) (w : World) : Calls Tryd.prog 36 #[numV x, numV y] w fun r w' => r = .returned (numV (subP x y)) ∧ Below w.heap.size w w' := by
  have HX := Lib.hid (fun (g : Nat → Nat) (m : Nat) (h : Sbs x y g 16 m) => h.done hx hy)
  have HS0 := Lib.hid (Sbs.start x y)
  clear hx hy
  unfold numV
  obtain ⟨B1, hB1⟩ : ∃ B, w.heap.size + 1 = B := ⟨_, rfl⟩
  obtain ⟨B2, hB2⟩ : ∃ B, B1 + 1 = B := ⟨_, rfl⟩
  obtain ⟨B3, hB3⟩ : ∃ B, B2 + 1 = B := ⟨_, rfl⟩
  have HS := Lib.hid (start_ref w (nArr (dg x)) (nArr (dg y)) (nArr (fun _ => 0)) (dArr (fun _ => 0)) hB1 hB2 hB3 64)
  have HB1 := Lib.hid hB1; have HB2 := Lib.hid hB2; have HB3 := Lib.hid hB3
  clear hB1 hB2 hB3
  go_enter Tryd.func36, Tryd.ntmps36
  go_wp2
  try simp only [HB1.out, HB2.out, HB3.out]
  go_loopw [6, 7, 8] (fun v6 v7 v8 wr => ∃ i m g, v6 = .int .u64 (brw m) ∧ v7 = .int .i64 (i : Nat) ∧ Sbs x y g i m ∧
    wr.heap[w.heap.size]? = some (.cells (nArr (dg x)) 27 (0, 0)) ∧ wr.heap[B1]? = some (.cells (nArr (dg y)) 27 (0, 0)) ∧ wr.heap[B2]? = some (.cells (nArr (fun _ => 0)) 27 (0, 0)) ∧ wr.heap[B3]? = some (.cells (dArr g) 64 (0, 0)) ∧ Below w.heap.size w wr) (fun v6 v7 v8 _ => 16 - (intOf v7).toNat)
  case atStart => exact ⟨0, 1, _, rfl, rfl, HS0.out, HS.out.1, HS.out.2.1, HS.out.2.2.1, HS.out.2.2.2.1, HS.out.2.2.2.2⟩
  case round =>
    obtain ⟨i, m, g, hbr, hcnt, hS, h0, h1, h2, h3, hb⟩ := hrel
    have H0 := Lib.hid h0; have H1 := Lib.hid h1; have H2 := Lib.hid h2; have H3 := Lib.hid h3; have HB := Lib.hid hb
    have h01 : w.heap.size < B1 := by have := HB1.out; omega
    have h12 : B1 < B2 := by have := HB2.out; omega
    have h23 : B2 < B3 := by have := HB3.out; omega
    have hi := hS.ii
    have hm := hS.mm
    by_cases hlt : i < 16
    · subst hcnt
      have x0 : wr.cell? ⟨w.heap.size, i, none⟩ = some (.int .u64 (dg x i : Nat)) := cell_of_blk h0 i (nArr_at _ (by omega))
      have x1 : wr.cell? ⟨B1, i, none⟩ = some (.int .u64 (dg y i : Nat)) := cell_of_blk h1 i (nArr_at _ (by omega))
      have y0 : wr.cell? ⟨B3, i, none⟩ = some (.int .u64 (g i : Nat)) := cell_of_blk h3 i (dArr_at _ (by omega))
      have yf := frozen_of_blk h3 i
      have HP := Lib.hid (fun w => prime_any i (by omega) w)
      have HN := Lib.hid (hS.step hlt)
      have la := dg_lt x i
      have lb := dg_lt y i
      have lp := prm_lt i
      have hbv := brw_val hm
      generalize brw m = v at *
      subst hbr
      clear hS h0 h1 h2 h3 hb
      generalize dg x i = a at *
      generalize dg y i = b at *
      generalize prm i = p at *
      have bj0 : 0 ≤ (i : Int) := by omega
      have bj1 : (i : Int) < 16 := by omega
      obtain ⟨n, hn⟩ : ∃ n : Nat, n = a + p + 131073 - b - m := ⟨_, rfl⟩
      have e1 : IntKind.u64.wrap ((a : Int) + (p : Int)) = (a : Int) + (p : Int) := by rw [IntKind.wrap_u64]; omega
      have e2 : IntKind.u64.wrap ((a : Int) + (p : Int) + 131072) = (a : Int) + (p : Int) + 131072 := by rw [IntKind.wrap_u64]; omega
      have e3 : IntKind.u64.wrap ((a : Int) + (p : Int) + 131072 - (b : Int)) = (a : Int) + (p : Int) + 131072 - (b : Int) := by rw [IntKind.wrap_u64]; omega
      have e4 : IntKind.u64.wrap ((a : Int) + (p : Int) + 131072 - (b : Int) - v) = (n : Int) := by
        rw [IntKind.wrap_u64, hbv]
        split <;> omega
      have ln : 65536 ≤ n ∧ n < 262144 := by omega
      rw [← hn] at HN
      have e5 : IntKind.u64.wrap (2 - (n : Int) / 65536) = brw (3 - n / 65536) := by
        unfold brw
        congr 1
        omega
      have HE5 := Lib.hid e5
      clear hn hbv e5
      go_wp2
      go_quiet ((go_at_call 59; exact Calls.quiet_of_same (HP.out _)))
      clear e1 e2 e3 e4
      go_wp2
      go_roundw
      case rel =>
        exact ⟨i + 1, 3 - n / 65536, _, by rw [← HE5.out], by go_num, HN.out, set_far H0.out _ _ (by omega), set_far H1.out _ _ (by omega), set_far H2.out _ _ (by omega), set_blk1 H3.out i _ (dArr_set g (by omega) (n % 65536)), (below_drewN HB.out _).setCell (by simp only []; omega) _⟩
      case measure => simp [intOf]; omega
    · obtain rfl : i = 16 := by omega
      have hcn : _ = Value.int .i64 16 := hcnt
      clear hcnt
      subst hcn
      subst hbr
      have HN := Lib.hid (HX.out g m hS)
      have HBD := Lib.hid (show ∀ j, j < 17 → g j < 70368744177664 from fun j hj => Nat.lt_trans (hS.lo j hj) (by omega))
      have HZ := Lib.hid (show (x + (pr - y)) % pr = subP x y from rfl)
      clear hS h0 h1 h2 h3 hb
      go_wp2_with (refine wpList_load_row rfl 64 (.tmp 5) rfl B3 rfl 64 (dArr g) (0, 0) _ H3.out Tryd.underlying64 rfl info64 ?_)
      refine (least_any _ HBD.out _).mono ?_
      rintro e w2 ⟨rfl, hb2⟩
      rw [HN.out, HZ.out]
      have K2 := Lib.hid ((hb2.block _ (heap_lt H2.out)).trans H2.out)
      have KB := Lib.hid (HB.out.trans (hb2.mono HB.out.size))
      clear hb2
      go_wp2_with (refine wpList_store_row rfl 27 (.tmp 4) (.tmp 35) rfl B2 (nArr (dg (subP x y))) rfl rfl 27 (nArr (fun _ => 0)) K2.out info27 rfl (nArr_one _) ?_)
      try simp only [Exit.inBlock, Exit.then]
      refine bodyPost_ret (results_cell_row rfl _ _ B2 27 (nArr (dg (subP x y))) (0, 0) _ rfl (heap_setRow K2.out _) Tryd.underlying27 rfl info27) rfl ?_
      exact ⟨rfl, below_setRow KB.out (by omega) _⟩

end Go.Proofs.YtdmioipdmdmkhaaDoor
