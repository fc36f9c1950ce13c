/- prime and less of the reference's numbers. -/
import Derived.Test.YtdmioipdmdmkhaaDoorC0
import Derived.Test.YtdmioipdmdmkhaaDoorA11
import Derived.LoopN
import Derived.Handy
import Derived.Below
set_option linter.unusedVariables false
set_option linter.unusedSimpArgs false
namespace Go.Proofs.YtdmioipdmdmkhaaDoor
open Go.RowKit

theorem info64 : (Tryd.prog.info? 64).map (·.size) = some 17 := by kernel_rfl
theorem info27 : (Tryd.prog.info? 27).map (·.size) = some 16 := by kernel_rfl
theorem prime_any (i : Nat) (h : i < 17) (w : World) : Calls Tryd.prog 59 #[.int .i64 i] w fun r w' => r = .returned (.int .u64 (prm i : Nat)) ∧ w' = w := by
  by_cases h0 : i = 0
  · subst h0
    go_enter Tryd.func59, Tryd.ntmps59
    go_wp2
    go_ret
    exact ⟨rfl, rfl⟩
  by_cases h15 : i = 15
  · subst h15
    go_enter Tryd.func59, Tryd.ntmps59
    go_wp2
    go_ret
    exact ⟨rfl, rfl⟩
  by_cases h16 : i = 16
  · subst h16
    go_enter Tryd.func59, Tryd.ntmps59
    go_wp2
    go_ret
    exact ⟨rfl, rfl⟩
  have HE := Lib.hid (show prm i = 65535 from by unfold prm; rw [if_neg h0, if_neg h15, if_neg h16])
  have e0 : ((i : Int) == 0) = false := by simp; omega
  have e15 : ((i : Int) == 15) = false := by simp; omega
  have e16 : ((i : Int) == 16) = false := by simp; omega
  go_enter Tryd.func59, Tryd.ntmps59
  go_wp2
  go_ret
  exact ⟨by rw [HE.out]; rfl, rfl⟩

theorem start_less (w : World) (x z y : Array Value) {B1 B2 : Nat} (h1 : w.heap.size + 1 = B1) (h2 : B1 + 1 = B2) : (((w.alloc (.cells x 64)).alloc (.cells z 64)).alloc (.cells y 64)).heap[w.heap.size]? = some (.cells x 64 (0, 0)) ∧
    (((w.alloc (.cells x 64)).alloc (.cells z 64)).alloc (.cells y 64)).heap[B1]? = some (.cells z 64 (0, 0)) ∧ (((w.alloc (.cells x 64)).alloc (.cells z 64)).alloc (.cells y 64)).heap[B2]? = some (.cells y 64 (0, 0)) ∧
    Below w.heap.size w (((w.alloc (.cells x 64)).alloc (.cells z 64)).alloc (.cells y 64)) := by
  subst h1 h2
  refine ⟨?_, ?_, alloc_at (by simp), (((alloc_only w _).alloc (by simp) _).alloc (by simp; omega) _)⟩
  · rw [Below.heap_alloc _ _ _ (by simp; omega), Below.heap_alloc _ _ _ (by simp)]; exact alloc_at rfl
  · rw [Below.heap_alloc _ _ _ (by simp)]; exact alloc_at (by simp)

set_option maxRecDepth 100000 in
set_option maxHeartbeats 8000000 in
theorem less_any (x : Nat) (hx : x < 65536 ^ 16) (w : World) : Calls Tryd.prog 65 #[.agg (dArr (dg x))] w fun r w' => r = .returned (.agg (dArr (dg (lessN x)))) ∧ Below w.heap.size w w' := by
  have HX := Lib.hid hx
  clear hx
  obtain ⟨B1, hB1⟩ : ∃ B, w.heap.size + 1 = B := ⟨_, rfl⟩
  obtain ⟨B2, hB2⟩ : ∃ B, B1 + 1 = B := ⟨_, rfl⟩
  have HS := Lib.hid (start_less w (dArr (dg x)) (dArr (fun _ => 0)) (dArr (dg x)) hB1 hB2)
  have HB1 := Lib.hid hB1; have HB2 := Lib.hid hB2
  clear hB1 hB2
  have hh0 : ((w.alloc (.cells (dArr (dg x)) 64)).alloc (.cells (dArr (fun _ => 0)) 64)).heap[w.heap.size]? = some (.cells (dArr (dg x)) 64 (0, 0)) := by
    rw [Below.heap_alloc _ _ _ (by simp)]; exact alloc_at rfl
  have HH0 := Lib.hid hh0
  clear hh0
  go_enter Tryd.func65, Tryd.ntmps65
  go_wp2_with (refine wpList_load_row rfl 64 (.tmp 1) rfl w.heap.size rfl 64 (dArr (dg x)) (0, 0) _ HH0.out Tryd.underlying64 rfl info64 ?_)
  try simp only [HB1.out, HB2.out]
  go_loopw [4, 5, 6] (fun v4 v5 v6 wr => ∃ i b g, v4 = .int .u64 (b : Nat) ∧ v5 = .int .i64 (i : Nat) ∧ Les x g i b ∧
    wr.heap[w.heap.size]? = some (.cells (dArr (dg x)) 64 (0, 0)) ∧ wr.heap[B1]? = some (.cells (dArr (fun _ => 0)) 64 (0, 0)) ∧ wr.heap[B2]? = some (.cells (dArr g) 64 (0, 0)) ∧ Below w.heap.size w wr) (fun v4 v5 v6 _ => 17 - (intOf v5).toNat)
  case atStart => exact ⟨0, 0, dg x, rfl, rfl, Les.start x, HS.out.1, HS.out.2.1, HS.out.2.2.1, HS.out.2.2.2⟩
  case round =>
    obtain ⟨i, b, g, rfl, rfl, hL, h0, h1, h2, hb⟩ := hrel
    have HL := Lib.hid hL; have H0 := Lib.hid h0; have H1 := Lib.hid h1; have H2 := Lib.hid h2; have HB := Lib.hid hb
    have h01 : w.heap.size < B1 := by have := HB1.out; omega
    have h12 : B1 < B2 := by have := HB2.out; omega
    have hi := hL.ii
    have hbb := hL.bb
    by_cases hlt : i < 17
    · have x0 : wr.cell? ⟨w.heap.size, i, none⟩ = some (.int .u64 (dg x i : Nat)) := cell_of_blk h0 i (dArr_at _ hlt)
      have y0 : wr.cell? ⟨B2, i, none⟩ = some (.int .u64 (g i : Nat)) := cell_of_blk h2 i (dArr_at _ hlt)
      have yf := frozen_of_blk h2 i
      have HP := Lib.hid (fun w => prime_any i hlt w)
      have HN := Lib.hid (hL.step hlt)
      have la := dg_lt x i
      have lp := prm_lt i
      clear hL h0 h1 h2 hb
      generalize dg x i = a at *
      generalize prm i = p at *
      have e1 : IntKind.u64.wrap ((a : Int) + 65536) = (a : Int) + 65536 := by rw [IntKind.wrap_u64]; omega
      have e2 : IntKind.u64.wrap ((a : Int) + 65536 - (p : Int)) = (a : Int) + 65536 - (p : Int) := by rw [IntKind.wrap_u64]; omega
      have e3 : IntKind.u64.wrap ((a : Int) + 65536 - (p : Int) - (b : Int)) = (a : Int) + 65536 - (p : Int) - (b : Int) := by rw [IntKind.wrap_u64]; omega
      go_wp2
      go_quiet ((go_at_call 59; exact Calls.quiet_of_same (HP.out _)))
      clear e1 e2 e3
      obtain ⟨n, hn⟩ : ∃ n : Nat, n = a + 65536 - p - b := ⟨_, rfl⟩
      have e4 : (a : Int) + 65536 - (p : Int) - (b : Int) = (n : Int) := by omega
      have ln : n < 131072 := by omega
      rw [← hn] at HN
      simp only [e4]
      clear hn e4
      go_wp2
      go_roundw
      case rel =>
        have e5 : (1 : Int) - (n : Int) / 65536 = ((1 - n / 65536 : Nat) : Int) := by omega
        exact ⟨i + 1, 1 - n / 65536, _, by rw [e5], by go_num, HN.out, set_far H0.out _ _ (by omega), set_far H1.out _ _ (by omega), set_blk1 H2.out i _ (dArr_set g hlt (n % 65536)), (below_drewN HB.out _).setCell (by simp only []; omega) _⟩
      case measure => simp [intOf]; omega
    · obtain rfl : i = 17 := by omega
      obtain ⟨D1, D0⟩ := hL.done HX.out
      have hb' : b = 1 ∨ b = 0 := by omega
      clear hL h0 h1 h2 hb
      rcases hb' with rfl | rfl
      · have HD := Lib.hid (D1 rfl)
        clear D1 D0
        go_wp2_with (first | (refine wpList_load_row rfl 64 (.tmp 1) rfl w.heap.size rfl 64 (dArr (dg x)) (0, 0) _ H0.out Tryd.underlying64 rfl info64 ?_) | (refine wpList_store_row rfl 64 (.tmp 2) (.tmp 30) rfl B1 (dArr (dg x)) rfl rfl 64 (dArr (fun _ => 0)) H1.out info64 rfl (dArr_one _) ?_))
        try simp only [Exit.inBlock, Exit.then]
        refine bodyPost_ret (results_cell_row rfl _ _ B1 64 (dArr (dg x)) (0, 0) _ rfl (heap_setRow H1.out _) Tryd.underlying64 rfl info64) rfl ?_
        exact ⟨by rw [HD.out], below_setRow HB.out (by omega) _⟩
      · have HD := Lib.hid (D0 rfl)
        clear D1 D0
        go_wp2_with (first | (refine wpList_load_row rfl 64 (.tmp 3) rfl B2 rfl 64 (dArr g) (0, 0) _ H2.out Tryd.underlying64 rfl info64 ?_) | (refine wpList_store_row rfl 64 (.tmp 2) (.tmp 31) rfl B1 (dArr g) rfl rfl 64 (dArr (fun _ => 0)) H1.out info64 rfl (dArr_one _) ?_))
        try simp only [Exit.inBlock, Exit.then]
        refine bodyPost_ret (results_cell_row rfl _ _ B1 64 (dArr g) (0, 0) _ rfl (heap_setRow H1.out _) Tryd.underlying64 rfl info64) rfl ?_
        exact ⟨by rw [HD.out], below_setRow HB.out (by omega) _⟩

end Go.Proofs.YtdmioipdmdmkhaaDoor
