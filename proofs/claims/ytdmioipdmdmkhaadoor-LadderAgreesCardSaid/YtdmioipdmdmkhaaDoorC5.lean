/- Small and Key of the reference's numbers. -/
import Derived.Test.YtdmioipdmdmkhaaDoorC3
import Derived.Test.YtdmioipdmdmkhaaDoorA17
set_option linter.unusedVariables false
set_option linter.unusedSimpArgs false
namespace Go.Proofs.YtdmioipdmdmkhaaDoor
open Go.RowKit

def sArr (n : Nat) : Array Value := #[.int .u64 ((n : Int) % 65536), .int .u64 ((n : Int) / 65536 % 65536), .int .u64 ((n : Int) / 4294967296 % 65536), .int .u64 ((n : Int) / 281474976710656), .int .u64 0, .int .u64 0, .int .u64 0, .int .u64 0, .int .u64 0, .int .u64 0, .int .u64 0, .int .u64 0, .int .u64 0, .int .u64 0, .int .u64 0, .int .u64 0]
theorem dg_zero {n : Nat} (hn : n < 18446744073709551616) (i : Nat) (hi : 4 ≤ i) : dg n i = 0 := by
  obtain ⟨d, rfl⟩ : ∃ d, i = 4 + d := ⟨i - 4, by omega⟩
  unfold dg
  rw [Nat.pow_add, ← Nat.div_div_eq_div_mul, Nat.div_eq_of_lt (show n < 65536 ^ 4 from hn), Nat.zero_div, Nat.zero_mod]
theorem sArr_eq {n : Nat} (hn : n < 18446744073709551616) : sArr n = nArr (dg n) := by
  have h0 : ((n : Int) % 65536) = ((dg n 0 : Nat) : Int) := by unfold dg; omega
  have h1 : ((n : Int) / 65536 % 65536) = ((dg n 1 : Nat) : Int) := by unfold dg; omega
  have h2 : ((n : Int) / 4294967296 % 65536) = ((dg n 2 : Nat) : Int) := by unfold dg; omega
  have h3 : ((n : Int) / 281474976710656) = ((dg n 3 : Nat) : Int) := by unfold dg; omega
  unfold sArr nArr
  rw [h0, h1, h2, h3, dg_zero hn 4 (by omega), dg_zero hn 5 (by omega), dg_zero hn 6 (by omega), dg_zero hn 7 (by omega), dg_zero hn 8 (by omega), dg_zero hn 9 (by omega), dg_zero hn 10 (by omega), dg_zero hn 11 (by omega), dg_zero hn 12 (by omega), dg_zero hn 13 (by omega), dg_zero hn 14 (by omega), dg_zero hn 15 (by omega)]
  rfl
theorem sArr_one (n : Nat) : (sArr n).all (·.oneCell') = true := by kernel_rfl

set_option maxRecDepth 100000 in
set_option maxHeartbeats 8000000 in
theorem rsmall_any (n : Nat) (hn : n < 18446744073709551616) (w : World) : Calls Tryd.prog 31 #[.int .u64 n] w fun r w' => r = .returned (numV n) ∧ Below w.heap.size w w' := by
  have HE := Lib.hid (sArr_eq hn)
  have H0 := Lib.hid (show (w.alloc (.cells (nArr (fun _ => 0)) 27)).heap[w.heap.size]? = some (.cells (nArr (fun _ => 0)) 27 (0, 0)) from alloc_at rfl)
  have HB := Lib.hid (alloc_only w (.cells (nArr (fun _ => 0)) 27))
  go_enter Tryd.func31, Tryd.ntmps31
  go_wp2_with (refine wpList_store_row rfl 27 (.tmp 2) (.tmp 13) rfl w.heap.size (sArr n) rfl rfl 27 (nArr (fun _ => 0)) H0.out info27 rfl (sArr_one _) ?_)
  try simp only [Exit.inBlock, Exit.then]
  refine bodyPost_ret (results_cell_row rfl _ _ w.heap.size 27 (sArr n) (0, 0) _ rfl (heap_setRow H0.out _) Tryd.underlying27 rfl info27) rfl ?_
  exact ⟨by rw [HE.out]; rfl, below_setRow HB.out (Nat.le_refl _) _⟩

theorem start_rk (w : World) (x z d : Array Value) {B1 B2 : Nat} (h1 : w.heap.size + 1 = B1) (h2 : B1 + 1 = B2) (t t' t'' : TypeId) :
    (((w.alloc (.cells x t)).alloc (.cells z t')).alloc (.cells d t'')).heap[w.heap.size]? = some (.cells x t (0, 0)) ∧
    (((w.alloc (.cells x t)).alloc (.cells z t')).alloc (.cells d t'')).heap[B1]? = some (.cells z t' (0, 0)) ∧
    (((w.alloc (.cells x t)).alloc (.cells z t')).alloc (.cells d t'')).heap[B2]? = some (.cells d t'' (0, 0)) ∧
    Below w.heap.size w (((w.alloc (.cells x t)).alloc (.cells z t')).alloc (.cells d t'')) := by
  subst h1 h2
  refine ⟨?_, ?_, alloc_at (by simp), (((alloc_only w _).alloc (by simp) _).alloc (by simp; omega) _)⟩
  · rw [Below.heap_alloc _ _ _ (by simp; omega), Below.heap_alloc _ _ _ (by simp)]; exact alloc_at rfl
  · rw [Below.heap_alloc _ _ _ (by simp)]; exact alloc_at (by simp)
theorem zArr_one : zArr.all (·.oneCell') = true := by kernel_rfl
def keyPart (x i : Nat) : Array Value := kArr (mix 0 x (2 * i))
theorem keyPart_zero (x : Nat) : keyPart x 0 = kArr (fun _ => 0) := kArr_congr fun b _ => by rw [mix_ge (by omega)]; unfold byteOf; rw [Nat.zero_div, Nat.zero_mod]
theorem keyPart_end (x : Nat) : keyPart x 16 = kArr (byteOf x) := kArr_congr fun b hb => mix_lt hb
theorem keyPart_at (x i : Nat) {j : Nat} (h : j < 32) : (keyPart x i)[j]? = some (.int .u8 (mix 0 x (2 * i) j : Nat)) := kArr_at _ h
theorem keyPart_step (x i : Nat) (h : i < 16) : ((keyPart x i).setIfInBounds (2 * i) (.int .u8 (dg x i % 256 : Nat))).setIfInBounds (2 * i + 1) (.int .u8 (dg x i / 256 : Nat)) = keyPart x (i + 1) := by
  unfold keyPart
  rw [kArr_set (by omega) (byte_even x i).symm, kArr_set (by omega) (byte_odd x i).symm]
  exact congrArg (fun n => kArr (mix 0 x n)) (by omega)

set_option maxRecDepth 100000 in
set_option maxHeartbeats 8000000 in
theorem rkey_any (x : Nat) (w : World) : Calls Tryd.prog 23 #[numV x] w fun r w' => r = .returned (.agg (kArr (byteOf x))) ∧ Below w.heap.size w w' := by
  unfold numV
  have HM0 := Lib.hid (keyPart_zero x)
  have HM1 := Lib.hid (keyPart_end x)
  obtain ⟨B1, hB1⟩ : ∃ B, w.heap.size + 1 = B := ⟨_, rfl⟩
  obtain ⟨B2, hB2⟩ : ∃ B, B1 + 1 = B := ⟨_, rfl⟩
  have HS := Lib.hid (start_rk w (nArr (dg x)) zArr zArr hB1 hB2 27 23 23)
  have h01' : w.heap.size < B1 := by omega
  have h12' : B1 < B2 := by omega
  have HZ := Lib.hid (show zArr = kArr (fun _ => 0) from rfl)
  have HB1 := Lib.hid hB1; have HB2 := Lib.hid hB2
  have G2 := Lib.hid (show (((w.alloc (.cells (nArr (dg x)) 27)).alloc (.cells zArr 23)).alloc (.cells zArr 23)).heap[w.heap.size + 1 + 1]? = some (.cells zArr 23 (0, 0)) from by rw [hB1, hB2]; exact HS.out.2.2.1)
  have S0 := Lib.hid (setRow_far HS.out.1 (show w.heap.size ≠ B2 by omega) zArr)
  have S1 := Lib.hid (setRow_far HS.out.2.1 (show B1 ≠ B2 by omega) zArr)
  have S2 := Lib.hid (heap_setRow HS.out.2.2.1 zArr)
  have SB := Lib.hid (below_setRow HS.out.2.2.2 (show w.heap.size ≤ B2 by omega) zArr)
  rw [HZ.out] at S1 S2
  rw [← HM0.out] at S2
  clear hB1 hB2
  go_enter Tryd.func23, Tryd.ntmps23
  go_wp2_with (refine wpList_store_row rfl 23 (.tmp 3) (.tmp 5) rfl (w.heap.size + 1 + 1) zArr rfl rfl 23 zArr G2.out info23 rfl zArr_one ?_)
  try simp only [HB1.out, HB2.out]
  go_loopw [4] (fun v4 wr => ∃ i, v4 = .int .i64 (i : Nat) ∧ i ≤ 16 ∧
    wr.heap[w.heap.size]? = some (.cells (nArr (dg x)) 27 (0, 0)) ∧ wr.heap[B1]? = some (.cells (kArr (fun _ => 0)) 23 (0, 0)) ∧ wr.heap[B2]? = some (.cells (keyPart x i) 23 (0, 0)) ∧ Below w.heap.size w wr) (fun v4 _ => 16 - (intOf v4).toNat)
  case atStart => exact ⟨0, rfl, by omega, S0.out, S1.out, S2.out, SB.out⟩
  case round =>
    obtain ⟨i, hcnt, hi, h0, h1, h2, hb⟩ := hrel
    have H0 := Lib.hid h0; have H1 := Lib.hid h1; have H2 := Lib.hid h2; have HB := Lib.hid hb
    have h01 : w.heap.size < B1 := by have := HB1.out; omega
    have h12 : B1 < B2 := by have := HB2.out; omega
    by_cases hlt : i < 16
    · subst hcnt
      have x0 : wr.cell? ⟨w.heap.size, i, none⟩ = some (.int .u64 (dg x i : Nat)) := cell_of_blk h0 i (nArr_at _ (by omega))
      have y0 : wr.cell? ⟨B2, 2 * i, none⟩ = some (.int .u8 (mix 0 x (2 * i) (2 * i) : Nat)) := cell_of_blk h2 (2 * i) (keyPart_at _ _ (by omega))
      have y1 : wr.cell? ⟨B2, 2 * i + 1, none⟩ = some (.int .u8 (mix 0 x (2 * i) (2 * i + 1) : Nat)) := cell_of_blk h2 (2 * i + 1) (keyPart_at _ _ (by omega))
      have f0 := frozen_of_blk h2 (2 * i)
      have f1 := frozen_of_blk h2 (2 * i + 1)
      have la := dg_lt x i
      have HK := Lib.hid (keyPart_step x i hlt)
      generalize mix 0 x (2 * i) (2 * i) = u0 at *
      generalize mix 0 x (2 * i) (2 * i + 1) = u1 at *
      clear h0 h1 h2 hb
      generalize dg x i = a at *
      have ti : (2 * (i : Int)).toNat = 2 * i := by omega
      have ti1 : (2 * (i : Int) + 1).toNat = 2 * i + 1 := by omega
      go_wp2
      go_roundw
      case rel =>
        refine ⟨i + 1, by go_num, by omega, set_far (set_far H0.out _ _ (by omega)) _ _ (by omega), set_far (set_far H1.out _ _ (by omega)) _ _ (by omega), ?_, (HB.out.setCell (by simp only []; omega) _).setCell (by simp only []; omega) _⟩
        rw [← HK.out]
        exact heap_set (heap_set H2.out _ _) _ _
      case measure => simp [intOf]; omega
    · obtain rfl : i = 16 := by omega
      have hcn : _ = Value.int .i64 16 := hcnt
      clear hcnt
      subst hcn
      rw [HM1.out] at H2
      clear h0 h1 h2 hb
      go_wp2_with (first | (refine wpList_load_row rfl 23 (.tmp 3) rfl B2 rfl 23 (kArr (byteOf x)) (0, 0) _ H2.out Tryd.underlying23 rfl info23 ?_) | (refine wpList_store_row rfl 23 (.tmp 2) (.tmp 27) rfl B1 (kArr (byteOf x)) rfl rfl 23 (kArr (fun _ => 0)) H1.out info23 rfl (kArr_one _) ?_))
      try simp only [Exit.inBlock, Exit.then]
      refine bodyPost_ret (results_cell_row rfl _ _ B1 23 (kArr (byteOf x)) (0, 0) _ rfl (heap_setRow H1.out _) Tryd.underlying23 rfl info23) rfl ?_
      exact ⟨rfl, below_setRow HB.out (by omega) _⟩

end Go.Proofs.YtdmioipdmdmkhaaDoor
