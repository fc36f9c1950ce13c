/- of of the law's package: a key's number. -/
import Derived.Test.YtdmioipdmdmkhaaDoorA13
import Derived.Test.YtdmioipdmdmkhaaDoorA14
import Derived.Test.YtdmioipdmdmkhaaDoorA8
set_option linter.unusedVariables false
set_option linter.unusedSimpArgs false
namespace Go.Proofs.YtdmioipdmdmkhaaDoor
open Go.RowKit

theorem fof_any (f : Nat → Nat) (hf : ∀ b, b < 32 → f b < 256) : Det 26 #[.agg (kArr f)] (.tuple #[(ofL f).v, .bool (decide (kVal f < pr))]) := by
  intro w
  by_cases h : f 31 < 128
  · exact fof_lo f hf h w
  · exact fof_hi f hf (by omega) w

theorem info64' : (Tryd.prog.info? 23).map (·.size) = some 32 := info23
set_option maxRecDepth 100000 in
set_option maxHeartbeats 4000000 in
theorem of_any (f : Nat → Nat) (hf : ∀ b, b < 32 → f b < 256) : Det 19 #[.agg (kArr f)] (ofL f).v := by
  intro w
  obtain ⟨c0, c1, c2, c3, c4, hcv⟩ : ∃ c0 c1 c2 c3 c4, ofL f = ⟨c0, c1, c2, c3, c4⟩ := ⟨_, _, _, _, _, rfl⟩
  have HC := Lib.hid (fof_any f hf)
  rw [hcv] at HC ⊢
  clear hcv
  have H0 := Lib.hid (show ((w.alloc (.cells (kArr f) 23)).alloc (.cells (c5 0 0 0 0 0) 33)).heap[w.heap.size]? = some (.cells (kArr f) 23 (0, 0)) by rw [Below.heap_alloc _ _ _ (by simp)]; exact alloc_at rfl)
  have H1 := Lib.hid (show ((w.alloc (.cells (kArr f) 23)).alloc (.cells (c5 0 0 0 0 0) 33)).heap[w.heap.size + 1]? = some (.cells (c5 0 0 0 0 0) 33 (0, 0)) from alloc_at (by simp))
  have HB := Lib.hid (show Below w.heap.size w ((w.alloc (.cells (kArr f) 23)).alloc (.cells (c5 0 0 0 0 0) 33)) from (alloc_only w _).alloc (by simp) _)
  unfold Det L5.v limbsV at *
  dsimp only at HC ⊢
  go_enter Tryd.func19, Tryd.ntmps19
  go_wp2_with (refine wpList_load_row rfl 23 (.tmp 1) rfl w.heap.size rfl 23 (kArr f) (0, 0) _ H0.out Tryd.underlying23 rfl info23 ?_)
  refine (HC.out _).mono ?_
  rintro e w1 ⟨rfl, hb1⟩
  have hs1 := hb1.size
  simp at hs1
  have K1 := Lib.hid (show (w1.alloc (.cells (c5 c0 c1 c2 c3 c4) 33)).heap[w.heap.size + 1]? = some (.cells (c5 0 0 0 0 0) 33 (0, 0)) by rw [Below.heap_alloc _ _ _ (by omega)]; exact (hb1.block _ (by simp)).trans H1.out)
  have KB := Lib.hid (show Below w.heap.size w (w1.alloc (.cells (c5 c0 c1 c2 c3 c4) 33)) from (HB.out.trans (hb1.mono HB.out.size)).alloc (by omega) _)
  clear hb1
  obtain ⟨⟨y0, y1, y2, y3, y4⟩, f0, f1, f2, f3, f4⟩ := facts5 K1.out
  go_wp2
  try simp only [Exit.inBlock, Exit.then]
  refine bodyPost_ret (results_cell_row rfl _ _ (w.heap.size + 1) 33 (c5 c0 c1 c2 c3 c4) (0, 0) _ rfl (set_all K1.out _ _ _ _ _) Tryd.underlying33 rfl info33) rfl ?_
  exact ⟨rfl, below_all KB.out (by omega) _ _ _ _ _⟩

end Go.Proofs.YtdmioipdmdmkhaaDoor
