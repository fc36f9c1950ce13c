/- YP -/
import Derived.Test.YtdejhenkdbjakaaDoorQM35
set_option linter.unusedVariables false
set_option linter.unusedSimpArgs false
set_option maxRecDepth 100000
set_option maxHeartbeats 4000000
namespace Go.Proofs.YtdejhenkdbjakaaDoor
open Go Go.RowKit
theorem blk_of_rdk {w : World} {a : Option Addr} {len cap : Nat} {l : List Nat} (h : RdK [] w ⟨a, len, cap, l⟩) (hl : l.length = len) (h0 : 0 < len) : ∃ (g off : Nat) (arr : Array Value) (t : TypeId) (fr : Nat × Nat), a = some ⟨g, off, none⟩ ∧ len ≤ cap ∧ g < w.heap.size ∧ w.heap[g]? = some (.cells arr t fr) ∧ ∀ j, j < len → arr[off + j]? = some (.int .u8 (l.getD j 0 : Nat)) := by
  rcases h w (Kept.refl _ _) with ⟨hv, h1, _⟩ | ⟨x, c, hv, hm, hc⟩
  · have : len = 0 := h1
    omega
  · have hv' : Value.slice a len cap = .slice (some x) len c := hv
    simp only [Value.slice.injEq, true_and] at hv'
    obtain ⟨rfl, rfl⟩ := hv'
    have hel : ∀ j, j < len → w.cell? (x.add j) = some (.int .u8 (l.getD j 0 : Nat)) := fun j hj => by
      refine hc j _ (ints_get ?_)
      rw [List.getD_eq_getElem?_getD, List.getElem?_eq_getElem (show j < l.length by omega), Option.getD_some]
    obtain ⟨b, off, spot⟩ := x
    have hspot : spot = none := by simpa [Addr.add] using World.cell?_spot (hel 0 h0)
    subst hspot
    have hadd : ∀ j, (⟨b, off, none⟩ : Addr).add j = ⟨b, off + j, none⟩ := fun j => by unfold Addr.add; split <;> simp_all
    have hb := World.block_lt_of_cell? w _ (hel 0 h0)
    rw [hadd] at hb
    obtain ⟨arr, t, fr, hg⟩ : ∃ arr t fr, w.heap[b]? = some (.cells arr t fr) := by
      have h1 := hel 0 h0
      rw [hadd] at h1
      unfold World.cell? at h1
      cases hq : w.heap[b]? with
      | none => simp [hq] at h1
      | some o => cases o with
        | cells arr t fr => exact ⟨arr, t, fr, rfl⟩
        | _ => simp [hq] at h1
    refine ⟨b, off, arr, t, fr, rfl, hm, hb, hg, fun j hj => ?_⟩
    have h2 := hel j hj
    rw [hadd, cell_of_row w b (off + j) arr t fr hg] at h2
    exact h2
end Go.Proofs.YtdejhenkdbjakaaDoor
