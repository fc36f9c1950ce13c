/- Rows of one-cell elements that are only read. -/
import Derived.Test.YtffgechbmhgndaaK0
import Derived.OpenShut
set_option linter.unusedVariables false
set_option linter.unusedSimpArgs false
namespace Go.Proofs.Ytffgechbmhgndaa
open Go.RowKit

theorem own_base' {w : World} {base base' : Nat} {e : TypeId} {size n : Nat} {v : Value} {xs : List Value} (h : w.ownsRow base e size v n xs) (hb : base' ≤ base) : w.ownsRow base' e size v n xs := by
  refine ⟨h.1, ?_⟩
  rcases h.2 with hn | ⟨g, cap, cur, rfl, hb', hg, rest⟩
  · exact .inl hn
  · exact .inr ⟨g, cap, cur, rfl, Nat.le_trans hb hb', hg, rest⟩

/-- A slice value that reads as the cells 'xs', one cell an element; 'B': its block is below B. -/
def RowAt (w : World) (v : Value) (xs : List Value) : Prop :=
  ∃ A c, v = .slice A xs.length c ∧ xs.length ≤ c ∧ xs.length ≤ 9223372036854775807 ∧ (0 < xs.length → ∃ g off, A = some ⟨g, off, none⟩ ∧ g < w.heap.size ∧ ∀ j u, xs[j]? = some u → w.cell? ⟨g, off + j, none⟩ = some u)

theorem RowAt.below {w w1 : World} {v : Value} {xs : List Value} (h : RowAt w v xs) (hb : Below w.heap.size w w1) : RowAt w1 v xs := by
  obtain ⟨A, c, hv, hc, hm, hx⟩ := h
  refine ⟨A, c, hv, hc, hm, fun hn => ?_⟩
  obtain ⟨g, off, ha, hg, hx⟩ := hx hn
  exact ⟨g, off, ha, Nat.lt_of_lt_of_le hg hb.size, fun j u hj => (hb.cell (p := ⟨g, off + j, none⟩) hg).trans (hx j u hj)⟩

theorem RowAt.of_own {w : World} {base : Nat} {e : TypeId} {n : Nat} {v : Value} {xs : List Value} (h : w.ownsRow base e 1 v n xs) : RowAt w v xs := by
  obtain ⟨hl, h2⟩ := h
  rw [Nat.mul_one] at hl
  subst hl
  rcases h2 with ⟨rfl, h0⟩ | ⟨g, cap, cur, rfl, _, hg, hc, hm, hs, ht⟩
  · exact ⟨none, 0, by rw [h0], by omega, by omega, fun hn => by omega⟩
  · refine ⟨_, cap, rfl, hc, by unfold maxLen at hm; omega, fun _ => ⟨g, 0, rfl, (Array.getElem?_eq_some_iff.1 hg).1, fun j u hj => ?_⟩⟩
    rw [Nat.zero_add, cell_of_row w g j cur e (0, 0) hg]
    rw [← ht, List.getElem?_take] at hj
    split at hj
    · simpa using hj
    · cases hj

theorem RowAt.of_block {w : World} {g : Nat} {cs : Array Value} {t : TypeId} {fz : Nat × Nat} (hb : w.heap[g]? = some (.cells cs t fz)) (hm : cs.size ≤ 9223372036854775807) {xs : List Value} (hx : cs.toList = xs) : RowAt w (.slice (some ⟨g, 0, none⟩) xs.length xs.length) xs := by
  subst hx
  refine ⟨_, _, rfl, Nat.le_refl _, by simpa using hm, fun _ => ⟨g, 0, rfl, (Array.getElem?_eq_some_iff.1 hb).1, fun j u hj => ?_⟩⟩
  rw [Nat.zero_add, cell_of_row w g j cs t fz hb]
  simpa using hj

theorem RowAt.lit (w : World) (t : TypeId) (xs : List Value) (hm : xs.length ≤ 9223372036854775807) : RowAt (w.alloc (.cells xs.toArray t)) (.slice (some ⟨w.heap.size, 0, none⟩) xs.length xs.length) xs :=
  RowAt.of_block (heap_alloc_new w _) (by simpa using hm) (by simp)

theorem RowAt.cell {w : World} {v : Value} {xs : List Value} (h : RowAt w v xs) (hn : 0 < xs.length) : ∃ g off c, v = .slice (some ⟨g, off, none⟩) xs.length c ∧ xs.length ≤ c ∧ g < w.heap.size ∧ ∀ j u, xs[j]? = some u → w.cell? ⟨g, off + j, none⟩ = some u := by
  obtain ⟨A, c, hv, hc, _, hx⟩ := h
  obtain ⟨g, off, rfl, hg, hx⟩ := hx hn
  exact ⟨g, off, c, hv, hc, hg, hx⟩
theorem RowAt.form {w : World} {v : Value} {xs : List Value} (h : RowAt w v xs) : ∃ A c, v = .slice A xs.length c ∧ xs.length ≤ c := by
  obtain ⟨A, c, hv, hc, _⟩ := h; exact ⟨A, c, hv, hc⟩

def bools (l : List Bool) : List Value := l.map Value.bool
def intsV (l : List Int) : List Value := l.map (Value.int .i64)
theorem bools_length (l : List Bool) : (bools l).length = l.length := by simp [bools]
theorem intsV_length (l : List Int) : (intsV l).length = l.length := by simp [intsV]
theorem bools_get (l : List Bool) (j : Nat) (h : j < l.length) : (bools l)[j]? = some (.bool l[j]) := by simp [bools, h]
theorem intsV_get (l : List Int) (j : Nat) (h : j < l.length) : (intsV l)[j]? = some (.int .i64 l[j]) := by simp [intsV, h]

/-- A slice of ints that came in reads as its numbers. -/
theorem rowAt_ints {w : World} {a : Option Addr} {len cap : Nat} {zs : List Int} (h : (a = none ∧ len = 0 ∧ cap = 0 ∧ zs = []) ∨
    ∃ x, a = some x ∧ len ≤ cap ∧ cap ≤ maxLen ∧ zs.length = cap ∧ (∀ i, i < zs.length → w.cell? (x.add i) = some (.int .i64 (zs.getD i 0))) ∧ ∀ n ∈ zs, (Lit.int .i64 n).wf = true) : RowAt w (.slice a len cap) (intsV (zs.take len)) := by
  rcases h with ⟨rfl, rfl, rfl, rfl⟩ | ⟨x, rfl, hl, hm, hz, hc, _⟩
  · exact ⟨none, 0, rfl, by simp [intsV], by simp [intsV], fun h => by simp [intsV] at h⟩
  · have hlen : (intsV (zs.take len)).length = len := by rw [intsV_length, List.length_take]; omega
    refine ⟨some x, cap, by rw [hlen], by omega, by unfold maxLen at hm; omega, fun hn => ?_⟩
    obtain ⟨b, off, rfl, hx⟩ := ints_at hc (by omega)
    refine ⟨b, off, rfl, World.block_lt_of_cell? w _ (hx 0 (by omega)), fun j u hj => ?_⟩
    have hj' : j < (intsV (zs.take len)).length := (List.getElem?_eq_some_iff.1 hj).1
    rw [hlen] at hj'
    rw [hx j (by omega)]
    rw [intsV_get _ _ (by rw [List.length_take]; omega)] at hj
    rw [← hj, List.getElem_take]
    simp [List.getD, show j < zs.length by omega]

end Go.Proofs.Ytffgechbmhgndaa
