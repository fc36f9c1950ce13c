/- What the rows give: a slice of keys that came in. -/
import Derived.Test.YtdejhenkdbjakaaDoorRA
import Derived.Deep.Slices
import Derived.Deep.Fields
set_option linter.unusedVariables false
set_option linter.unusedSimpArgs false
namespace Go.Proofs.YtdejhenkdbjakaaDoor
open Go.ChangeShapes Go.WideShapes Go.ChangeAt Go.WideMaps Go.WideElems Go.RowKit Go.Deep

theorem c23cells : Tryd.prog.cellsOf 23 = 32 := by kernel_rfl
theorem key_of_trod {H : Type} {enc : TypeId × Value → H} {w : World} {base n : Nat} {spare : Nat → Bool} {held : Bool} {cs : List Value} {x : DataW H × List MemPlace} (h : DataW.trod enc Tryd.prog w base spare held n 23 cs = some x) (hl : cs.length = 32) :
    ∃ f : Nat → Nat, (∀ i, i < 32 → f i < 256) ∧ ∀ i, i < 32 → cs[i]? = some (.int .u8 ((f i : Nat) : Int)) := by
  obtain ⟨xs, m, _, _, _, hn, hel⟩ := DataW.trod_array Tryd.underlying23 h
  have key : ∀ i : Nat, i < 32 → ∃ n : Nat, cs[i]? = some (.int .u8 n) ∧ n < 256 := by
    intro i hi
    have h0 := hel i hi
    rw [c5cells] at h0
    obtain ⟨y, hy⟩ : ∃ y, xs[i]? = some y := ⟨xs[i], List.getElem?_eq_getElem (by omega)⟩
    rw [hy] at h0
    obtain ⟨k, e1, _, wf⟩ := DataW.trod_int Tryd.underlying5 h0
    have hlt : i < cs.length := by omega
    have e2 : cs[i]? = some (.int .u8 k) := by
      have h3 := congrArg (fun l => l[0]?) e1
      simpa [Value.cells, hlt] using h3
    simp [Lit.wf, IntKind.min, IntKind.max, IntKind.signed, IntKind.bits] at wf
    exact ⟨k.toNat, by rw [e2]; congr 2; omega, by omega⟩
  exact ⟨fun i => if h : i < 32 then Classical.choose (key i h) else 0, fun i hi => by simp only [hi, dif_pos]; exact (Classical.choose_spec (key i hi)).2, fun i hi => by simp only [hi, dif_pos]; exact (Classical.choose_spec (key i hi)).1⟩
theorem keys_of_trod {H : Type} {enc : TypeId × Value → H} {w : World} {base : Nat} {spare : Nat → Bool} {held : Bool} {a : Option Addr} {len cap : Nat} {d : DataW H} {p : List MemPlace}
    (h : DataW.Trod enc Tryd.prog w base spare held 39 (.slice a len cap) d p) (h0 : 0 < len) : ∃ (g off : Nat) (arr : Array Value) (t : TypeId) (fr : Nat × Nat) (K : Nat → Nat → Nat), a = some ⟨g, off, none⟩ ∧ len ≤ cap ∧ g < w.heap.size ∧ w.heap[g]? = some (.cells arr t fr) ∧ (∀ k i, i < 32 → K k i < 256) ∧ ∀ k, k < len → ∀ j v, (arrF .u8 32 (K k))[j]? = some v → arr[(off + k * 32) + j]? = some v := by
  obtain ⟨fuel, hf⟩ := h
  rcases open_slice Tryd.underlying39 hf with ⟨hcs, _⟩ | ⟨x, l, c, m, n, D, Pl, hcs, _, hl, hm, hmm, _, hi⟩
  · simp [Value.cells] at hcs
    obtain ⟨rfl, rfl, rfl⟩ := hcs
    omega
  · simp [Value.cells] at hcs
    obtain ⟨rfl, rfl, rfl⟩ := hcs
    have hlm : len ≤ m := by rw [hmm]; split <;> omega
    have hel : ∀ i, i < len → ∃ f : Nat → Nat, (∀ j, j < 32 → f j < 256) ∧ ∀ j, j < 32 → w.cell? (x.add (i * 32 + j)) = some (.int .u8 ((f j : Nat) : Int)) := by
      intro i hi'
      obtain ⟨cs', hc, ht⟩ := hi i (by omega)
      rw [c23cells] at hc
      obtain ⟨_, hcl, hcell⟩ := World.cells?_some hc
      obtain ⟨f, f1, f2⟩ := key_of_trod ht hcl
      refine ⟨f, f1, fun j hj => ?_⟩
      have := hcell j (by omega)
      rw [add_add] at this
      rw [this]
      have h9 := f2 j hj
      simpa using h9
    obtain ⟨b, off, spot⟩ := x
    obtain ⟨f0, _, e0⟩ := hel 0 h0
    have hspot : spot = none := by simpa [Addr.add] using World.cell?_spot (e0 0 (by omega))
    subst hspot
    have hadd : ∀ j, (⟨b, off, none⟩ : Addr).add j = ⟨b, off + j, none⟩ := fun j => by unfold Addr.add; split <;> simp_all
    have hb := World.block_lt_of_cell? w _ (e0 0 (by omega))
    rw [hadd] at hb
    obtain ⟨arr, t, fr, hg⟩ : ∃ arr t fr, w.heap[b]? = some (.cells arr t fr) := by
      have h1 := e0 0 (by omega)
      rw [hadd] at h1
      unfold World.cell? at h1
      cases hq : w.heap[b]? with
      | none => simp [hq] at h1
      | some o => cases o with
        | cells arr t fr => exact ⟨arr, t, fr, rfl⟩
        | _ => simp [hq] at h1
    refine ⟨b, off, arr, t, fr, fun k => if h : k < len then (hel k h).choose else fun _ => 0, rfl, hl, hb, hg, fun k i hi => ?_, fun k hk j v hv => ?_⟩
    · by_cases h : k < len
      · simp only [h, dif_pos]; exact (hel k h).choose_spec.1 i hi
      · simp only [h, dif_neg, not_false_eq_true]; decide
    · have hj : j < 32 := by
        have := (Array.getElem?_eq_some_iff.1 hv).1
        rwa [arrF_size] at this
      rw [arrF_get _ hj] at hv
      simp only [hk, dif_pos] at hv
      have h1 := (hel k hk).choose_spec.2 j hj
      rw [hadd, cell_of_row w b _ arr t fr hg, show off + (k * 32 + j) = off + k * 32 + j from by omega] at h1
      rw [h1]; exact hv
end Go.Proofs.YtdejhenkdbjakaaDoor
