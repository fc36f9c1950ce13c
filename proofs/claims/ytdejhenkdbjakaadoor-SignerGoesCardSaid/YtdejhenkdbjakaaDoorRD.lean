/- What the rows give: a slice of slices of octets that came in. -/
import Derived.Test.YtdejhenkdbjakaaDoorRC
set_option linter.unusedVariables false
set_option linter.unusedSimpArgs false
namespace Go.Proofs.YtdejhenkdbjakaaDoor
open Go.ChangeShapes Go.WideShapes Go.ChangeAt Go.WideMaps Go.WideElems Go.RowKit Go.Deep

theorem c54cells : Tryd.prog.cellsOf 54 = 1 := by kernel_rfl
theorem lists_of_trod {H : Type} {enc : TypeId × Value → H} {w : World} {base : Nat} {spare : Nat → Bool} {held : Bool} {a : Option Addr} {len cap : Nat} {d : DataW H} {p : List MemPlace}
    (h : DataW.Trod enc Tryd.prog w base spare held 30 (.slice a len cap) d p) (h0 : 0 < len) : ∃ (lb off : Nat) (arr : Array Value) (t : TypeId) (fr : Nat × Nat) (q : Nat → SlP), a = some ⟨lb, off, none⟩ ∧ w.heap[lb]? = some (.cells arr t fr) ∧ ∀ k, k < len → arr[off + k]? = some (.slice (q k).ad (q k).n (q k).c) ∧ (∀ x ∈ (q k).l, x < 256) ∧ (q k).l.length = (q k).n ∧ RdK [] w (q k) := by
  obtain ⟨fuel, hf⟩ := h
  rcases open_slice Tryd.underlying30 hf with ⟨hcs, _⟩ | ⟨x, l, c, m, n, D, Pl, hcs, _, hl, hm, hmm, _, hi⟩
  · simp [Value.cells] at hcs
    obtain ⟨rfl, rfl, rfl⟩ := hcs
    omega
  · simp [Value.cells] at hcs
    obtain ⟨rfl, rfl, rfl⟩ := hcs
    have hlm : len ≤ m := by rw [hmm]; split <;> omega
    have hel : ∀ i, i < len → ∃ q : SlP, w.cell? (x.add i) = some (.slice q.ad q.n q.c) ∧ (∀ x ∈ q.l, x < 256) ∧ q.l.length = q.n ∧ RdK [] w q := by
      intro i hi'
      obtain ⟨cs', hc, ht⟩ := hi i (by omega)
      rw [c54cells] at hc
      obtain ⟨_, hcl, hcell⟩ := World.cells?_some hc
      have h0 := hcell 0 (by omega)
      rw [add_add, Nat.mul_one, Nat.add_zero] at h0
      obtain ⟨a', len', cap', e⟩ : ∃ a' len' cap', cs' = [.slice a' len' cap'] := by
        rcases open_slice Tryd.underlying54 ht with ⟨hcs, _⟩ | ⟨x', l', c', _, _, _, _, hcs, _⟩
        · exact ⟨none, 0, 0, hcs⟩
        · exact ⟨some x', l', c', hcs⟩
      subst e
      obtain ⟨l, h1, h2, h3⟩ := bytes_of_trod (a := a') (len := len') (cap := cap') ⟨n, ht⟩
      exact ⟨⟨a', len', cap', l⟩, h0, h1, h2, h3⟩
    obtain ⟨b, off, spot⟩ := x
    obtain ⟨q0, e0, _⟩ := hel 0 h0
    have hspot : spot = none := by simpa [Addr.add] using World.cell?_spot e0
    subst hspot
    have hadd : ∀ j, (⟨b, off, none⟩ : Addr).add j = ⟨b, off + j, none⟩ := fun j => by unfold Addr.add; split <;> simp_all
    obtain ⟨arr, t, fr, hg⟩ : ∃ arr t fr, w.heap[b]? = some (.cells arr t fr) := by
      rw [hadd] at e0
      unfold World.cell? at e0
      cases hq : w.heap[b]? with
      | none => simp [hq] at e0
      | some o => cases o with
        | cells arr t fr => exact ⟨arr, t, fr, rfl⟩
        | _ => simp [hq] at e0
    have hel2 : ∀ k, k < len → ∃ q : SlP, arr[off + k]? = some (.slice q.ad q.n q.c) ∧ (∀ x ∈ q.l, x < 256) ∧ q.l.length = q.n ∧ RdK [] w q := fun k hk => by
      obtain ⟨q, h1, h2⟩ := hel k hk
      rw [hadd, cell_of_row w b _ arr t fr hg] at h1
      exact ⟨q, h1, h2⟩
    refine ⟨b, off, arr, t, fr, fun k => if h : k < len then (hel2 k h).choose else ⟨none, 0, 0, []⟩, rfl, hg, fun k hk => ?_⟩
    simp only [hk, dif_pos]
    exact (hel2 k hk).choose_spec
end Go.Proofs.YtdejhenkdbjakaaDoor
