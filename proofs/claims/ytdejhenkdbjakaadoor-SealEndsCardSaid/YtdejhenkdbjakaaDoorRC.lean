/- What the rows give: octets that came in. -/
import Derived.Test.YtdejhenkdbjakaaDoorRB
import Derived.Test.YtdejhenkdbjakaaDoorXR
set_option linter.unusedVariables false
set_option linter.unusedSimpArgs false
namespace Go.Proofs.YtdejhenkdbjakaaDoor
open Go.ChangeShapes Go.WideShapes Go.ChangeAt Go.WideMaps Go.WideElems Go.RowKit Go.Deep

theorem bytes_of_trod {H : Type} {enc : TypeId × Value → H} {w : World} {base : Nat} {spare : Nat → Bool} {held : Bool} {a : Option Addr} {len cap : Nat} {d : DataW H} {p : List MemPlace}
    (h : DataW.Trod enc Tryd.prog w base spare held 54 (.slice a len cap) d p) : ∃ l : List Nat, (∀ x ∈ l, x < 256) ∧ l.length = len ∧ RdK [] w ⟨a, len, cap, l⟩ := by
  obtain ⟨fuel, hf⟩ := h
  rcases open_slice Tryd.underlying54 hf with ⟨hcs, _⟩ | ⟨x, l, c, m, n, D, Pl, hcs, _, hl, hm, hmm, _, hi⟩
  · simp [Value.cells] at hcs
    obtain ⟨rfl, rfl, rfl⟩ := hcs
    exact ⟨[], by simp, rfl, fun _ _ => .inl ⟨rfl, rfl, rfl⟩⟩
  · simp [Value.cells] at hcs
    obtain ⟨rfl, rfl, rfl⟩ := hcs
    have hlm : len ≤ m := by rw [hmm]; split <;> omega
    have hel : ∀ i, i < len → ∃ f : Nat, f < 256 ∧ w.cell? (x.add i) = some (.int .u8 ((f : Nat) : Int)) := by
      intro i hi'
      obtain ⟨cs', hc, ht⟩ := hi i (by omega)
      rw [c5cells] at hc
      obtain ⟨_, hcl, hcell⟩ := World.cells?_some hc
      obtain ⟨k, e1, _, wf⟩ := DataW.trod_int Tryd.underlying5 ht
      have h0 := hcell 0 (by omega)
      rw [add_add, Nat.mul_one, Nat.add_zero] at h0
      have e2 : cs'[0]? = some (.int .u8 k) := by
        rw [e1]; rfl
      simp [Lit.wf, IntKind.min, IntKind.max, IntKind.signed, IntKind.bits] at wf
      exact ⟨k.toNat, by omega, by rw [h0, e2]; congr 2; omega⟩
    refine ⟨(List.range len).map fun i => if h : i < len then (hel i h).choose else 0, ?_, by simp, fun w' k => RdS.kept (.inr ⟨x, cap, rfl, hl, fun j u hj => ?_⟩) k (fun _ _ _ _ => List.not_mem_nil)⟩
    · intro y hy
      obtain ⟨i, hi', rfl⟩ := List.mem_map.1 hy
      have hi2 := List.mem_range.1 hi'
      simp only [hi2, dif_pos]
      exact (hel i hi2).choose_spec.1
    · replace hj : (((List.range len).map fun i => if h : i < len then (hel i h).choose else 0).map fun (n : Nat) => Value.int .u8 (n : Int))[j]? = some u := hj
      rw [List.getElem?_map, List.getElem?_map] at hj
      rcases Nat.lt_or_ge j len with hj2 | hj2
      · rw [List.getElem?_range hj2] at hj
        simp only [Option.map_some, hj2, dif_pos, Option.some.injEq] at hj
        rw [← hj]
        exact (hel j hj2).choose_spec.2
      · rw [List.getElem?_eq_none (by simp; omega)] at hj
        cases hj
end Go.Proofs.YtdejhenkdbjakaaDoor
