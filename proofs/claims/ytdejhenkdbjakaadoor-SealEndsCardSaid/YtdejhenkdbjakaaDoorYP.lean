/- Plain facts of boxes; octets that came in. -/
import Derived.Test.YtdejhenkdbjakaaDoorYO
set_option linter.unusedVariables false
set_option linter.unusedSimpArgs false
namespace Go.Proofs.YtdejhenkdbjakaaDoor
open Go Go.RowKit
/-- Octets that are read, and are some: their block. -/
theorem blk_of_rdk {w : World} {a : Option Addr} {len cap : Nat} {l : List Nat} (h : RdK [] w ⟨a, len, cap, l⟩) (hl : l.length = len) (h0 : 0 < len) : ∃ (g off : Nat) (arr : Array Value) (t : TypeId) (fr : Nat × Nat), a = some ⟨g, off, none⟩ ∧ len ≤ cap ∧ g < w.heap.size ∧ w.heap[g]? = some (.cells arr t fr) ∧ ∀ j, j < len → arr[off + j]? = some (.int .u8 ((l.getD j 0 : Nat) : Int)) := by
  rcases h w (Kept.refl _ _) with ⟨hv, h1, _⟩ | ⟨x, c, hv, hm, hc⟩
  · have : len = 0 := h1
    omega
  · have hv' : Value.slice a len cap = .slice (some x) len c := hv
    simp only [Value.slice.injEq, true_and] at hv'
    obtain ⟨rfl, rfl⟩ := hv'
    have hel : ∀ j, j < len → w.cell? (x.add j) = some (.int .u8 ((l.getD j 0 : Nat) : Int)) := fun j hj => by
      refine hc j _ (ints_get ?_)
      rw [List.getD_eq_getElem?_getD, List.getElem?_eq_getElem (show j < l.length by omega), Option.getD_some]
    obtain ⟨b, off, spot⟩ := x
    have hspot : spot = none := by simpa [Addr.add] using World.cell?_spot (hel 0 h0)
    subst hspot
    have hadd : ∀ j, (⟨b, off, none⟩ : Addr).add j = ⟨b, off + j, none⟩ := fun j => by unfold Addr.add; split <;> simp_all
    have hb := World.block_lt_of_cell? w _ (hel 0 h0)
    rw [hadd] at hb
    obtain ⟨arr, t, fr, hg⟩ : ∃ arr t fr, w.heap[b]? = some (.cells arr t fr) := by
      have h1 := hel 0 h0
      rw [hadd] at h1
      unfold World.cell? at h1
      cases hq : w.heap[b]? with
      | none => simp [hq] at h1
      | some o => cases o with
        | cells arr t fr => exact ⟨arr, t, fr, rfl⟩
        | _ => simp [hq] at h1
    refine ⟨b, off, arr, t, fr, rfl, hm, hb, hg, fun j hj => ?_⟩
    have h2 := hel j hj
    rw [hadd, cell_of_row w b (off + j) arr t fr hg] at h2
    exact h2
theorem xor_twice (a b : Nat) : (a ^^^ b) ^^^ b = a := by rw [Nat.xor_assoc, Nat.xor_self, Nat.xor_zero]
theorem mxP_D (key nc : Nat → Nat) (tl : List Nat) {m i : Nat} (h : i < m) : (mxP key nc tl m).getD i 0 = tl.getD i 0 ^^^ mxB key nc i := by
  rw [List.getD_eq_getElem?_getD, mxP_get key nc tl h, Option.getD_some]
theorem hidP_D (key : Nat → Nat) (tl : List Nat) {m i : Nat} (h : i < m) : (hidP key tl m).getD i 0 = tl.getD i 0 ^^^ mxB (hideK key) zN i := mxP_D _ _ _ h
theorem ext_D {a b : List Nat} (h : a.length = b.length) (hd : ∀ i, i < a.length → a.getD i 0 = b.getD i 0) : a = b := by
  refine List.ext_getElem h fun i h1 h2 => ?_
  have := hd i h1
  rwa [List.getD_eq_getElem?_getD, List.getD_eq_getElem?_getD, List.getElem?_eq_getElem h1, List.getElem?_eq_getElem h2, Option.getD_some, Option.getD_some] at this
theorem hid_back (key : Nat → Nat) {tl : List Nat} {n : Nat} (h : tl.length = n) : hidP key (hidP key tl n) n = tl := by
  refine ext_D (by rw [hidP_len, h]) fun i hi => ?_
  rw [hidP_len] at hi
  rw [hidP_D _ _ hi, hidP_D _ _ hi, xor_twice]
theorem box_take (key : Nat → Nat) (la tl : List Nat) (n : Nat) : (boxP key la tl n).take n = hidP key tl n := by
  unfold boxP
  exact List.take_left' (hidP_len _ _ _)
theorem box_end (key : Nat → Nat) (la tl : List Nat) (n : Nat) {i : Nat} (h : i < 32) : (boxP key la tl n).getD (n + i) 0 = tagP key la (hidP key tl n) i := by
  unfold boxP
  rw [List.getD_eq_getElem?_getD, List.getElem?_append_right (by rw [hidP_len]; omega), hidP_len, Nat.add_sub_cancel_left, kl_get _ h, Option.getD_some]
theorem box_front (key : Nat → Nat) (la tl : List Nat) (n : Nat) {i : Nat} (h : i < n) : (boxP key la tl n).getD i 0 = tl.getD i 0 ^^^ mxB (hideK key) zN i := by
  rw [← hidP_D key tl h, ← box_take key la tl n, takeD h]
theorem box_ok (key : Nat → Nat) (la tl : List Nat) (n : Nat) : ∀ i, i < 32 → tagP key la ((boxP key la tl n).take (n + 32 - 32)) i = (boxP key la tl n).getD (n + 32 - 32 + i) 0 := fun i h => by
  rw [Nat.add_sub_cancel, box_take, box_end _ _ _ _ h]
theorem box_back (key : Nat → Nat) (la : List Nat) {tl : List Nat} {n : Nat} (h : tl.length = n) : hidP key ((boxP key la tl n).take (n + 32 - 32)) (n + 32 - 32) = tl := by
  rw [Nat.add_sub_cancel, box_take, hid_back key h]
end Go.Proofs.YtdejhenkdbjakaaDoor
