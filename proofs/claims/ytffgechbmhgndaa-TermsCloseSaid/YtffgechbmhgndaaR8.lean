/- How long a list of terms that came in may be. -/
import Derived.Test.YtffgechbmhgndaaT11
import Derived.SizedLaws
set_option linter.unusedVariables false
namespace Go.Proofs.Ytffgechbmhgndaa
open Go.RowKit Go.ChangeShapes Go.WideShapes Go.Deep

theorem bytes_terms : Try.prog.bytesOf 60 = 24 := by kernel_rfl
theorem terms_room {H : Type} {enc : TypeId × Value → H} {w : World} {base : Nat} {spare : Nat → Bool} {held : Bool} {a : Option Addr} {len cap : Nat} {d : DataW H} {p : List MemPlace}
    (h : DataW.Trod enc Try.prog w base spare held 35 (.slice a len cap) d p) : len = 0 ∨ ∃ elems rest, d = .slice elems rest ∧ elems.length = len := by
  obtain ⟨fuel, hf⟩ := h
  rcases open_slice Try.underlying35 hf with ⟨hcs, _⟩ | ⟨x, l, c, m, n, D, Pl, hcs, _, hl, hm, hmm, hd, hi⟩
  · simp [Value.cells] at hcs
    exact .inl hcs.2.1
  · simp [Value.cells] at hcs
    obtain ⟨rfl, rfl, rfl⟩ := hcs
    simp only [Prod.mk.injEq] at hd
    exact .inr ⟨_, _, hd.1, by simp⟩
theorem terms_small {H : Type} {enc : TypeId × Value → H} {w : World} {base : Nat} {spare : Nat → Bool} {held : Bool} {a : Option Addr} {len cap : Nat} {d : DataW H} {p : List MemPlace}
    (h : DataW.Trod enc Try.prog w base spare held 35 (.slice a len cap) d p) {ts : List TypeId} {ds : List (DataW H)} {j : Nat} (hz : (DataW.weightsEach Try.prog ts ds).all (· ≤ reachBytes) = true)
    (ht : ts[j]? = some 35) (hd : ds[j]? = some d) : len * 24 ≤ 140737488355328 := by
  rcases terms_room h with rfl | ⟨elems, rest, rfl, rfl⟩
  · omega
  · have := sized_slice hz ht hd Try.underlying35
    rw [bytes_terms] at this
    unfold reachBytes at this
    have h2 : elems.length * 24 ≤ (elems.length + rest.length) * 24 := Nat.mul_le_mul_right _ (Nat.le_add_right _ _)
    omega
theorem TermsAt.len {w : World} {a : Option Addr} {len cap : Nat} {l : List Tm} (h : TermsAt w (.slice a len cap) l) : len = l.length := by
  obtain ⟨_, _, hv, _⟩ := RowsAt.form h
  simp only [Value.slice.injEq] at hv
  exact hv.2.1
end Go.Proofs.Ytffgechbmhgndaa
