/- A slice of terms that came in reads as its terms. -/
import Derived.Test.YtffgechbmhgndaaT1
import Derived.Deep.Slices
import Derived.Deep.Fields
set_option linter.unusedVariables false
set_option linter.unusedSimpArgs false
namespace Go.Proofs.Ytffgechbmhgndaa
open Go.RowKit Go.ChangeShapes Go.WideShapes Go.Deep

theorem cells_terms : Try.prog.cellsOf 60 = 3 := by kernel_rfl

theorem len3 {α : Type} {l : List α} (h : l.length = 3) : ∃ a b c, l = [a, b, c] := by
  match l, h with
  | [a, b, c], _ => exact ⟨a, b, c, rfl⟩
/-- The cells of one element. -/
theorem term_of_trod {H : Type} {enc : TypeId × Value → H} {w : World} {base n : Nat} {spare : Nat → Bool} {held : Bool} {cs : List Value} {x : DataW H × List MemPlace} (h : DataW.trod enc Try.prog w base spare held n 60 cs = some x) :
    ∃ t : Tm, cs = [.int .i64 t.op, .int .i64 t.a, .int .i64 t.b] := by
  obtain ⟨xs, m, rfl, hx, hlen, hxl, hf⟩ := DataW.trod_struct Try.underlying60 h
  rw [cells_terms] at hlen
  have c3 : Try.prog.cellsOf 3 = 1 := by kernel_rfl
  have e0 := hf 0 { name := "Op", type := 3, offset := 0, embedded := false, tag := "", pkgPath := "", byteOffset := 0 } rfl
  have e1 := hf 1 { name := "A", type := 3, offset := 1, embedded := false, tag := "", pkgPath := "", byteOffset := 8 } rfl
  have e2 := hf 2 { name := "B", type := 3, offset := 2, embedded := false, tag := "", pkgPath := "", byteOffset := 16 } rfl
  have hx3 : xs.length = 3 := hxl
  obtain ⟨v0, v1, v2, rfl⟩ := len3 hlen
  obtain ⟨y0, y1, y2, rfl⟩ := len3 hx3
  simp only [c3, List.drop_zero, List.drop_succ_cons, List.take_succ_cons, List.take_zero, List.getElem?_cons_zero, List.getElem?_cons_succ] at e0 e1 e2
  obtain ⟨a, ha, _, _⟩ := DataW.trod_int Try.underlying3 e0
  obtain ⟨b, hb, _, _⟩ := DataW.trod_int Try.underlying3 e1
  obtain ⟨c, hc, _, _⟩ := DataW.trod_int Try.underlying3 e2
  simp only [List.cons.injEq, and_true] at ha hb hc
  subst ha hb hc
  exact ⟨⟨a, b, c⟩, rfl⟩

theorem flat3_div {α : Type} (f g h : α → Value) (s : List α) (z : α) (j : Nat) (u : Value) (hu : (s.flatMap fun t => [f t, g t, h t])[j]? = some u) :
    ∃ i, i < s.length ∧ (j = i * 3 ∧ u = f (s.getD i z) ∨ j = i * 3 + 1 ∧ u = g (s.getD i z) ∨ j = i * 3 + 2 ∧ u = h (s.getD i z)) := by
  have hj : j < s.length * 3 := by
    have := (List.getElem?_eq_some_iff.1 hu).1
    rwa [flat3_length] at this
  have hi : j / 3 < s.length := by omega
  obtain ⟨h0, h1, h2⟩ := flat3_get f g h s z (j / 3) hi
  refine ⟨j / 3, hi, ?_⟩
  have hm : j % 3 = 0 ∨ j % 3 = 1 ∨ j % 3 = 2 := by omega
  rcases hm with hm | hm | hm
  · left
    have e : j = j / 3 * 3 := by omega
    rw [← e, hu] at h0
    exact ⟨e, by simpa using h0⟩
  · right; left
    have e : j = j / 3 * 3 + 1 := by omega
    rw [← e, hu] at h1
    exact ⟨e, by simpa using h1⟩
  · right; right
    have e : j = j / 3 * 3 + 2 := by omega
    rw [← e, hu] at h2
    exact ⟨e, by simpa using h2⟩

theorem terms_of_trod {H : Type} {enc : TypeId × Value → H} {w : World} {base : Nat} {spare : Nat → Bool} {held : Bool} {a : Option Addr} {len cap : Nat} {d : DataW H} {p : List MemPlace}
    (h : DataW.Trod enc Try.prog w base spare held 35 (.slice a len cap) d p) : ∃ l : List Tm, TermsAt w (.slice a len cap) l := by
  obtain ⟨fuel, hf⟩ := h
  rcases open_slice Try.underlying35 hf with ⟨hcs, _⟩ | ⟨x, l, c, m, n, D, Pl, hcs, _, hl, hm, hmm, _, hi⟩
  · simp [Value.cells] at hcs
    obtain ⟨rfl, rfl, rfl⟩ := hcs
    exact ⟨[], none, 0, rfl, Nat.le_refl _, by simp, rfl, by simp⟩
  · simp [Value.cells] at hcs
    obtain ⟨rfl, rfl, rfl⟩ := hcs
    have hlm : len ≤ m := by rw [hmm]; split <;> omega
    have hel : ∀ i, i < len → ∃ t : Tm, w.cell? (x.add (i * 3)) = some (.int .i64 t.op) ∧ w.cell? (x.add (i * 3 + 1)) = some (.int .i64 t.a) ∧ w.cell? (x.add (i * 3 + 2)) = some (.int .i64 t.b) := by
      intro i hi'
      obtain ⟨cs', hc, ht⟩ := hi i (by omega)
      obtain ⟨t, rfl⟩ := term_of_trod ht
      rw [cells_terms] at hc
      obtain ⟨_, _, hcell⟩ := World.cells?_some hc
      refine ⟨t, ?_, ?_, ?_⟩
      · have := hcell 0 (by omega); rwa [add_add] at this
      · have := hcell 1 (by omega); rwa [add_add] at this
      · have := hcell 2 (by omega); rwa [add_add] at this
    let F : Nat → Tm := fun i => if h : i < len then (hel i h).choose else Tm.z
    have hF : ∀ i, (h : i < len) → w.cell? (x.add (i * 3)) = some (.int .i64 (F i).op) ∧ w.cell? (x.add (i * 3 + 1)) = some (.int .i64 (F i).a) ∧ w.cell? (x.add (i * 3 + 2)) = some (.int .i64 (F i).b) := by
      intro i h
      have e : F i = (hel i h).choose := by simp [F, h]
      rw [e]
      exact (hel i h).choose_spec
    have hlen : ((List.range len).map F).length = len := by simp
    have hget : ∀ i, i < len → ((List.range len).map F).getD i Tm.z = F i := by intro i h; simp [List.getD, h]
    refine ⟨(List.range len).map F, some x, cap, by rw [hlen], by rw [hlen]; exact hl, by rw [hlen]; unfold maxLen at hm; omega, by rw [tmCells, flat3_length], fun h0 => ?_⟩
    rw [hlen] at h0
    obtain ⟨b, off, spot⟩ := x
    have hspot : spot = none := by simpa [Addr.add] using World.cell?_spot (hF 0 h0).1
    subst hspot
    refine ⟨b, off, rfl, World.block_lt_of_cell? w _ (by have := (hF 0 h0).1; simpa [Addr.add] using this), fun j u hu => ?_⟩
    obtain ⟨i, hi', hc⟩ := flat3_div _ _ _ _ Tm.z j u hu
    rw [hlen] at hi'
    rw [hget i hi'] at hc
    obtain ⟨f0, f1, f2⟩ := hF i hi'
    rw [← add_plain]
    rcases hc with ⟨rfl, rfl⟩ | ⟨rfl, rfl⟩ | ⟨rfl, rfl⟩
    · exact f0
    · exact f1
    · exact f2

end Go.Proofs.Ytffgechbmhgndaa
