/- Close of package terms. -/
import Derived.Test.YtffgechbmhgndaaT7
set_option linter.unusedVariables false
set_option linter.unusedSimpArgs false
namespace Go.Proofs.Ytffgechbmhgndaa
open Go.RowKit

namespace Ts
theorem right_zero {l : List Tm} (h : right l = 0) : l.length ≤ 200 ∧ Shape l := by
  unfold right at h
  split at h
  · cases h
  · split at h
    · cases h
    · rename_i h1 h2
      exact ⟨by omega, shape_of (by simpa using h2)⟩
end Ts

/-- What closed tells. -/
inductive ClosedRes (w : World) (vl : Value) (l : List Tm) (known : List Int) : Ending → World → Prop
  | shape (w' : World) : Ts.right l ≠ 0 → Below w.heap.size w w' → ClosedRes w vl l known (.returned (.tuple #[.pointer none, .int .i64 (Ts.right l)])) w'
  | arg (w' : World) : Ts.right l = 0 → ¬ Ts.valid l known → Below w.heap.size w w' → ClosedRes w vl l known (.returned (.tuple #[.pointer none, .int .i64 1])) w'
  | ok (b : Nat) (w' : World) : Ts.right l = 0 → Ts.valid l known → SOwn w b vl (Ts.result l known) w' → ClosedRes w vl l known (.returned (.tuple #[.pointer (some ⟨b, 0, none⟩), .int .i64 0])) w'

theorem closed_any {w : World} {l : List Tm} (vl v : Value) (known : List Int) (hl : TermsAt w vl l) (hk : RowAt w v (intsV known)) :
    Calls Try.prog 40 #[vl, v] w (ClosedRes w vl l known) := by
  obtain ⟨A, c, rfl, _⟩ := RowsAt.form hl
  by_cases hr : Ts.right l = 0
  · obtain ⟨h1, h2⟩ := Ts.right_zero hr
    refine (closed_ok v known hl hr hk h1 h2).mono ?_
    rintro r w' (⟨hv, b, rfl, ho⟩ | ⟨hv, rfl, hb⟩)
    · exact .ok b w' hr hv ho
    · exact .arg w' hr hv hb
  · refine (closed_bad v hl hr).mono ?_
    rintro r w' ⟨rfl, hb⟩
    exact .shape w' hr hb

/-- What Close tells. -/
inductive CloseRes (w : World) (l : List Tm) (known : List Int) : Ending → World → Prop
  | shape (w' : World) : Ts.right l ≠ 0 → Below w.heap.size w w' → CloseRes w l known (.returned (.tuple #[.slice none 0 0, .int .i64 (Ts.right l)])) w'
  | arg (w' : World) : Ts.right l = 0 → ¬ Ts.valid l known → Below w.heap.size w w' → CloseRes w l known (.returned (.tuple #[.slice none 0 0, .int .i64 1])) w'
  | ok (u : Value) (w' : World) : Ts.right l = 0 → Ts.valid l known → RowAt w' u (bools (Ts.result l known).inn) → Below w.heap.size w w' → CloseRes w l known (.returned (.tuple #[u, .int .i64 0])) w'

set_option maxRecDepth 100000 in
set_option maxHeartbeats 1000000 in
theorem close_any {w : World} {l : List Tm} (vl v : Value) (known : List Int) (hl : TermsAt w vl l) (hk : RowAt w v (intsV known)) :
    Calls Try.prog 17 #[vl, v] w (CloseRes w l known) := by
  have HC := Lib.hid (closed_any vl v known hl hk)
  clear hl hk
  go_enter Try.func17, Try.ntmps17
  go_wp2_with fail
  refine HC.out.mono ?_
  intro r w1 hres
  cases hres with
  | shape _ h1 h2 =>
    have e : (Ts.right l != 0) = true := by simp [h1]
    have H1 := Lib.hid h1; clear h1
    have HF := Lib.hid (CloseRes.shape (known := known) w1 H1.out h2)
    generalize Ts.right l = z at *
    go_wp2
    go_ret2
    exact HF.out
  | arg _ h1 h2 h3 =>
    have HF := Lib.hid (CloseRes.arg w1 h1 h2 h3)
    clear h1 h2 h3
    go_wp2
    go_ret2
    exact HF.out
  | ok b _ h1 h2 h3 =>
    obtain ⟨vi, vo, q1, q2, q3, q4, q5⟩ := h3
    have c1 : w1.cell? ⟨b, 1, none⟩ = some vi := cell_of_row w1 b 1 _ 80 (0, 0) q1
    have HF := Lib.hid (CloseRes.ok vi w1 h1 h2 (RowAt.of_own q2) q4)
    clear h1 h2 q1 q2 q3 q4 q5
    go_wp2
    go_ret2
    exact HF.out

end Go.Proofs.Ytffgechbmhgndaa
