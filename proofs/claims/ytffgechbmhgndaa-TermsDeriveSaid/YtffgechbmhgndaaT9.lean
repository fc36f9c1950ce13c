/- The chapter's examples of package terms stand. -/
import Derived.Test.YtffgechbmhgndaaT8
import Derived.Test.YtffgechbmhgndaaT0
set_option linter.unusedVariables false
set_option linter.unusedSimpArgs false
namespace Go.Proofs.Ytffgechbmhgndaa
open Go.RowKit

def some5 : List Tm := [⟨0, 0, 0⟩, ⟨0, 0, 0⟩, ⟨5, 0, 1⟩, ⟨3, 0, 0⟩, ⟨4, 0, 1⟩]
set_option maxHeartbeats 400000 in
theorem some_any (w : World) : Calls Try.prog 36 #[] w fun r w' => (∃ v, r = .returned v ∧ TermsAt w' v some5) ∧ Below w.heap.size w w' := by
  go_enter Try.func36, Try.ntmps36
  go_wp2
  go_ret
  exact ⟨⟨_, rfl, RowsAt.lit w 60 5 3 (tmCells some5) (by decide) (by decide)⟩, (Below.refl _ _).alloc (Nat.le_refl _) _⟩

/-- What Close tells of the chapter's terms. -/
theorem close_five {w : World} (vl v : Value) (known : List Int) (res : List Bool) (hl : TermsAt w vl some5) (hk : RowAt w v (intsV known)) (hv : known.all (fun k => decide (0 ≤ k) && decide (k < 5)) = true) (hres : (Ts.result some5 known).inn = res) :
    Calls Try.prog 17 #[vl, v] w fun r w' => (∃ u, r = .returned (.tuple #[u, .int .i64 0]) ∧ RowAt w' u (bools res)) ∧ Below w.heap.size w w' := by
  refine (close_any vl v known hl hk).mono ?_
  intro r w' h
  have hval : Ts.valid some5 known := by
    intro k hk
    rw [List.all_eq_true] at hv
    have := hv k hk
    simp at this
    exact this
  cases h with
  | shape _ h1 _ => exact absurd (by decide) h1
  | arg _ _ h2 _ => exact absurd hval h2
  | ok u _ _ _ h3 h4 => exact ⟨⟨u, rfl, hres ▸ h3⟩, h4⟩

set_option maxRecDepth 100000 in
set_option maxHeartbeats 4000000 in
theorem awakeT_any (w : World) : Calls Try.prog 15 #[] w fun r w' => r = .returned (.bool true) ∧ Below w.heap.size w w' := by
  have al := fun (w : World) o => (Below.refl w.heap.size w).alloc (Nat.le_refl _) o
  go_enter Try.func15, Try.ntmps15
  go_wp2_with fail
  refine (some_any _).mono ?_
  rintro e wa0 ⟨⟨vs0, rfl, hs0⟩, ha0⟩
  go_wp2_with fail
  refine (close_five vs0 _ [2] [false, false, true, false, false] (hs0.below (al _ _)) (RowAt.lit _ 3 (intsV [2]) (by decide)) (by decide) (by decide +kernel)).mono ?_
  rintro e wb0 ⟨⟨u0, rfl, r0⟩, hb0⟩
  have hb0 : Below wa0.heap.size wa0 wb0 := (al _ _).trans (hb0.mono (by simp))
  have B0 : Below w.heap.size w wb0 := ha0.trans (hb0.mono ha0.size)
  clear hs0 ha0 hb0
  go_wp2_with fail
  refine (some_any _).mono ?_
  rintro e wa1 ⟨⟨vs1, rfl, hs1⟩, ha1⟩
  go_wp2_with fail
  refine (close_five vs1 _ [0, 2] [true, true, true, true, true] (hs1.below (al _ _)) (RowAt.lit _ 3 (intsV [0, 2]) (by decide)) (by decide) (by decide +kernel)).mono ?_
  rintro e wb1 ⟨⟨u1, rfl, r1⟩, hb1⟩
  have hb1 : Below wa1.heap.size wa1 wb1 := (al _ _).trans (hb1.mono (by simp))
  have bb1 : Below wb0.heap.size wb0 wb1 := ha1.trans (hb1.mono ha1.size)
  have r0 := r0.below bb1
  have B1 := B0.trans (bb1.mono B0.size)
  clear bb1 B0
  clear hs1 ha1 hb1
  go_wp2_with fail
  refine (some_any _).mono ?_
  rintro e wa2 ⟨⟨vs2, rfl, hs2⟩, ha2⟩
  go_wp2_with fail
  refine (close_five vs2 _ [1, 3] [false, true, false, true, true] (hs2.below (al _ _)) (RowAt.lit _ 3 (intsV [1, 3]) (by decide)) (by decide) (by decide +kernel)).mono ?_
  rintro e wb2 ⟨⟨u2, rfl, r2⟩, hb2⟩
  have hb2 : Below wa2.heap.size wa2 wb2 := (al _ _).trans (hb2.mono (by simp))
  have bb2 : Below wb1.heap.size wb1 wb2 := ha2.trans (hb2.mono ha2.size)
  have r0 := r0.below bb2
  have r1 := r1.below bb2
  have B2 := B1.trans (bb2.mono B1.size)
  clear bb2 B1
  clear hs2 ha2 hb2
  go_wp2_with fail
  refine (boolsT_below u0 _ [false, false, true, false, false] [false, false, true, false, false] _ (r0.below (al _ _)) (RowAt.lit _ 4 (bools [false, false, true, false, false]) (by decide))).mono ?_
  rintro e wc0 ⟨rfl, b5⟩
  have b5 : Below wb2.heap.size wb2 wc0 := (al _ _).trans (b5.mono (by simp))
  have r1 := r1.below b5
  have r2 := r2.below b5
  have B3 := B2.trans (b5.mono B2.size)
  clear b5 B2
  go_wp2_with fail
  refine (boolsT_below u1 _ [true, true, true, true, true] [true, true, true, true, true] _ (r1.below (al _ _)) (RowAt.lit _ 4 (bools [true, true, true, true, true]) (by decide))).mono ?_
  rintro e wc1 ⟨rfl, b5⟩
  have b5 : Below wc0.heap.size wc0 wc1 := (al _ _).trans (b5.mono (by simp))
  have r2 := r2.below b5
  have B4 := B3.trans (b5.mono B3.size)
  clear b5 B3
  go_wp2_with fail
  refine (boolsT_below u2 _ [false, true, false, true, true] [false, true, false, true, true] _ (r2.below (al _ _)) (RowAt.lit _ 4 (bools [false, true, false, true, true]) (by decide))).mono ?_
  rintro e wc2 ⟨rfl, b5⟩
  have b5 : Below wc1.heap.size wc1 wc2 := (al _ _).trans (b5.mono (by simp))
  have B5 := B4.trans (b5.mono B4.size)
  clear b5 B4
  go_wp2
  go_ret
  exact ⟨rfl, B5⟩

end Go.Proofs.Ytffgechbmhgndaa
