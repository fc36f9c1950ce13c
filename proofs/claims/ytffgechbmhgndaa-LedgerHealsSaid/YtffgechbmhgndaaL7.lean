/- The chapter's examples stand. -/
import Derived.Test.YtffgechbmhgndaaL6
set_option linter.unusedVariables false
set_option linter.unusedSimpArgs false
namespace Go.Proofs.Ytffgechbmhgndaa
open Go.RowKit

theorem RowAt.ofBools {w : World} {base : Nat} {v : Value} {l m : List Bool} (h : w.ownsRow base 4 1 v l.length (bools l)) (e : l = m) : RowAt w v (Ytffgechbmhgndaa.bools m) := by subst e; exact RowAt.of_own h

theorem bools_below (va vb : Value) (a b : List Bool) (w : World) (ha : RowAt w va (bools a)) (hb : RowAt w vb (bools b)) :
    Calls Try.prog 21 #[va, vb] w fun r w' => r = .returned (.bool (decide (a = b))) ∧ Below w.heap.size w w' :=
  (bools_any va vb a b w ha hb).mono fun _ _ ⟨he, n, hw⟩ => ⟨he, hw ▸ ⟨rfl, rfl, rfl, Nat.le_refl _, fun _ _ => rfl⟩⟩

set_option maxRecDepth 100000 in
set_option maxHeartbeats 1000000 in
theorem awake_any (w : World) : Calls Try.prog 12 #[] w fun r w' => r = .returned (.bool true) ∧ Below w.heap.size w w' := by
  go_enter Try.func12, Try.ntmps12
  go_wp2_with fail
  refine (leaks_any _ [5, 1, 1] _ (by decide) (RowAt.lit _ _ (intsV [5, 1, 1]) (by decide))).mono ?_
  rintro e w1 ⟨v1, rfl, o1, b1⟩
  have r1 := RowAt.ofBools o1 (m := [true, true]) (by decide)
  have B1 : Below w.heap.size w w1 := ((Below.refl _ _).alloc (Nat.le_refl _) _).trans (b1.mono (by simp))
  clear o1 b1
  go_wp2_with fail
  refine (leaks_any _ [1, 2, 5, 1, 3, 1] _ (by decide) (RowAt.lit _ _ (intsV [1, 2, 5, 1, 3, 1]) (by decide))).mono ?_
  rintro e w2 ⟨v2, rfl, o2, b2⟩
  have r2 := RowAt.ofBools o2 (m := [false, true, false]) (by decide)
  have b12 : Below w1.heap.size w1 w2 := ((Below.refl _ _).alloc (Nat.le_refl _) _).trans (b2.mono (by simp))
  have r1 := r1.below b12
  have B2 := B1.trans (b12.mono B1.size)
  clear o2 b2 b12 B1
  go_wp2_with fail
  refine (leaks_any _ [4, 1] _ (by decide) (RowAt.lit _ _ (intsV [4, 1]) (by decide))).mono ?_
  rintro e w3 ⟨v3, rfl, o3, b3⟩
  have r3 := RowAt.ofBools o3 (m := [false]) (by decide)
  have b12 : Below w2.heap.size w2 w3 := ((Below.refl _ _).alloc (Nat.le_refl _) _).trans (b3.mono (by simp))
  have r1 := r1.below b12
  have r2 := r2.below b12
  have B3 := B2.trans (b12.mono B2.size)
  clear o3 b3 b12 B2
  go_wp2_with fail
  refine (leaks_any _ [1, 2, 5] _ (by decide) (RowAt.lit _ _ (intsV [1, 2, 5]) (by decide))).mono ?_
  rintro e w4 ⟨v4, rfl, o4, b4⟩
  have r4 := RowAt.ofBools o4 (m := [false]) (by decide)
  have b12 : Below w3.heap.size w3 w4 := ((Below.refl _ _).alloc (Nat.le_refl _) _).trans (b4.mono (by simp))
  have r1 := r1.below b12
  have r2 := r2.below b12
  have r3 := r3.below b12
  have B4 := B3.trans (b12.mono B3.size)
  clear o4 b4 b12 B3
  have al := fun (w : World) o => (Below.refl w.heap.size w).alloc (Nat.le_refl _) o
  go_wp2_with fail
  refine (bools_below v1 _ [true, true] [true, true] _ (r1.below (al _ _)) (RowAt.lit _ _ (bools [true, true]) (by decide))).mono ?_
  rintro e w5 ⟨rfl, b5⟩
  have b5 : Below w4.heap.size w4 w5 := (al _ _).trans (b5.mono (by simp))
  have r2 := r2.below b5
  have r3 := r3.below b5
  have r4 := r4.below b5
  have B5 := B4.trans (b5.mono B4.size)
  clear b5 B4
  go_wp2_with fail
  refine (bools_below v2 _ [false, true, false] [false, true, false] _ (r2.below (al _ _)) (RowAt.lit _ _ (bools [false, true, false]) (by decide))).mono ?_
  rintro e w6 ⟨rfl, b5⟩
  have b5 : Below w5.heap.size w5 w6 := (al _ _).trans (b5.mono (by simp))
  have r3 := r3.below b5
  have r4 := r4.below b5
  have B6 := B5.trans (b5.mono B5.size)
  clear b5 B5
  go_wp2_with fail
  refine (bools_below v3 _ [false] [false] _ (r3.below (al _ _)) (RowAt.lit _ _ (bools [false]) (by decide))).mono ?_
  rintro e w7 ⟨rfl, b5⟩
  have b5 : Below w6.heap.size w6 w7 := (al _ _).trans (b5.mono (by simp))
  have r4 := r4.below b5
  have B7 := B6.trans (b5.mono B6.size)
  clear b5 B6
  go_wp2_with fail
  refine (bools_below v4 _ [false] [false] _ (r4.below (al _ _)) (RowAt.lit _ _ (bools [false]) (by decide))).mono ?_
  rintro e w8 ⟨rfl, b5⟩
  have b5 : Below w7.heap.size w7 w8 := (al _ _).trans (b5.mono (by simp))
  have B8 := B7.trans (b5.mono B7.size)
  clear b5 B7
  go_wp2
  go_ret
  exact ⟨rfl, B8⟩

end Go.Proofs.Ytffgechbmhgndaa
