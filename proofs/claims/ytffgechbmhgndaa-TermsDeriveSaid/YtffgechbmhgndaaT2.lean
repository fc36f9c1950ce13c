/- What Right of package terms tells: the loop. -/
import Derived.Test.YtffgechbmhgndaaT1
set_option linter.unusedVariables false
set_option linter.unusedSimpArgs false
namespace Go.Proofs.Ytffgechbmhgndaa
open Go.RowKit

namespace Ts
theorem badIn_at {l : List Tm} {k : Nat} (hk : k < l.length) (h : bad k (tm l k) = true) : badIn l = true := by
  unfold badIn; rw [List.any_eq_true]; exact ⟨k, by simpa using hk, h⟩
theorem bad_next {l : List Tm} {k : Nat} (h : ((List.range k).any fun i => bad i (tm l i)) = false) (h2 : bad k (tm l k) = false) : ((List.range (k + 1)).any fun i => bad i (tm l i)) = false := by
  rw [List.range_succ, List.any_append, h]; simpa using h2
end Ts

set_option maxRecDepth 100000 in
set_option maxHeartbeats 1000000 in
theorem right_any (v : Value) (l : List Tm) (w : World) (hv : TermsAt w v l) :
    Calls Try.prog 16 #[v] w fun r w' => r = .returned (.int .i64 (Ts.right l)) ∧ Below w.heap.size w w' := by
  have HV := Lib.hid hv
  obtain ⟨A, c, rfl, hc, hm⟩ := RowsAt.form hv
  clear hv
  by_cases h200 : 200 < l.length
  · have e : Ts.right l = 2 := by simp [Ts.right, h200]
    rw [e]
    clear e
    go_enter Try.func16, Try.ntmps16
    go_wp2
    go_ret
    exact ⟨rfl, Below.refl _ _⟩
  · have HE := Lib.hid (show Ts.right l = if Ts.badIn l = true then 51 else 0 by simp [Ts.right, h200])
    go_enter Try.func16, Try.ntmps16
    go_wp2
    go_loopw [3, 4, 5, 11] (fun _ _ _ i' wr => ∃ k : Nat, k ≤ l.length ∧ i' = .int .i64 k ∧ Below w.heap.size w wr ∧ ((List.range k).any fun i => Ts.bad i (Ts.tm l i)) = false) (fun _ _ _ i' _ => l.length - (intOf i').toNat)
    case atStart => exact ⟨0, Nat.zero_le _, rfl, Below.refl _ _, rfl⟩
    case round =>
      obtain ⟨k, hk, rfl, hb, hall⟩ := hrel
      have HA := Lib.hid hall; clear hall
      have hsz := hb.size
      by_cases hlt : k < l.length
      · obtain ⟨g, off, rfl, hg, x1, x2, x3⟩ := (HV.out.below hb).at k hlt
        have HB := Lib.hid (fun (h : Ts.bad k (Ts.tm l k) = true) => Ts.badIn_at hlt h)
        have HN := Lib.hid (fun (h : Ts.bad k (Ts.tm l k) = false) => Ts.bad_next HA.out h)
        generalize Ts.tm l k = t at *
        have hW : Below w.heap.size w ((wr.alloc (.cells #[.int .i64 k] 3)).alloc (.cells #[.int .i64 t.op, .int .i64 t.a, .int .i64 t.b] 60)) := (hb.alloc hsz _).alloc (by simp; omega) _
        have HW := Lib.hid hW; clear hW
        by_cases h1 : t.op < 0
        · have HX := Lib.hid (HB.out (by simp [Ts.bad, h1]))
          go_wp2
          go_ret
          exact ⟨ret_int' (by rw [HE.out, if_pos HX.out]), HW.out⟩
        · by_cases h2 : 6 < t.op
          · have HX := Lib.hid (HB.out (by simp [Ts.bad, h2]))
            have h1' : decide (t.op < 0) = false := by simp; omega
            go_wp2
            go_ret
            exact ⟨ret_int' (by rw [HE.out, if_pos HX.out]), HW.out⟩
          · have hbad : Ts.bad k t = (Ts.uses t).any fun n => decide (n < 0) || decide ((k : Int) ≤ n) := by simp [Ts.bad, h1, h2]
            have HBad := Lib.hid hbad; clear hbad
            have h1' : decide (t.op < 0) = false := by simp; omega
            have h2' : decide (6 < t.op) = false := by simp; omega
            go_wp2_with fail
            refine (uses_any t _).mono ?_
            rintro e w1 ⟨⟨u, rfl, hu⟩, hb1⟩
            have hib : w1.cell? ⟨wr.heap.size, 0, none⟩ = some (.int .i64 k) := (hb1.cell (p := ⟨wr.heap.size, 0, none⟩) (by simp; omega)).trans (by simp)
            have HU := Lib.hid (containsInts_any (Ts.uses t) k wr.heap.size u w1 hu hib)
            have HB1 := Lib.hid (HW.out.trans (hb1.mono HW.out.size))
            clear hu hib hb1
            generalize ((Ts.uses t).any fun n => decide (n < 0) || decide ((k : Int) ≤ n)) = p at *
            cases p
            · go_wp2_with fail
              refine HU.out.mono ?_
              rintro e w2 ⟨rfl, hb2⟩
              go_wp2
              go_roundw
              case rel => exact ⟨k + 1, hlt, by go_num, HB1.out.trans (hb2.mono HB1.out.size), HN.out HBad.out⟩
              case measure => simp [intOf]; omega
            · go_wp2_with fail
              refine HU.out.mono ?_
              rintro e w2 ⟨rfl, hb2⟩
              have HX := Lib.hid (HB.out HBad.out)
              go_wp2
              go_ret
              exact ⟨ret_int' (by rw [HE.out, if_pos HX.out]), HB1.out.trans (hb2.mono HB1.out.size)⟩
      · have HX := Lib.hid (show Ts.badIn l = false by have := HA.out; rw [show k = l.length by omega] at this; exact this)
        go_wp2
        go_ret
        exact ⟨ret_int' (by rw [HE.out, HX.out]; rfl), hb⟩

end Go.Proofs.Ytffgechbmhgndaa
