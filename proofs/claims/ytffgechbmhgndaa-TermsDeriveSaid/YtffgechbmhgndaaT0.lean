/- Bools of the reference. -/
import Derived.Test.YtffgechbmhgndaaT1
set_option linter.unusedVariables false
set_option linter.unusedSimpArgs false
namespace Go.Proofs.Ytffgechbmhgndaa
open Go.RowKit

set_option maxRecDepth 100000 in
set_option maxHeartbeats 1000000 in
theorem boolsT_any (va vb : Value) (a b : List Bool) (w : World) (ha : RowAt w va (bools a)) (hb : RowAt w vb (bools b)) :
    Calls Try.prog 21 #[va, vb] w fun r w' => r = .returned (.bool (decide (a = b))) ∧ ∃ n, w' = w.drewN n := by
  have hla := bools_length a
  have hlb := bools_length b
  have HA := Lib.hid ha
  have HB := Lib.hid hb
  obtain ⟨A, ca, rfl, hca⟩ := ha.form
  obtain ⟨B, cb, rfl, hcb⟩ := hb.form
  obtain ⟨_, _, _, _, hma, _⟩ := ha
  rw [hla] at hca hma
  rw [hlb] at hcb
  clear hb
  by_cases hne : a.length = b.length
  · have hneq : ((a.length : Int) != b.length) = false := by simp [hne]
    rw [hla, hlb]
    have HN := Lib.hid hne; have HLA := Lib.hid hla; have HLB := Lib.hid hlb; clear hne hla hlb
    go_enter Try.func21, Try.ntmps21
    go_wp2
    go_loopw [5] (fun i wr => ∃ k : Nat, k ≤ a.length ∧ i = .int .i64 k ∧ a.take k = b.take k ∧ ∃ n, wr = w.drewN n) (fun i _ => a.length - (intOf i).toNat)
    case atStart => exact ⟨0, Nat.zero_le _, rfl, rfl, 0, rfl⟩
    case round =>
      obtain ⟨k, hk, rfl, htk, nd, rfl⟩ := hrel
      have HT := Lib.hid htk; clear htk
      by_cases hlt : k < a.length
      · have hltb : k < b.length := by have := HN.out; omega
        obtain ⟨g, off, c, he, _, hg, hx⟩ := HA.out.cell (by rw [HLA.out]; omega)
        obtain ⟨g2, off2, c2, he2, _, hg2, hx2⟩ := HB.out.cell (by rw [HLB.out]; omega)
        simp only [Value.slice.injEq, true_and] at he he2
        obtain ⟨rfl, rfl⟩ := he
        obtain ⟨rfl, rfl⟩ := he2
        have x1 := hx k _ (bools_get a k hlt)
        have x2 := hx2 k _ (bools_get b k hltb)
        clear hx hx2
        have hab : ∀ x y, a[k] = x → b[k] = y → x = y → a.take (k + 1) = b.take (k + 1) := by
          intro x y h1 h2 h3
          rw [List.take_succ_eq_append_getElem hlt, List.take_succ_eq_append_getElem hltb, HT.out, h1, h2, h3]
        have hab2 : ∀ x y, a[k] = x → b[k] = y → x ≠ y → decide (a = b) = false := by
          intro x y h1 h2 h3
          simp only [decide_eq_false_iff_not]
          rintro rfl
          exact h3 (h1.symm.trans h2)
        have H1 := Lib.hid hab; have H2 := Lib.hid hab2; clear hab hab2
        cases hxa : a[k] <;> cases hxb : b[k]
        all_goals
          rw [hxa] at x1
          rw [hxb] at x2
          have HXA := Lib.hid hxa; have HXB := Lib.hid hxb; clear hxa hxb
          go_wp2
          go_quiet (fail)
          go_wp2
          first
            | (go_ret; exact ⟨ret_bool' (H2.out _ _ HXA.out HXB.out (by decide)).symm, _, World.drewN_drewN _ _ _⟩)
            | (go_roundw
               case rel => exact ⟨k + 1, hlt, by go_num, H1.out _ _ HXA.out HXB.out rfl, _, rfl⟩
               case measure => simp [intOf]; omega)
      · go_wp2
        go_ret
        refine ⟨ret_bool' ?_, _, rfl⟩
        have h1 := HT.out
        have := HN.out
        rw [List.take_of_length_le (by omega), List.take_of_length_le (by omega)] at h1
        simp [h1]
  · have hneq : ((a.length : Int) != b.length) = true := by simp; omega
    have e : decide (a = b) = false := by simp only [decide_eq_false_iff_not]; rintro rfl; exact hne rfl
    rw [hla, hlb, e]
    clear hla hlb hne e
    go_enter Try.func21, Try.ntmps21
    go_wp2
    go_ret
    exact ⟨rfl, 0, rfl⟩


theorem boolsT_below (va vb : Value) (a b : List Bool) (w : World) (ha : RowAt w va (bools a)) (hb : RowAt w vb (bools b)) :
    Calls Try.prog 21 #[va, vb] w fun r w' => r = .returned (.bool (decide (a = b))) ∧ Below w.heap.size w w' :=
  (boolsT_any va vb a b w ha hb).mono fun _ _ ⟨he, n, hw⟩ => ⟨he, hw ▸ ⟨rfl, rfl, rfl, Nat.le_refl _, fun _ _ => rfl⟩⟩

end Go.Proofs.Ytffgechbmhgndaa
