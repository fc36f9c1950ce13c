/- The reference's Right and key. -/
import Derived.Test.YtffgechbmhgndaaT2
import Derived.Test.YtffgechbmhgndaaT4
set_option linter.unusedVariables false
set_option linter.unusedSimpArgs false
namespace Go.Proofs.Ytffgechbmhgndaa
open Go.RowKit

theorem TermsAt.form' {w : World} {v : Value} {l : List Tm} (h : TermsAt w v l) : ∃ A c, v = .slice A l.length c ∧ l.length ≤ c ∧ l.length ≤ 9223372036854775807 := RowsAt.form h

set_option maxRecDepth 100000 in
set_option maxHeartbeats 4000000 in
theorem rright_any (v : Value) (l : List Tm) (w : World) (hv : TermsAt w v l) :
    Calls Try.prog 20 #[v] w fun r w' => r = .returned (.int .i64 (Ts.right l)) ∧ Below w.heap.size w w' := by
  have HV := Lib.hid hv
  obtain ⟨A, c, rfl, hc, hm⟩ := RowsAt.form hv
  clear hv
  by_cases h200 : 200 < l.length
  · have e : Ts.right l = 2 := by simp [Ts.right, h200]
    rw [e]
    clear e
    go_enter Try.func20, Try.ntmps20
    go_wp2
    go_ret
    exact ⟨rfl, Below.refl _ _⟩
  · have HE := Lib.hid (show Ts.right l = if Ts.badIn l = true then 51 else 0 by simp [Ts.right, h200])
    go_enter Try.func20, Try.ntmps20
    go_wp2
    go_loopw [3, 4] (fun i' _ wr => ∃ k : Nat, k ≤ l.length ∧ i' = .int .i64 k ∧ Below w.heap.size w wr ∧ ((List.range k).any fun i => Ts.bad i (Ts.tm l i)) = false) (fun i' _ _ => l.length - (intOf i').toNat)
    case atStart => exact ⟨0, Nat.zero_le _, rfl, Below.refl _ _, rfl⟩
    case round =>
      obtain ⟨k, hk, rfl, hb, hall⟩ := hrel
      have HA := Lib.hid hall; clear hall
      have hsz := hb.size
      by_cases hlt : k < l.length
      · obtain ⟨g, off, rfl, hg, x1, x2, x3⟩ := (HV.out.below hb).at k hlt
        have HB := Lib.hid (fun (h : Ts.bad k (Ts.tm l k) = true) => Ts.badIn_at hlt h)
        have HN := Lib.hid (fun (h : Ts.bad k (Ts.tm l k) = false) => Ts.bad_next HA.out h)
        generalize Ts.tm l k = t at *
        have HW := Lib.hid (hb.alloc hsz (.cells #[.int .i64 t.op, .int .i64 t.a, .int .i64 t.b] 61))
        have hcases : (Ts.bad k t = true ∧ (t.op < 0 ∨ 6 < t.op)) ∨ (0 ≤ t.op ∧ t.op ≤ 6 ∧ ((t.op = 0 ∧ Ts.bad k t = false) ∨ (0 < t.op ∧ ((t.a < 0 ∧ Ts.bad k t = true) ∨ (0 ≤ t.a ∧ (k : Int) ≤ t.a ∧ Ts.bad k t = true) ∨
            (0 ≤ t.a ∧ t.a < k ∧ (((t.op = 2 ∨ t.op = 3) ∧ Ts.bad k t = false) ∨ ((t.op = 1 ∨ 3 < t.op) ∧ ((t.b < 0 ∧ Ts.bad k t = true) ∨ (0 ≤ t.b ∧ (k : Int) ≤ t.b ∧ Ts.bad k t = true) ∨ (0 ≤ t.b ∧ t.b < k ∧ Ts.bad k t = false))))))))) := by
          unfold Ts.bad Ts.uses
          by_cases o1 : t.op < 0
          · left; simp [o1]
          by_cases o2 : 6 < t.op
          · left; simp [o2]
          right
          refine ⟨by omega, by omega, ?_⟩
          by_cases o3 : t.op = 0
          · left; simp [o3]
          right
          refine ⟨by omega, ?_⟩
          by_cases a1 : t.a < 0
          · left; refine ⟨a1, ?_⟩; rw [if_neg o3]; split <;> simp [a1]
          right
          by_cases a2 : (k : Int) ≤ t.a
          · left; refine ⟨by omega, a2, ?_⟩; rw [if_neg o3]; split <;> simp [a2]
          right
          refine ⟨by omega, by omega, ?_⟩
          have a2' : ¬ (k : Int) ≤ t.a := a2
          by_cases o4 : t.op = 2 ∨ t.op = 3
          · left; refine ⟨o4, ?_⟩; rw [if_neg o3, if_pos o4]; simp [a1, o1, o2]; omega
          right
          refine ⟨by omega, ?_⟩
          by_cases b1 : t.b < 0
          · left; refine ⟨b1, ?_⟩; rw [if_neg o3, if_neg o4]; simp [b1]
          right
          by_cases b2 : (k : Int) ≤ t.b
          · left; refine ⟨by omega, b2, ?_⟩; rw [if_neg o3, if_neg o4]; simp [b2]
          right
          refine ⟨by omega, by omega, ?_⟩
          rw [if_neg o3, if_neg o4]; simp [a1, b1, o1, o2]; omega
        rcases hcases with ⟨hbad, h1⟩ | ⟨o1, o2, hcases⟩
        · have HX := Lib.hid (HB.out hbad)
          clear hbad
          rcases h1 with h1 | h1
          · go_wp2
            go_ret
            exact ⟨ret_int' (by rw [HE.out, if_pos HX.out]), HW.out⟩
          · have h1' : decide (t.op < 0) = false := by simp; omega
            go_wp2
            go_ret
            exact ⟨ret_int' (by rw [HE.out, if_pos HX.out]), HW.out⟩
        · have o1' : decide (t.op < 0) = false := by simp; omega
          have o2' : decide (6 < t.op) = false := by simp; omega
          rcases hcases with ⟨o3, hbad⟩ | ⟨o3, hcases⟩
          · have HX := Lib.hid (HN.out hbad)
            have p1 : decide (0 < t.op) = false := by simp; omega
            have p2 : (t.op == 1) = false := by simp; omega
            have p3 : decide (3 < t.op) = false := by simp; omega
            clear hbad o3
            go_wp2
            go_roundw
            case rel => exact ⟨k + 1, hlt, by go_num, HW.out, HX.out⟩
            case measure => simp [intOf]; omega
          · have p1 : decide (0 < t.op) = true := by simp; omega
            rcases hcases with ⟨a1, hbad⟩ | ⟨a1, a2, hbad⟩ | ⟨a1, a2, hcases⟩
            · have HX := Lib.hid (HB.out hbad)
              clear hbad
              go_wp2
              go_ret
              exact ⟨ret_int' (by rw [HE.out, if_pos HX.out]), HW.out⟩
            · have HX := Lib.hid (HB.out hbad)
              have a1' : decide (t.a < 0) = false := by simp; omega
              clear hbad
              go_wp2
              go_ret
              exact ⟨ret_int' (by rw [HE.out, if_pos HX.out]), HW.out⟩
            · have a1' : decide (t.a < 0) = false := by simp; omega
              have a2' : decide ((k : Int) ≤ t.a) = false := by simp; omega
              rcases hcases with ⟨o4, hbad⟩ | ⟨o4, hcases⟩
              · have HX := Lib.hid (HN.out hbad)
                have p2 : (t.op == 1) = false := by simp; omega
                have p3 : decide (3 < t.op) = false := by simp; omega
                clear hbad o4
                go_wp2
                go_roundw
                case rel => exact ⟨k + 1, hlt, by go_num, HW.out, HX.out⟩
                case measure => simp [intOf]; omega
              · by_cases o5 : t.op = 1
                all_goals
                  first
                    | (have p2 : (t.op == 1) = true := by simp [o5])
                    | (have p2 : (t.op == 1) = false := by simp [o5]
                       have p3 : decide (3 < t.op) = true := by simp; omega)
                  clear o4 o5
                  rcases hcases with ⟨b1, hbad⟩ | ⟨b1, b2, hbad⟩ | ⟨b1, b2, hbad⟩
                  · have HX := Lib.hid (HB.out hbad)
                    clear hbad
                    go_wp2
                    go_ret
                    exact ⟨ret_int' (by rw [HE.out, if_pos HX.out]), HW.out⟩
                  · have HX := Lib.hid (HB.out hbad)
                    have b1' : decide (t.b < 0) = false := by simp; omega
                    clear hbad
                    go_wp2
                    go_ret
                    exact ⟨ret_int' (by rw [HE.out, if_pos HX.out]), HW.out⟩
                  · have HX := Lib.hid (HN.out hbad)
                    have b1' : decide (t.b < 0) = false := by simp; omega
                    have b2' : decide ((k : Int) ≤ t.b) = false := by simp; omega
                    clear hbad
                    go_wp2
                    go_roundw
                    case rel => exact ⟨k + 1, hlt, by go_num, HW.out, HX.out⟩
                    case measure => simp [intOf]; omega
      · have HX := Lib.hid (show Ts.badIn l = false by have := HA.out; rw [show k = l.length by omega] at this; exact this)
        go_wp2
        go_ret
        exact ⟨ret_int' (by rw [HE.out, HX.out]; rfl), hb⟩

end Go.Proofs.Ytffgechbmhgndaa
