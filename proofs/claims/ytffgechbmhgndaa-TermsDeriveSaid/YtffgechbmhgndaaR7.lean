/- TermsClose: the walk. -/
import Derived.Test.YtffgechbmhgndaaR5
import Derived.Test.YtffgechbmhgndaaR6
import Derived.Test.YtffgechbmhgndaaT10
set_option linter.unusedVariables false
set_option linter.unusedSimpArgs false
namespace Go.Proofs.Ytffgechbmhgndaa
open Go.RowKit

theorem rcloseF_any {w : World} {l : List Tm} (vl v : Value) (known : List Int) (hl : TermsAt w vl l) (hk : RowAt w v (intsV known)) :
    Calls Try.prog 18 #[vl, v] w fun r w' => (∃ u, r = .returned (.tuple #[u, .int .i64 (Ts.closeF l known).1]) ∧ RowAt w' u (bools (Ts.closeF l known).2)) ∧ Below w.heap.size w w' := by
  have h : Calls Try.prog 18 #[vl, v] w (RCloseRes w l known) := by
    by_cases hr : Ts.right l = 0
    · exact rclose_ok vl v known hl hr hk
    · exact rclose_bad vl v known hl hr
  refine h.mono ?_
  intro r w' h
  cases h with
  | shape _ h1 h2 =>
    have e : Ts.closeF l known = (Ts.right l, []) := by unfold Ts.closeF; rw [if_pos h1]
    rw [e]
    exact ⟨⟨_, rfl, RowAt.nilB _⟩, h2⟩
  | arg _ h1 h2 h3 =>
    have e : Ts.closeF l known = (1, []) := by unfold Ts.closeF; rw [if_neg (by simpa using h1), if_neg h2]
    rw [e]
    exact ⟨⟨_, rfl, RowAt.nilB _⟩, h3⟩
  | ok u _ h1 h2 h3 h4 =>
    have e : Ts.closeF l known = (0, Ts.rclose l known) := by
      unfold Ts.closeF
      rw [if_neg (by simpa using h1), if_pos h2, Ts.close_same (Ts.right_zero h1).2 h2]
    rw [e]
    exact ⟨⟨u, rfl, h3⟩, h4⟩

set_option maxRecDepth 100000 in
set_option maxHeartbeats 4000000 in
theorem tclose_any (vl vk : Value) (l : List Tm) (known : List Int) (w : World) (hl : TermsAt w vl l) (hk : RowAt w vk (intsV known)) (hn : l.length * 24 ≤ 140737488355328) :
    Calls Try.prog 6 #[vl, vk] w fun r w' => r = .returned (.bool true) ∧ Below w.heap.size w w' := by
  have HL := Lib.hid hl
  obtain ⟨A, c, rfl, hc, hm1⟩ := RowsAt.form hl
  obtain ⟨B, d, hkv, hd, hm2, _⟩ := id hk
  rw [intsV_length] at hkv hd hm2
  subst hkv
  have HK := Lib.hid hk
  clear hl hk
  by_cases hA : 30 < l.length ∧ l.length ≤ 200
  · obtain ⟨a1, a2⟩ := hA
    have a1' : decide ((30 : Int) < (l.length : Int)) = true := by simp; omega
    have a2' : decide ((l.length : Int) ≤ 200) = true := by simp; omega
    go_enter Try.func6, Try.ntmps6
    go_wp2_with fail
    refine (awakeT_any _).mono ?_
    rintro e w1 ⟨rfl, hb1⟩
    go_wp2
    go_ret
    exact ⟨rfl, hb1⟩
  by_cases hB : 20 < known.length
  · have b1' : decide ((20 : Int) < (known.length : Int)) = true := by simp; omega
    by_cases h30 : 30 < l.length
    · have a1' : decide ((30 : Int) < (l.length : Int)) = true := by simp; omega
      have a2' : decide ((l.length : Int) ≤ 200) = false := by simp; omega
      clear hA
      go_enter Try.func6, Try.ntmps6
      go_wp2_with fail
      refine (awakeT_any _).mono ?_
      rintro e w1 ⟨rfl, hb1⟩
      go_wp2
      go_ret
      exact ⟨rfl, hb1⟩
    · have a1' : decide ((30 : Int) < (l.length : Int)) = false := by simp; omega
      clear hA
      go_enter Try.func6, Try.ntmps6
      go_wp2_with fail
      refine (awakeT_any _).mono ?_
      rintro e w1 ⟨rfl, hb1⟩
      go_wp2
      go_ret
      exact ⟨rfl, hb1⟩
  have b1' : decide ((20 : Int) < (known.length : Int)) = false := by simp; omega
  have hcase : (decide ((30 : Int) < (l.length : Int)) = false) ∨ (decide ((30 : Int) < (l.length : Int)) = true ∧ decide ((l.length : Int) ≤ 200) = false) := by
    by_cases h30 : 30 < l.length
    · exact .inr ⟨by simp; omega, by simp; omega⟩
    · exact .inl (by simp; omega)
  clear hA hB
  rcases hcase with a1' | ⟨a1', a2'⟩
  all_goals
    go_enter Try.func6, Try.ntmps6
    go_wp2_with fail
    refine (awakeT_any _).mono ?_
    rintro e w1 ⟨rfl, hb1⟩
    have HB1 := Lib.hid hb1
    have HC := Lib.hid (right_any _ l w1 (HL.out.below HB1.out))
    clear hb1
    go_wp2_with fail
    refine HC.out.mono ?_
    rintro e w2 ⟨rfl, hb2⟩
    have HB2 := Lib.hid (HB1.out.trans (hb2.mono HB1.out.size))
    clear hb2 HC
    have HC := Lib.hid (closeF_any _ _ known (HL.out.below HB2.out) (HK.out.below HB2.out))
    generalize hce : Ts.closeF l known = ce at HC
    have HCE := Lib.hid hce
    clear hce
    go_wp2_with fail
    refine HC.out.mono ?_
    rintro e w3 ⟨⟨ua, rfl, hua⟩, hb3⟩
    have HUA := Lib.hid hua
    have HB3 := Lib.hid (HB2.out.trans (hb3.mono HB2.out.size))
    clear hb3 hua HC
    have HC := Lib.hid (doc_any _ l w3 (HL.out.below HB3.out) hn)
    go_wp2_with fail
    refine HC.out.mono ?_
    rintro e w4 ⟨⟨ud, rfl, hud⟩, hb4⟩
    have HUA4 := Lib.hid (HUA.out.below hb4)
    have HB4 := Lib.hid (HB3.out.trans (hb4.mono HB3.out.size))
    have HC2 := Lib.hid (rcloseF_any ud _ known hud (HK.out.below HB4.out))
    clear hb4 HC HUA hud
    rw [HCE.out] at HC2
    go_wp2_with fail
    refine HC2.out.mono ?_
    rintro e w5 ⟨⟨ub, rfl, hub⟩, hb5⟩
    have HUA5 := Lib.hid (HUA4.out.below hb5)
    have HUB5 := Lib.hid hub
    have HB5 := Lib.hid (HB4.out.trans (hb5.mono HB4.out.size))
    have HC := Lib.hid (doc_any _ l w5 (HL.out.below HB5.out) hn)
    clear hb5 HC2 HUA4 hub
    go_wp2_with fail
    refine HC.out.mono ?_
    rintro e w6 ⟨⟨ud6, rfl, hud⟩, hb6⟩
    have HUA6 := Lib.hid (HUA5.out.below hb6)
    have HUB6 := Lib.hid (HUB5.out.below hb6)
    have HB6 := Lib.hid (HB5.out.trans (hb6.mono HB5.out.size))
    have HC2 := Lib.hid (rright_any ud6 l w6 hud)
    clear hb6 HC HUA5 HUB5 hud
    go_wp2_with fail
    refine HC2.out.mono ?_
    rintro e w7 ⟨rfl, hb7⟩
    have HUA7 := Lib.hid (HUA6.out.below hb7)
    have HUB7 := Lib.hid (HUB6.out.below hb7)
    have HB7 := Lib.hid (HB6.out.trans (hb7.mono HB6.out.size))
    have HC := Lib.hid (boolsT_below ua ub ce.2 ce.2 w7 HUA7.out HUB7.out)
    have er : (Ts.right l == Ts.right l) = true := by simp
    have ec : (ce.1 == ce.1) = true := by simp
    clear hb7 HC2 HUA6 HUB6
    go_wp2_with fail
    refine HC.out.mono ?_
    rintro e w8 ⟨rfl, hb8⟩
    have HB8 := Lib.hid (HB7.out.trans (hb8.mono HB7.out.size))
    go_wp2
    go_ret
    exact ⟨by simp, HB8.out⟩

end Go.Proofs.Ytffgechbmhgndaa
