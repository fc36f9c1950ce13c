/- LedgerSeen: the walk. -/
import Derived.Test.YtffgechbmhgndaaL9
import Derived.Test.YtffgechbmhgndaaP3
set_option linter.unusedVariables false
set_option linter.unusedSimpArgs false
namespace Go.Proofs.Ytffgechbmhgndaa
open Go.RowKit

theorem below_drewN' {B : Nat} {w w1 : World} (h : Below B w w1) (n : Nat) : Below B w (w1.drewN n) := ⟨h.os, h.tape, h.output, h.size, h.block⟩
/-- Two ledgers of the call's own that share nothing. -/
def Own2 (w : World) (bg bh : Nat) (G H : Led) (w' : World) : Prop :=
  ∃ fg fh, LedAt w' bg G fg ∧ LedAt w' bh H fh ∧ (∀ k, k ∈ fg → k ∉ fh) ∧ Below w.heap.size w w' ∧ (∀ k, k ∈ fg → w.heap.size ≤ k) ∧ ∀ k, k ∈ fh → w.heap.size ≤ k
theorem Own2.below {w w1 : World} {bg bh : Nat} {G H : Led} (h : Own2 w bg bh G H w1) : Below w.heap.size w w1 := by obtain ⟨_, _, _, _, _, h, _⟩ := h; exact h
theorem Own2.swap {w w1 : World} {bg bh : Nat} {G H : Led} (h : Own2 w bg bh G H w1) : Own2 w bh bg H G w1 := by
  obtain ⟨fg, fh, h1, h2, h3, h4, h5, h6⟩ := h
  exact ⟨fh, fg, h2, h1, fun k hk hk' => h3 k hk' hk, h4, h6, h5⟩
theorem Own2.later {w w1 w2 : World} {bg bh : Nat} {G H : Led} (h : Own2 w bg bh G H w1) (hb : Below w1.heap.size w1 w2) : Own2 w bg bh G H w2 := by
  obtain ⟨fg, fh, h1, h2, h3, h4, h5, h6⟩ := h
  exact ⟨fg, fh, h1.keep fun k hk => hb.block k (h1.lt k hk), h2.keep fun k hk => hb.block k (h2.lt k hk), h3, h4.trans (hb.mono h4.size), h5, h6⟩
theorem Own2.do_ {w w1 : World} {bg bh : Nat} {G H : Led} (h : Own2 w bg bh G H w1) (ok : G.Ok) (ev : Int) :
    Calls Try.prog 13 #[.pointer (some ⟨bg, 0, none⟩), .int .i64 ev] w1 fun r w' => r = .returned (.int .i64 (G.err ev)) ∧ Own2 w bg bh (G.next ev) H w' := by
  obtain ⟨fg, fh, h1, h2, h3, h4, h5, h6⟩ := h
  refine (do_any h1 ok ev).mono ?_
  rintro r w' ⟨hr, fg', hg, hf, hn⟩
  refine ⟨hr, fg', fh, hg, h2.keep fun k hk => hf.block k (h2.lt k hk) (fun hk' => h3 k hk' hk), ?_, ?_, ?_, h6⟩
  · intro k hk hk'
    rcases hn k hk with hn | hn
    · exact h3 k hn hk'
    · have := h2.lt k hk'; omega
  · exact (Fr.trans (H := fg) (Fr.of_below h4 []) hf (by simp) (fun _ h _ => h)).mono (G := []) (fun k hk hlt => absurd (h5 k hk) (by omega)) |>.below
  · exact fun k hk => (hn k hk).elim (h5 k) fun h => Nat.le_trans h4.size h
theorem Own2.leaked_ {w w1 : World} {bg bh : Nat} {G H : Led} (h : Own2 w bg bh G H w1) (ok : G.Ok) :
    Calls Try.prog 14 #[.pointer (some ⟨bg, 0, none⟩)] w1 fun r w' => ∃ v, r = .returned v ∧ RowAt w' v (bools G.leaked) ∧ Own2 w bg bh G H w' ∧ Below w1.heap.size w1 w' := by
  have h0 := h
  obtain ⟨fg, fh, h1, h2, h3, h4, h5, h6⟩ := h
  refine (leaked_any h1 ok).mono ?_
  rintro r w' ⟨v, hr, ho, hb⟩
  exact ⟨v, hr, RowAt.of_own ho, h0.later hb, hb⟩
theorem Own2.new (w : World) : Own2 w w.heap.size (w.heap.size + 1) Led.zero Led.zero ((w.alloc (.cells #[.slice none 0 0, .int .i64 0, .int .i64 0, .slice none 0 0] 27)).alloc (.cells #[.slice none 0 0, .int .i64 0, .int .i64 0, .slice none 0 0] 27)) := by
  have h1 := LedAt.new w
  have h2 := LedAt.new (w.alloc (.cells #[.slice none 0 0, .int .i64 0, .int .i64 0, .slice none 0 0] 27))
  have e : (w.alloc (.cells #[.slice none 0 0, .int .i64 0, .int .i64 0, .slice none 0 0] 27)).heap.size = w.heap.size + 1 := by simp
  rw [e] at h2
  refine ⟨[w.heap.size], [w.heap.size + 1], h1.keep fun k hk => Below.heap_alloc _ _ _ (by rw [e]; simp at hk; omega), h2, by simp, ((Below.refl _ _).alloc (Nat.le_refl _) _).alloc (by simp) _, by simp, by simp⟩

set_option maxRecDepth 100000 in
set_option maxHeartbeats 4000000 in
theorem seen_any (v : Value) (l : List Int) (n : Int) (sender : Bool) (w : World) (hv : RowAt w v (intsV l)) :
    Calls Try.prog 3 #[v, .int .i64 n, .bool sender] w fun r w' => r = .returned (.bool true) ∧ Below w.heap.size w w' := by
  have HV := Lib.hid hv
  obtain ⟨A, c, rfl, hc⟩ := hv.form
  have hm1 : l.length ≤ 9223372036854775807 := by obtain ⟨_, _, _, _, hm, _⟩ := hv; rwa [intsV_length] at hm
  rw [intsV_length] at hc ⊢
  clear hv
  by_cases h30 : 30 < l.length
  · go_enter Try.func3, Try.ntmps3
    go_wp2_with fail
    refine (awake_any _).mono ?_
    rintro e w1 ⟨rfl, hb1⟩
    go_wp2
    go_ret
    exact ⟨rfl, hb1⟩
  have h30' : decide ((30 : Int) < (l.length : Int)) = false := by simp; omega
  by_cases h0 : n < 0
  · go_enter Try.func3, Try.ntmps3
    go_wp2_with fail
    refine (awake_any _).mono ?_
    rintro e w1 ⟨rfl, hb1⟩
    go_wp2
    go_ret
    exact ⟨rfl, hb1⟩
  have h0' : decide (n < 0) = false := by simp; omega
  by_cases hln : (l.length : Int) < n
  · go_enter Try.func3, Try.ntmps3
    go_wp2_with fail
    refine (awake_any _).mono ?_
    rintro e w1 ⟨rfl, hb1⟩
    go_wp2
    go_ret
    exact ⟨rfl, hb1⟩
  have hln' : decide ((l.length : Int) < n) = false := by simp; omega
  obtain ⟨at_, rfl⟩ : ∃ a : Nat, n = a := ⟨n.toNat, by omega⟩
  have hat : at_ ≤ l.length := by omega
  clear h0
  have hln2 : decide (l.length < at_) = false := by simp; omega
  go_enter Try.func3, Try.ntmps3
  go_wp2_with fail
  refine (awake_any _).mono ?_
  rintro e w1 ⟨rfl, hb1⟩
  have hsz1 := hb1.size
  have HR1 := Lib.hid (HV.out.below hb1)
  clear HV
  go_wp2
  have HN := Lib.hid (Own2.new w1)
  go_loopw [10, 11, 12, 13, 14, 15] (fun gc sb i _ _ _ wr => ∃ (k g : Nat) (s : Bool) (G H : Led), k ≤ l.length + 1 ∧ i = .int .i64 k ∧ gc = .int .i64 g ∧ g ≤ k ∧ sb = .bool s ∧ Own2 w1 w1.heap.size (w1.heap.size + 1) G H wr ∧ Led.Phase l sender (decide (k ≤ at_)) k G H g s) (fun _ _ i _ _ _ _ => l.length + 1 - (intOf i).toNat)
  case atStart => exact ⟨0, 0, false, Led.zero, Led.zero, by omega, rfl, rfl, by omega, rfl, HN.out, by simpa using Led.phase_start l sender⟩
  case round =>
    obtain ⟨k, g, s, G, H, hk, rfl, rfl, hgk, rfl, how, hph⟩ := hrel
    obtain ⟨wo, rfl⟩ : ∃ wo : World, wo = wr := ⟨_, rfl⟩
    have HOW := Lib.hid how; clear how
    by_cases hkl : k ≤ l.length
    · have hmid : ∃ H', Led.Phase l sender (decide (k < at_)) k G H' g s ∧ (k = at_ → H' = H.next (if sender then 4 else 5) ∧ H.Ok) ∧ (k ≠ at_ → H' = H) := by
        by_cases hka : k = at_
        · subst hka
          have hph' : Led.Phase l sender true k G H g s := by simpa using hph
          exact ⟨_, by simpa using Led.phase_look hph' (by omega), fun _ => ⟨rfl, hph'.okH⟩, fun h => absurd rfl h⟩
        · refine ⟨H, ?_, fun h => absurd h hka, fun _ => rfl⟩
          have : decide (k ≤ at_) = decide (k < at_) := by rw [decide_eq_decide]; omega
          rwa [this] at hph
      obtain ⟨H', hmid, hm1, hm2⟩ := hmid
      have HMID := Lib.hid hmid; clear hmid hph
      by_cases hka : k = at_
      · obtain ⟨rfl, hokH⟩ := hm1 hka
        have hkeq : ((k : Int) == at_) = true := by simp [hka]
        have HOKH0 := Lib.hid hokH
        clear hm1 hm2 hka hokH
        cases sender
        · have HMID := HMID
          simp only [Bool.false_eq_true, if_false] at HMID
          go_wp2_with fail
          refine (HOW.out.swap.do_ HOKH0.out 5).mono ?_
          rintro e w2 ⟨rfl, ho2⟩
          have HOW2 := Lib.hid ho2.swap; clear ho2 HOW
          generalize H.next 5 = H' at *
          by_cases hkl2 : k < l.length
          · have hX : ∃ gx off, A = some ⟨gx, off, none⟩ ∧ ∀ w' : World, Below w1.heap.size w1 w' → w'.cell? ⟨gx, off + k, none⟩ = some (.int .i64 l[k]) := by
              obtain ⟨gx, off, e, _, hg, x1⟩ := HR1.out.atInt k hkl2
              exact ⟨gx, off, e, fun w' hb => (hb.cell (p := ⟨gx, off + k, none⟩) hg).trans x1⟩
            obtain ⟨gx, off, rfl, hX⟩ := hX
            have X1 := Lib.hid hX; clear hX
            obtain ⟨he, hph⟩ := Led.phase_event HMID.out hkl2 (by omega)
            have HE := Lib.hid he; have HPH := Lib.hid hph; clear he hph
            have hokG : G.Ok := by rw [HMID.out.g]; exact Led.run_ok _ (by simp; omega)
            have HOKG := Lib.hid hokG; have HOKH := Lib.hid HMID.out.okH; clear hokG HMID
            generalize l[k] = ev at *
            have x1 := X1.out _ HOW2.out.below
            go_wp2_with fail
            refine (HOW2.out.do_ HOKG.out ev).mono ?_
            rintro e w3 ⟨rfl, ho3⟩
            have HO3 := Lib.hid ho3; clear ho3
            have x1 := X1.out _ HO3.out.below
            go_wp2_with fail
            refine (HO3.out.swap.do_ HOKH.out ev).mono ?_
            rintro e w4 ⟨rfl, ho4⟩
            have HO4 := Lib.hid ho4; clear ho4
            have x1 := X1.out _ HO4.out.below
            rw [HE.out]
            have ene : (G.err ev != G.err ev) = false := by simp
            generalize G.err ev = er at *
            clear HOKG HOKH HE X1 HO3
            by_cases hka2 : k < at_
            · have a1 : decide (k < at_) = true := by simp; omega
              by_cases h2 : ev = 2
              · have b1 : (ev == 2) = true := by simp [h2]
                have b2 : (ev == 5) = false := by simp [h2]
                by_cases h00 : er = 0
                · have c1 : (er == 0) = true := by simp [h00]
                  have HP := Lib.hid (show Led.Phase l _ (decide (k + 1 ≤ at_)) (k + 1) (G.next ev) (H'.next ev) (g + 1) s by have := HPH.out; simpa [show k + 1 ≤ at_ from hka2, hka2, h2, h00] using this)
                  clear HPH h2 h00 hka2
                  cases s
                  all_goals
                    go_wp2
                    go_roundw
                    case rel => exact ⟨k + 1, g + 1, _, G.next ev, H'.next ev, by omega, by go_num, by go_num, by omega, rfl, HO4.out.swap, HP.out⟩
                    case measure => simp [intOf]; omega
                · have c1 : (er == 0) = false := by simp [h00]
                  have HP := Lib.hid (show Led.Phase l _ (decide (k + 1 ≤ at_)) (k + 1) (G.next ev) (H'.next ev) g s by have := HPH.out; simpa [show k + 1 ≤ at_ from hka2, hka2, h2, h00] using this)
                  clear HPH h2 h00 hka2
                  cases s
                  all_goals
                    go_wp2
                    go_roundw
                    case rel => exact ⟨k + 1, g, _, G.next ev, H'.next ev, by omega, by go_num, rfl, by omega, rfl, HO4.out.swap, HP.out⟩
                    case measure => simp [intOf]; omega
              · have b1 : (ev == 2) = false := by simp [h2]
                by_cases h5 : ev = 5
                · have b2 : (ev == 5) = true := by simp [h5]
                  have HP := Lib.hid (show Led.Phase l _ (decide (k + 1 ≤ at_)) (k + 1) (G.next ev) (H'.next ev) g true by have := HPH.out; simpa [show k + 1 ≤ at_ from hka2, hka2, h5] using this)
                  clear HPH h2 h5 hka2
                  cases s
                  all_goals
                    go_wp2
                    go_roundw
                    case rel => exact ⟨k + 1, g, _, G.next ev, H'.next ev, by omega, by go_num, rfl, by omega, rfl, HO4.out.swap, HP.out⟩
                    case measure => simp [intOf]; omega
                · have b2 : (ev == 5) = false := by simp [h5]
                  have HP := Lib.hid (show Led.Phase l _ (decide (k + 1 ≤ at_)) (k + 1) (G.next ev) (H'.next ev) g s by have := HPH.out; simpa [show k + 1 ≤ at_ from hka2, hka2, h2, h5, b2] using this)
                  clear HPH h2 h5 hka2
                  cases s
                  all_goals
                    go_wp2
                    go_roundw
                    case rel => exact ⟨k + 1, g, _, G.next ev, H'.next ev, by omega, by go_num, rfl, by omega, rfl, HO4.out.swap, HP.out⟩
                    case measure => simp [intOf]; omega
            · have a1 : decide (k < at_) = false := by simp; omega
              have HP := Lib.hid (show Led.Phase l _ (decide (k + 1 ≤ at_)) (k + 1) (G.next ev) (H'.next ev) g s by have := HPH.out; simpa [show ¬ k + 1 ≤ at_ from hka2, hka2] using this)
              clear HPH
              cases s
              all_goals
                go_wp2
                go_roundw
                case rel => exact ⟨k + 1, g, _, G.next ev, H'.next ev, by omega, by go_num, rfl, by omega, rfl, HO4.out.swap, HP.out⟩
                case measure => simp [intOf]; omega
          · obtain rfl : k = l.length := by omega
            have HP := Lib.hid (show Led.Phase l _ (decide (l.length + 1 ≤ at_)) (l.length + 1) G H' g s by
              have e1 : decide (l.length < at_) = false := by simp; omega
              have e2 : decide (l.length + 1 ≤ at_) = false := by simp; omega
              have h3 := HMID.out
              rw [e1] at h3
              rw [e2]
              exact Led.phase_end h3)
            clear HMID
            go_wp2
            go_roundw
            case rel => exact ⟨l.length + 1, g, s, G, H', by omega, by go_num, rfl, by omega, rfl, HOW2.out, HP.out⟩
            case measure => simp [intOf]

        · have HMID := HMID
          simp only [if_true] at HMID
          go_wp2_with fail
          refine (HOW.out.swap.do_ HOKH0.out 4).mono ?_
          rintro e w2 ⟨rfl, ho2⟩
          have HOW2 := Lib.hid ho2.swap; clear ho2 HOW
          generalize H.next 4 = H' at *
          by_cases hkl2 : k < l.length
          · have hX : ∃ gx off, A = some ⟨gx, off, none⟩ ∧ ∀ w' : World, Below w1.heap.size w1 w' → w'.cell? ⟨gx, off + k, none⟩ = some (.int .i64 l[k]) := by
              obtain ⟨gx, off, e, _, hg, x1⟩ := HR1.out.atInt k hkl2
              exact ⟨gx, off, e, fun w' hb => (hb.cell (p := ⟨gx, off + k, none⟩) hg).trans x1⟩
            obtain ⟨gx, off, rfl, hX⟩ := hX
            have X1 := Lib.hid hX; clear hX
            obtain ⟨he, hph⟩ := Led.phase_event HMID.out hkl2 (by omega)
            have HE := Lib.hid he; have HPH := Lib.hid hph; clear he hph
            have hokG : G.Ok := by rw [HMID.out.g]; exact Led.run_ok _ (by simp; omega)
            have HOKG := Lib.hid hokG; have HOKH := Lib.hid HMID.out.okH; clear hokG HMID
            generalize l[k] = ev at *
            have x1 := X1.out _ HOW2.out.below
            go_wp2_with fail
            refine (HOW2.out.do_ HOKG.out ev).mono ?_
            rintro e w3 ⟨rfl, ho3⟩
            have HO3 := Lib.hid ho3; clear ho3
            have x1 := X1.out _ HO3.out.below
            go_wp2_with fail
            refine (HO3.out.swap.do_ HOKH.out ev).mono ?_
            rintro e w4 ⟨rfl, ho4⟩
            have HO4 := Lib.hid ho4; clear ho4
            have x1 := X1.out _ HO4.out.below
            rw [HE.out]
            have ene : (G.err ev != G.err ev) = false := by simp
            generalize G.err ev = er at *
            clear HOKG HOKH HE X1 HO3
            by_cases hka2 : k < at_
            · have a1 : decide (k < at_) = true := by simp; omega
              by_cases h2 : ev = 2
              · have b1 : (ev == 2) = true := by simp [h2]
                have b2 : (ev == 5) = false := by simp [h2]
                by_cases h00 : er = 0
                · have c1 : (er == 0) = true := by simp [h00]
                  have HP := Lib.hid (show Led.Phase l _ (decide (k + 1 ≤ at_)) (k + 1) (G.next ev) (H'.next ev) (g + 1) s by have := HPH.out; simpa [show k + 1 ≤ at_ from hka2, hka2, h2, h00] using this)
                  clear HPH h2 h00 hka2
                  cases s
                  all_goals
                    go_wp2
                    go_roundw
                    case rel => exact ⟨k + 1, g + 1, _, G.next ev, H'.next ev, by omega, by go_num, by go_num, by omega, rfl, HO4.out.swap, HP.out⟩
                    case measure => simp [intOf]; omega
                · have c1 : (er == 0) = false := by simp [h00]
                  have HP := Lib.hid (show Led.Phase l _ (decide (k + 1 ≤ at_)) (k + 1) (G.next ev) (H'.next ev) g s by have := HPH.out; simpa [show k + 1 ≤ at_ from hka2, hka2, h2, h00] using this)
                  clear HPH h2 h00 hka2
                  cases s
                  all_goals
                    go_wp2
                    go_roundw
                    case rel => exact ⟨k + 1, g, _, G.next ev, H'.next ev, by omega, by go_num, rfl, by omega, rfl, HO4.out.swap, HP.out⟩
                    case measure => simp [intOf]; omega
              · have b1 : (ev == 2) = false := by simp [h2]
                by_cases h5 : ev = 5
                · have b2 : (ev == 5) = true := by simp [h5]
                  have HP := Lib.hid (show Led.Phase l _ (decide (k + 1 ≤ at_)) (k + 1) (G.next ev) (H'.next ev) g true by have := HPH.out; simpa [show k + 1 ≤ at_ from hka2, hka2, h5] using this)
                  clear HPH h2 h5 hka2
                  cases s
                  all_goals
                    go_wp2
                    go_roundw
                    case rel => exact ⟨k + 1, g, _, G.next ev, H'.next ev, by omega, by go_num, rfl, by omega, rfl, HO4.out.swap, HP.out⟩
                    case measure => simp [intOf]; omega
                · have b2 : (ev == 5) = false := by simp [h5]
                  have HP := Lib.hid (show Led.Phase l _ (decide (k + 1 ≤ at_)) (k + 1) (G.next ev) (H'.next ev) g s by have := HPH.out; simpa [show k + 1 ≤ at_ from hka2, hka2, h2, h5, b2] using this)
                  clear HPH h2 h5 hka2
                  cases s
                  all_goals
                    go_wp2
                    go_roundw
                    case rel => exact ⟨k + 1, g, _, G.next ev, H'.next ev, by omega, by go_num, rfl, by omega, rfl, HO4.out.swap, HP.out⟩
                    case measure => simp [intOf]; omega
            · have a1 : decide (k < at_) = false := by simp; omega
              have HP := Lib.hid (show Led.Phase l _ (decide (k + 1 ≤ at_)) (k + 1) (G.next ev) (H'.next ev) g s by have := HPH.out; simpa [show ¬ k + 1 ≤ at_ from hka2, hka2] using this)
              clear HPH
              cases s
              all_goals
                go_wp2
                go_roundw
                case rel => exact ⟨k + 1, g, _, G.next ev, H'.next ev, by omega, by go_num, rfl, by omega, rfl, HO4.out.swap, HP.out⟩
                case measure => simp [intOf]; omega
          · obtain rfl : k = l.length := by omega
            have HP := Lib.hid (show Led.Phase l _ (decide (l.length + 1 ≤ at_)) (l.length + 1) G H' g s by
              have e1 : decide (l.length < at_) = false := by simp; omega
              have e2 : decide (l.length + 1 ≤ at_) = false := by simp; omega
              have h3 := HMID.out
              rw [e1] at h3
              rw [e2]
              exact Led.phase_end h3)
            clear HMID
            go_wp2
            go_roundw
            case rel => exact ⟨l.length + 1, g, s, G, H', by omega, by go_num, rfl, by omega, rfl, HOW2.out, HP.out⟩
            case measure => simp [intOf]

      · obtain rfl := hm2 hka
        have hkeq : ((k : Int) == at_) = false := by simp; omega
        clear hm1 hm2
        have HOW2 := HOW
        by_cases hkl2 : k < l.length
        · have hX : ∃ gx off, A = some ⟨gx, off, none⟩ ∧ ∀ w' : World, Below w1.heap.size w1 w' → w'.cell? ⟨gx, off + k, none⟩ = some (.int .i64 l[k]) := by
            obtain ⟨gx, off, e, _, hg, x1⟩ := HR1.out.atInt k hkl2
            exact ⟨gx, off, e, fun w' hb => (hb.cell (p := ⟨gx, off + k, none⟩) hg).trans x1⟩
          obtain ⟨gx, off, rfl, hX⟩ := hX
          have X1 := Lib.hid hX; clear hX
          obtain ⟨he, hph⟩ := Led.phase_event HMID.out hkl2 (by omega)
          have HE := Lib.hid he; have HPH := Lib.hid hph; clear he hph
          have hokG : G.Ok := by rw [HMID.out.g]; exact Led.run_ok _ (by simp; omega)
          have HOKG := Lib.hid hokG; have HOKH := Lib.hid HMID.out.okH; clear hokG HMID
          generalize l[k] = ev at *
          have x1 := X1.out _ HOW2.out.below
          go_wp2_with fail
          refine (HOW2.out.do_ HOKG.out ev).mono ?_
          rintro e w3 ⟨rfl, ho3⟩
          have HO3 := Lib.hid ho3; clear ho3
          have x1 := X1.out _ HO3.out.below
          go_wp2_with fail
          refine (HO3.out.swap.do_ HOKH.out ev).mono ?_
          rintro e w4 ⟨rfl, ho4⟩
          have HO4 := Lib.hid ho4; clear ho4
          have x1 := X1.out _ HO4.out.below
          rw [HE.out]
          have ene : (G.err ev != G.err ev) = false := by simp
          generalize G.err ev = er at *
          clear HOKG HOKH HE X1 HO3
          by_cases hka2 : k < at_
          · have a1 : decide (k < at_) = true := by simp; omega
            by_cases h2 : ev = 2
            · have b1 : (ev == 2) = true := by simp [h2]
              have b2 : (ev == 5) = false := by simp [h2]
              by_cases h00 : er = 0
              · have c1 : (er == 0) = true := by simp [h00]
                have HP := Lib.hid (show Led.Phase l _ (decide (k + 1 ≤ at_)) (k + 1) (G.next ev) (H'.next ev) (g + 1) s by have := HPH.out; simpa [show k + 1 ≤ at_ from hka2, hka2, h2, h00] using this)
                clear HPH h2 h00 hka2
                cases s
                all_goals
                  go_wp2
                  go_roundw
                  case rel => exact ⟨k + 1, g + 1, _, G.next ev, H'.next ev, by omega, by go_num, by go_num, by omega, rfl, HO4.out.swap, HP.out⟩
                  case measure => simp [intOf]; omega
              · have c1 : (er == 0) = false := by simp [h00]
                have HP := Lib.hid (show Led.Phase l _ (decide (k + 1 ≤ at_)) (k + 1) (G.next ev) (H'.next ev) g s by have := HPH.out; simpa [show k + 1 ≤ at_ from hka2, hka2, h2, h00] using this)
                clear HPH h2 h00 hka2
                cases s
                all_goals
                  go_wp2
                  go_roundw
                  case rel => exact ⟨k + 1, g, _, G.next ev, H'.next ev, by omega, by go_num, rfl, by omega, rfl, HO4.out.swap, HP.out⟩
                  case measure => simp [intOf]; omega
            · have b1 : (ev == 2) = false := by simp [h2]
              by_cases h5 : ev = 5
              · have b2 : (ev == 5) = true := by simp [h5]
                have HP := Lib.hid (show Led.Phase l _ (decide (k + 1 ≤ at_)) (k + 1) (G.next ev) (H'.next ev) g true by have := HPH.out; simpa [show k + 1 ≤ at_ from hka2, hka2, h5] using this)
                clear HPH h2 h5 hka2
                cases s
                all_goals
                  go_wp2
                  go_roundw
                  case rel => exact ⟨k + 1, g, _, G.next ev, H'.next ev, by omega, by go_num, rfl, by omega, rfl, HO4.out.swap, HP.out⟩
                  case measure => simp [intOf]; omega
              · have b2 : (ev == 5) = false := by simp [h5]
                have HP := Lib.hid (show Led.Phase l _ (decide (k + 1 ≤ at_)) (k + 1) (G.next ev) (H'.next ev) g s by have := HPH.out; simpa [show k + 1 ≤ at_ from hka2, hka2, h2, h5, b2] using this)
                clear HPH h2 h5 hka2
                cases s
                all_goals
                  go_wp2
                  go_roundw
                  case rel => exact ⟨k + 1, g, _, G.next ev, H'.next ev, by omega, by go_num, rfl, by omega, rfl, HO4.out.swap, HP.out⟩
                  case measure => simp [intOf]; omega
          · have a1 : decide (k < at_) = false := by simp; omega
            have HP := Lib.hid (show Led.Phase l _ (decide (k + 1 ≤ at_)) (k + 1) (G.next ev) (H'.next ev) g s by have := HPH.out; simpa [show ¬ k + 1 ≤ at_ from hka2, hka2] using this)
            clear HPH
            cases s
            all_goals
              go_wp2
              go_roundw
              case rel => exact ⟨k + 1, g, _, G.next ev, H'.next ev, by omega, by go_num, rfl, by omega, rfl, HO4.out.swap, HP.out⟩
              case measure => simp [intOf]; omega
        · obtain rfl : k = l.length := by omega
          have HP := Lib.hid (show Led.Phase l _ (decide (l.length + 1 ≤ at_)) (l.length + 1) G H' g s by
            have e1 : decide (l.length < at_) = false := by simp; omega
            have e2 : decide (l.length + 1 ≤ at_) = false := by simp; omega
            have h3 := HMID.out
            rw [e1] at h3
            rw [e2]
            exact Led.phase_end h3)
          clear HMID
          go_wp2
          go_roundw
          case rel => exact ⟨l.length + 1, g, s, G, H', by omega, by go_num, rfl, by omega, rfl, HOW2.out, HP.out⟩
          case measure => simp [intOf]

    · obtain rfl : k = l.length + 1 := by omega
      have hph2 : Led.Phase l sender false (l.length + 1) G H g s := by
        have : decide (l.length + 1 ≤ at_) = false := by simp; omega
        rwa [this] at hph
      have HPH := Lib.hid hph2
      have hokG : G.Ok := by rw [hph2.g]; exact Led.run_ok _ (by simp; omega)
      have HOKG := Lib.hid hokG
      have HOKH := Lib.hid hph2.okH
      clear hokG hph hph2
      go_wp2_with fail
      refine (HOW.out.leaked_ HOKG.out).mono ?_
      rintro e w2 ⟨va, rfl, hra, hoa, hba⟩
      have HOA := Lib.hid hoa; clear hoa
      have HRA0 := Lib.hid hra
      obtain ⟨Aa, ca, rfl, hca⟩ := hra.form
      rw [bools_length] at hca ⊢
      clear hra
      go_wp2_with fail
      refine (HOA.out.swap.leaked_ HOKH.out).mono ?_
      rintro e w3 ⟨vb, rfl, hrb, hob, hbb⟩
      have HB3 := Lib.hid (hob.below)
      have HRA := Lib.hid (HRA0.out.below hbb)
      have HRB := Lib.hid hrb
      obtain ⟨Ab, cb, rfl, hcb⟩ := hrb.form
      rw [bools_length] at hcb ⊢
      clear hrb hob HRA0
      obtain ⟨q1, q2⟩ := Led.phase_last HPH.out
      have Q2 := Lib.hid q2; clear q2
      have hla : G.leaked.length ≤ 6 := by rw [Led.leaked_length]; exact HOKG.out.n6
      clear HPH HOKG HOKH HOW HOA
      have q1' : ((G.leaked.length : Int) != H.leaked.length) = false := by simp [q1]
      have Q1 := Lib.hid q1; clear q1
      generalize G.leaked = la at *
      generalize H.leaked = lb at *
      go_wp2
      go_loopw [18] (fun i wr => ∃ m : Nat, m ≤ la.length ∧ i = .int .i64 m ∧ ∃ n, wr = w3.drewN n) (fun i _ => la.length - (intOf i).toNat)
      case atStart => exact ⟨0, Nat.zero_le _, rfl, 0, rfl⟩
      case round =>
        obtain ⟨m, hmk, rfl, nd, rfl⟩ := hrel
        by_cases hml : m < la.length
        · obtain ⟨ga, offa, rfl, _, hga, ya⟩ := HRA.out.at m hml
          have hmb : m < lb.length := by rw [Q1.out]; exact hml
          obtain ⟨gb, offb, rfl, _, hgb, yb⟩ := HRB.out.at m hmb
          have q := Q2.out m hml hmb
          generalize la[m] = ba at *
          generalize lb[m] = bb at *
          have mlt : ∀ b : Bool, decide (m < g) = b → decide (m < g) = b := fun _ h => h
          cases hmg : decide (m < g)
          all_goals
            have mlt' := mlt _ hmg
            obtain ⟨q1, q2⟩ := q
            have Q1' := Lib.hid q1
            have Q2' := Lib.hid q2
            have HMG := Lib.hid hmg
            clear q1 q2 mlt hmg
            cases sender <;> cases s <;> cases ba <;> cases bb
          all_goals try (exfalso; first | exact absurd (Q1'.out rfl) (by decide) | exact absurd (Q2'.out (.inl rfl)) (by decide) | exact absurd (Q2'.out (.inr ⟨rfl, of_decide_eq_true HMG.out⟩)) (by decide))
          all_goals
            clear Q1' Q2' HMG
            go_wp2
            go_quiet (fail)
            go_wp2
            go_roundw
            case rel => exact ⟨m + 1, hml, by go_num, _, rfl⟩
            case measure => simp [intOf]; omega
        · go_wp2
          go_ret
          exact ⟨rfl, hb1.trans ((below_drewN' HB3.out _).mono hsz1)⟩

end Go.Proofs.Ytffgechbmhgndaa
