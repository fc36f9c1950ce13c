/- LedgerHeals: the walk. -/
import Derived.Test.YtffgechbmhgndaaL8
import Derived.Test.YtffgechbmhgndaaP2
set_option linter.unusedVariables false
set_option linter.unusedSimpArgs false
namespace Go.Proofs.Ytffgechbmhgndaa
open Go.RowKit

theorem RowAt.atInt {w : World} {A : Option Addr} {n c : Nat} {l : List Int} (h : RowAt w (.slice A n c) (intsV l)) (k : Nat) (hk : k < l.length) : ∃ g off, A = some ⟨g, off, none⟩ ∧ n = l.length ∧ g < w.heap.size ∧ w.cell? ⟨g, off + k, none⟩ = some (.int .i64 l[k]) := by
  obtain ⟨g, off, c', he, _, hg, hx⟩ := h.cell (by rw [intsV_length]; omega)
  simp only [Value.slice.injEq, intsV_length] at he
  exact ⟨g, off, he.1, he.2.1, hg, hx k _ (intsV_get l k hk)⟩
theorem Own.do_ {w w1 : World} {b : Nat} {L : Led} (h : Own w b L w1) (ok : L.Ok) (ev : Int) :
    Calls Try.prog 13 #[.pointer (some ⟨b, 0, none⟩), .int .i64 ev] w1 fun r w' => r = .returned (.int .i64 (L.err ev)) ∧ Own w b (L.next ev) w' ∧ Below w.heap.size w w' := by
  obtain ⟨fs, h1, h2, h3⟩ := h
  refine (do_any h1 ok ev).mono ?_
  rintro r w' ⟨hr, hg⟩
  have := Own.goes h3 h2 hg
  exact ⟨hr, this, this.choose_spec.2.1⟩
theorem Own.leaked_ {w w1 : World} {b : Nat} {L : Led} (h : Own w b L w1) (ok : L.Ok) :
    Calls Try.prog 14 #[.pointer (some ⟨b, 0, none⟩)] w1 fun r w' => ∃ v, r = .returned v ∧ RowAt w' v (bools L.leaked) ∧ Own w b L w' ∧ Below w.heap.size w w' := by
  obtain ⟨fs, h1, h2, h3⟩ := h
  refine (leaked_any h1 ok).mono ?_
  rintro r w' ⟨v, hr, ho, hb⟩
  have := (show Own w b L w1 from ⟨fs, h1, h2, h3⟩).later hb
  exact ⟨v, hr, RowAt.of_own ho, this, this.choose_spec.2.1⟩
theorem Own.below {w w1 : World} {b : Nat} {L : Led} (h : Own w b L w1) : Below w.heap.size w w1 := h.choose_spec.2.1

set_option maxRecDepth 100000 in
set_option maxHeartbeats 2000000 in
theorem heals_any (v vm : Value) (l more : List Int) (w : World) (hv : RowAt w v (intsV l)) (hm : RowAt w vm (intsV more)) :
    Calls Try.prog 4 #[v, vm] w fun r w' => r = .returned (.bool true) ∧ Below w.heap.size w w' := by
  have HV := Lib.hid hv
  have HM := Lib.hid hm
  obtain ⟨A, c, rfl, hc⟩ := hv.form
  obtain ⟨B, d, rfl, hd⟩ := hm.form
  have hm1 : l.length ≤ 9223372036854775807 := by obtain ⟨_, _, _, _, hm, _⟩ := hv; rwa [intsV_length] at hm
  have hm2 : more.length ≤ 9223372036854775807 := by obtain ⟨_, _, _, _, hm, _⟩ := hm; rwa [intsV_length] at hm
  rw [intsV_length] at hc hd ⊢
  rw [intsV_length] at *
  clear hv hm
  by_cases h30 : 30 < l.length
  · go_enter Try.func4, Try.ntmps4
    go_wp2_with fail
    refine (awake_any _).mono ?_
    rintro e w1 ⟨rfl, hb1⟩
    go_wp2
    go_ret
    exact ⟨rfl, hb1⟩
  by_cases h10 : 10 < more.length
  · have h30' : decide (30 < l.length) = false := by simp; omega
    go_enter Try.func4, Try.ntmps4
    go_wp2_with fail
    refine (awake_any _).mono ?_
    rintro e w1 ⟨rfl, hb1⟩
    go_wp2
    go_ret
    exact ⟨rfl, hb1⟩
  have h30' : decide (30 < l.length) = false := by simp; omega
  have h10' : decide (10 < more.length) = false := by simp; omega
  go_enter Try.func4, Try.ntmps4
  go_wp2_with fail
  refine (awake_any _).mono ?_
  rintro e w1 ⟨rfl, hb1⟩
  have hsz1 := hb1.size
  have HR1 := Lib.hid (HV.out.below hb1)
  have HM1 := Lib.hid (HM.out.below hb1)
  clear HV HM
  go_wp2
  have HN := Lib.hid (Own.new w1)
  go_loopw [7] (fun i wr => ∃ k : Nat, k ≤ l.length ∧ i = .int .i64 k ∧ Own w1 w1.heap.size (Led.zero.run (l.take k)) wr) (fun i _ => l.length - (intOf i).toNat)
  case atStart => exact ⟨0, Nat.zero_le _, rfl, HN.out⟩
  case round =>
    obtain ⟨k, hk, rfl, how⟩ := hrel
    obtain ⟨wo, rfl⟩ : ∃ wo : World, wo = wr := ⟨_, rfl⟩
    have hbl := how.below
    by_cases hlt : k < l.length
    · have HS := Lib.hid (show Led.zero.run (l.take (k + 1)) = (Led.zero.run (l.take k)).next l[k] by rw [List.take_succ_eq_append_getElem hlt, Led.run_snoc])
      have HOK := Lib.hid (Led.run_ok (l.take k) (by simp; omega))
      have HOW := Lib.hid how; clear how
      obtain ⟨g, off, rfl, _, hg, x1⟩ := (HR1.out.below hbl).atInt k hlt
      go_wp2_with fail
      refine (HOW.out.do_ HOK.out _).mono ?_
      rintro e w2 ⟨rfl, ho2, hb2⟩
      have HO2 := Lib.hid ho2; clear ho2
      go_wp2
      go_roundw
      case rel => exact ⟨k + 1, hlt, by go_num, by rw [HS.out]; exact HO2.out⟩
      case measure => simp [intOf]; omega
    · obtain rfl : k = l.length := by omega
      rw [List.take_length] at how
      have hok := Led.run_ok l (by omega)
      have hse := Led.run_seen l (by omega)
      have hhi : (Led.zero.run l).High := Led.high_run l Led.high_zero
      generalize Led.zero.run l = L at *
      have HOK := Lib.hid hok; clear hok
      have HOW := Lib.hid how; clear how
      have HHI := Lib.hid hhi; clear hhi
      go_wp2_with fail
      refine (HOW.out.leaked_ HOK.out).mono ?_
      rintro e w2 ⟨va, rfl, hra, hoa, hba⟩
      have HOA := Lib.hid hoa; clear hoa
      obtain ⟨Aa, ca, rfl, hca⟩ := hra.form
      rw [bools_length] at hca ⊢
      have hla : L.leaked.length ≤ 6 := by rw [Led.leaked_length]; exact HOK.out.n6
      clear hra
      go_wp2_with fail
      refine (HOA.out.do_ HOK.out 3).mono ?_
      rintro e w3 ⟨rfl, ho3, hb3⟩
      have HO3 := Lib.hid ho3; clear ho3
      by_cases hn : L.newest < 6
      · have e0 : L.err 3 = 0 := by simp [Led.err, hn]
        rw [e0]
        clear e0
        obtain ⟨p1, p2⟩ : (∀ k, L.leaked.length ≤ ((L.next 3).runBut (more.take k)).leaked.length) ∧ ∀ j k (h : k < ((L.next 3).runBut (more.take j)).leaked.length), L.leaked.length ≤ k → ((L.next 3).runBut (more.take j)).leaked[k] = false :=
          ⟨fun k => (Led.heals L HHI.out hn _).1, fun j => (Led.heals L HHI.out hn (more.take j)).2⟩
        have P1 := Lib.hid p1; have P2 := Lib.hid p2
        have hok3 : ∀ j, ((L.next 3).runBut (more.take j)).Ok := fun j => (Led.runBut_ok _ _ (Led.next_ok HOK.out (by omega) 3) (by rw [Led.next_seen_eq L 3 (by decide)]; omega)).1
        have HOK3 := Lib.hid hok3
        clear p1 p2 hok3
        go_wp2
        go_loopw [10] (fun i wr => ∃ k : Nat, k ≤ more.length ∧ i = .int .i64 k ∧ Own w1 w1.heap.size ((L.next 3).runBut (more.take k)) wr) (fun i _ => more.length - (intOf i).toNat)
        case atStart => exact ⟨0, Nat.zero_le _, rfl, HO3.out⟩
        case round =>
          obtain ⟨k, hk, rfl, how⟩ := hrel
          obtain ⟨wo, rfl⟩ : ∃ wo : World, wo = wr := ⟨_, rfl⟩
          have hbl := how.below
          by_cases hlt : k < more.length
          · have hs : (L.next 3).runBut (more.take (k + 1)) = if more[k] = 5 then (L.next 3).runBut (more.take k) else ((L.next 3).runBut (more.take k)).next more[k] := by rw [List.take_succ_eq_append_getElem hlt, Led.runBut_snoc]
            have HS := Lib.hid hs; clear hs
            have HOW := Lib.hid how; clear how
            obtain ⟨g, off, rfl, _, hg, x1⟩ := (HM1.out.below hbl).atInt k hlt
            by_cases h5 : more[k] = 5
            · have e5 : (more[k] != 5) = false := by simp [h5]
              have H5 := Lib.hid h5; clear h5
              go_wp2
              go_roundw
              case rel => exact ⟨k + 1, hlt, by go_num, by rw [HS.out, if_pos H5.out]; exact HOW.out⟩
              case measure => simp [intOf]; omega
            · have e5 : (more[k] != 5) = true := by simp [h5]
              have H5 := Lib.hid h5; clear h5
              go_wp2_with fail
              refine (HOW.out.do_ (HOK3.out k) _).mono ?_
              rintro e w4 ⟨rfl, ho4, hb4⟩
              have HO4 := Lib.hid ho4; clear ho4
              go_wp2
              go_roundw
              case rel => exact ⟨k + 1, hlt, by go_num, by rw [HS.out, if_neg H5.out]; exact HO4.out⟩
              case measure => simp [intOf]; omega
          · have HOW := Lib.hid how; clear how
            have q1 := P1.out k
            have Q2 := Lib.hid (P2.out k)
            have hlb : ((L.next 3).runBut (more.take k)).leaked.length ≤ 6 := by rw [Led.leaked_length]; exact (HOK3.out k).n6
            have HOKK := Lib.hid (HOK3.out k)
            clear P1 P2 HOK3
            generalize (L.next 3).runBut (more.take k) = M at *
            go_wp2_with fail
            refine (HOW.out.leaked_ HOKK.out).mono ?_
            rintro e w4 ⟨vb, rfl, hrb, hob, hbb⟩
            have HRB := Lib.hid hrb
            obtain ⟨Ab, cb, rfl, hcb⟩ := hrb.form
            rw [bools_length] at hcb ⊢
            clear hrb hob
            have hnn : (Int.ofNat L.leaked.length) = (L.leaked.length : Int) := rfl
            clear hnn
            go_wp2
            go_loop [12] (fun i => ∃ m : Nat, L.leaked.length ≤ m ∧ m ≤ M.leaked.length ∧ i = .int .i64 m) (fun i => M.leaked.length - (intOf i).toNat)
            case atStart => exact ⟨L.leaked.length, Nat.le_refl _, q1, rfl⟩
            case round =>
              obtain ⟨m, hm1, hm2, rfl⟩ := hrel
              by_cases hml : m < M.leaked.length
              · obtain ⟨gb, offb, rfl, _, hgb, yb⟩ := HRB.out.at m hml
                rw [Q2.out m hml hm1] at yb
                go_wp2
                go_round
                case rel => exact ⟨m + 1, by omega, hml, by go_num⟩
                case measure => simp [intOf]; omega
              · go_wp2
                go_ret
                exact ⟨rfl, hb1.trans (hbb.mono hsz1)⟩
      · have e0 : L.err 3 = 63 := by simp [Led.err, show 6 ≤ L.newest by omega]
        rw [e0]
        clear e0
        go_wp2
        go_ret
        exact ⟨rfl, hb1.trans (hb3.mono hsz1)⟩

end Go.Proofs.Ytffgechbmhgndaa
