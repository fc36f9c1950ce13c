/- slices.Index, and Derive of package terms. -/
import Derived.Test.YtffgechbmhgndaaP6
import Derived.Test.YtffgechbmhgndaaT13
set_option linter.unusedVariables false
set_option linter.unusedSimpArgs false
namespace Go.Proofs.Ytffgechbmhgndaa
open Go.RowKit

theorem natsV_get (l : List Nat) (j : Nat) (h : j < l.length) : (natsV l)[j]? = some (.int .i64 (l[j] : Nat)) := by simp [natsV, h]
theorem RowAt.take {w : World} {A : Option Addr} {n c : Nat} {xs : List Value} (h : RowAt w (.slice A n c) xs) (m : Nat) (hm : m ≤ xs.length) : RowAt w (.slice A m c) (xs.take m) := by
  obtain ⟨A', c', hv, hc, hs, hx⟩ := h
  simp only [Value.slice.injEq] at hv
  obtain ⟨rfl, rfl, rfl⟩ := hv
  have hl : (xs.take m).length = m := by rw [List.length_take]; omega
  refine ⟨A, c, by rw [hl], by omega, by omega, fun h0 => ?_⟩
  rw [hl] at h0
  obtain ⟨g, off, ha, hg, hx⟩ := hx (by omega)
  refine ⟨g, off, ha, hg, fun j u hj => hx j u ?_⟩
  rw [List.getElem?_take] at hj
  split at hj
  · exact hj
  · cases hj
theorem RowAt.atN {w : World} {A : Option Addr} {n c : Nat} {l : List Nat} (h : RowAt w (.slice A n c) (natsV l)) (k : Nat) (hk : k < l.length) : ∃ g off, A = some ⟨g, off, none⟩ ∧ n = l.length ∧ g < w.heap.size ∧ w.cell? ⟨g, off + k, none⟩ = some (.int .i64 (l[k] : Nat)) := by
  obtain ⟨g, off, c', he, _, hg, hx⟩ := h.cell (by rw [natsV_length]; omega)
  simp only [Value.slice.injEq, natsV_length] at he
  exact ⟨g, off, he.1, he.2.1, hg, hx k _ (natsV_get l k hk)⟩
theorem RowAt.leN {w : World} {A : Option Addr} {n c : Nat} {l : List Nat} (h : RowAt w (.slice A n c) (natsV l)) : n = l.length ∧ n ≤ c := by
  obtain ⟨_, _, hv, hc⟩ := h.form
  rw [natsV_length] at hv hc
  simp only [Value.slice.injEq] at hv
  omega

set_option maxRecDepth 100000 in
set_option maxHeartbeats 1000000 in
theorem indexN_any (A : Option Addr) (n c : Nat) (ws : List Nat) (g : Nat) (w : World) (h : RowAt w (.slice A n c) (natsV ws)) (hm : g ∈ ws) (hn : n ≤ 10000) :
    Calls Try.prog 41 #[.slice A n c, .int .i64 (g : Nat)] w fun r w' => r = .returned (.int .i64 (ws.findIdx (· == g) : Nat)) ∧ w' = w := by
  obtain ⟨i, hi, hg, hne, hfi⟩ := Ts.first_at hm
  rw [hfi]
  obtain ⟨rfl, hc⟩ := h.leN
  have HR := Lib.hid h
  have HN := Lib.hid hne
  have HG := Lib.hid hg
  clear h hne hg hfi hm
  go_enter Try.func41, Try.ntmps41
  go_wp2
  go_loopw [5, 8] (fun _ i' wr => ∃ k : Nat, k ≤ i ∧ i' = .int .i64 k ∧ wr = w) (fun _ i' _ => ws.length - (intOf i').toNat)
  case atStart => exact ⟨0, Nat.zero_le _, rfl, rfl⟩
  case round =>
    obtain ⟨k, hk, rfl, rfl⟩ := hrel
    have hlt : k < ws.length := by omega
    obtain ⟨b, off, rfl, _, hb, x1⟩ := HR.out.atN k hlt
    by_cases hki : k = i
    · subst hki
      have e : (ws[k] : Nat) = g := by have := HG.out; rw [List.getElem?_eq_getElem hlt] at this; simpa using this
      have e1 : ((g : Int) == (ws[k] : Nat)) = true := by simp [e]
      go_wp2
      go_ret
      exact ⟨rfl, rfl⟩
    · have e : (ws[k] : Nat) ≠ g := by
        have := HN.out k (by omega)
        rw [List.getElem?_eq_getElem hlt] at this
        simpa using this
      have e1 : ((g : Int) == (ws[k] : Nat)) = false := by simp; omega
      go_wp2
      go_roundw
      case rel => exact ⟨k + 1, by omega, by go_num, by first | trivial | rfl⟩
      case measure => simp [intOf]; omega

/-- What Derive tells. -/
inductive DRes (w : World) (l : List Tm) (known : List Int) (goal : Int) : Ending → World → Prop
  | bad (w' : World) : (Ts.closeF l known).1 ≠ 0 → Below w.heap.size w w' → DRes w l known goal (.returned (.tuple #[.slice none 0 0, .int .i64 (Ts.closeF l known).1])) w'
  | arg (w' : World) : (Ts.closeF l known).1 = 0 → ¬ (0 ≤ goal ∧ goal < l.length) → Below w.heap.size w w' → DRes w l known goal (.returned (.tuple #[.slice none 0 0, .int .i64 1])) w'
  | gone (w' : World) : (Ts.closeF l known).1 = 0 → 0 ≤ goal → goal < l.length → (Ts.closeF l known).2.getD goal.toNat false = false → Below w.heap.size w w' → DRes w l known goal (.returned (.tuple #[.slice none 0 0, .int .i64 62])) w'
  | ok (w' : World) (A : Option Addr) (n c : Nat) (ws : List Nat) : (Ts.closeF l known).1 = 0 → 0 ≤ goal → goal < l.length → (Ts.closeF l known).2.getD goal.toNat false = true → Ts.Way l known ws → (ws[n - 1]?) = some goal.toNat → 0 < n → ws.length = n → n ≤ l.length →
      RowAt w' (.slice A n c) (natsV ws) → Below w.heap.size w w' → DRes w l known goal (.returned (.tuple #[.slice A n c, .int .i64 0])) w'

theorem way_last {ws : List Nat} {g : Nat} (hm : g ∈ ws) : (ws.take (ws.findIdx (· == g) + 1))[ws.findIdx (· == g) + 1 - 1]? = some g ∧ (ws.take (ws.findIdx (· == g) + 1)).length = ws.findIdx (· == g) + 1 ∧ ws.findIdx (· == g) + 1 ≤ ws.length := by
  obtain ⟨i, hi, hg, hne, hfi⟩ := Ts.first_at hm
  rw [hfi]
  refine ⟨?_, by rw [List.length_take]; omega, by omega⟩
  rw [List.getElem?_take_of_lt (by omega)]
  simpa using hg
theorem Jst_le {l : List Tm} {K : Nat → Prop} {s : Ts.St} (h : Ts.Jst l K s) : s.order.length ≤ l.length := Ts.nodup_le _ _ h.nodup h.lt

set_option maxRecDepth 100000 in
set_option maxHeartbeats 2000000 in
theorem derive_any {w : World} {l : List Tm} (vl v : Value) (known : List Int) (goal : Int) (hl : TermsAt w vl l) (hk : RowAt w v (intsV known)) :
    Calls Try.prog 22 #[vl, v, .int .i64 goal] w (DRes w l known goal) := by
  have HC := Lib.hid (closed_any vl v known hl hk)
  obtain ⟨A, c, rfl, hc, hm1⟩ := RowsAt.form hl
  clear hl hk
  go_enter Try.func22, Try.ntmps22
  go_wp2_with fail
  refine HC.out.mono ?_
  intro r w1 hres
  clear HC
  cases hres with
  | shape _ h1 h2 =>
    have e : (Ts.right l != 0) = true := by simp [h1]
    have ec : (Ts.closeF l known).1 = Ts.right l := by unfold Ts.closeF; rw [if_pos h1]
    have HF := Lib.hid (DRes.bad (goal := goal) w1 (known := known) (by rw [ec]; exact h1) h2)
    rw [ec] at HF
    clear h1 ec h2
    generalize Ts.right l = z at *
    go_wp2
    go_ret2
    exact HF.out
  | arg _ h1 h2 h3 =>
    have ec : (Ts.closeF l known).1 = 1 := by unfold Ts.closeF; rw [if_neg (by simpa using h1), if_neg h2]
    have HF := Lib.hid (DRes.bad (goal := goal) w1 (known := known) (by rw [ec]; omega) h3)
    rw [ec] at HF
    clear h1 h2 h3 ec
    go_wp2
    go_ret2
    exact HF.out
  | ok b _ h1 h2 h3 =>
    obtain ⟨h200, hs⟩ := Ts.right_zero h1
    obtain ⟨hlen, _, _⟩ := Ts.result_all hs h2
    have hj := Ts.result_jst hs h2
    have hway := Ts.way_of hs h2
    have hje := Jst_le hj
    have ec := Ts.closeF_of h1 h2
    have ec1 : (Ts.closeF l known).1 = 0 := by rw [ec]
    have ec2 : (Ts.closeF l known).2 = (Ts.result l known).inn := by rw [ec]
    have hmem : ∀ i, (Ts.result l known).inn.getD i false = true → i ∈ (Ts.result l known).order := fun i hi => Ts.hav_mem (by rw [← hj.inn]; exact hi)
    have HB := Lib.hid h3.below
    obtain ⟨vi, vo, q1, q2, q3, q4, q5⟩ := h3
    have c1 : w1.cell? ⟨b, 1, none⟩ = some vi := cell_of_row w1 b 1 _ 80 (0, 0) q1
    have c2 : w1.cell? ⟨b, 2, none⟩ = some vo := cell_of_row w1 b 2 _ 80 (0, 0) q1
    have HI := Lib.hid (RowAt.of_own q2)
    have HO := Lib.hid (RowAt.of_own q3)
    by_cases hgo : 0 ≤ goal ∧ goal < l.length
    · obtain ⟨g1, g2⟩ := hgo
      obtain ⟨g, rfl⟩ : ∃ g : Nat, goal = g := ⟨goal.toNat, by omega⟩
      have g3 : g < (Ts.result l known).inn.length := by omega
      have HJ := Lib.hid hj; have HW := Lib.hid hway; have HM := Lib.hid hmem; have EC1 := Lib.hid ec1; have EC2 := Lib.hid ec2
      obtain ⟨Ai, ci, hvi, hci⟩ := HI.out.form
      obtain ⟨Ao, co, hvo, hco⟩ := HO.out.form
      rw [bools_length] at hvi hci
      rw [natsV_length] at hvo hco
      subst hvi hvo
      clear hj hway hmem ec ec1 ec2 h1 h2 hs q1 q2 q3 q4 q5
      generalize Ts.result l known = s at *
      obtain ⟨gi, oi, rfl, _, hgi, x1⟩ := RowAt.atT HI.out g g3
      have eg : s.inn[g] = s.inn.getD g false := by simp [List.getD, g3]
      rw [eg] at x1
      have d1 : decide ((g : Int) < 0) = false := decide_eq_false (by omega)
      have d2 : decide (l.length ≤ g) = false := decide_eq_false (by omega)
      have d3 : (g : Int) < (s.inn.length : Int) := by omega
      have HLN := Lib.hid hlen
      clear g1 g2 eg hlen
      cases hin : s.inn.getD g false with
      | false =>
        have HF := Lib.hid (DRes.gone (w := w) (l := l) (known := known) (goal := (g : Int)) w1 EC1.out (by omega) (by have := HLN.out; omega) (by rw [EC2.out]; exact hin) HB.out)
        rw [hin] at x1
        clear hin
        go_wp2
        go_ret2
        exact HF.out
      | true =>
        have hmg := HM.out g hin
        obtain ⟨y1, y2, y3⟩ := way_last hmg
        have HIX := Lib.hid (fun n => indexN_any Ao s.order.length co s.order g (w1.drewN n) (HO.out.below (below_dn (Below.refl _ _) n)) hmg (by omega))
        have HF := Lib.hid (fun (w' : World) (hb : Below w1.heap.size w1 w') => DRes.ok (w := w) (l := l) (known := known) (goal := (g : Int)) w' Ao (s.order.findIdx (· == g) + 1) co _ EC1.out (by omega) (by have := HLN.out; omega) (by rw [EC2.out]; exact hin) (HW.out (s.order.findIdx (· == g) + 1)) (by simpa using y1) (by omega) y2 (by omega) (by have := (HO.out.below hb).take (s.order.findIdx (· == g) + 1) (by rw [natsV_length]; exact y3); simpa [natsV, List.map_take] using this) (HB.out.trans (hb.mono HB.out.size)))
        rw [hin] at x1
        clear hin hmg y1 y2 HM
        generalize s.order.findIdx (· == g) = ix at *
        go_wp2
        go_quiet ((go_at_call 41; exact Calls.quiet_of_same (HIX.out _)))
        go_wp2
        go_ret2
        exact HF.out _ (below_dn (Below.refl _ _) _)
    · have HF := Lib.hid (DRes.arg (w := w) w1 ec1 hgo HB.out)
      have hd : decide (goal < 0) = true ∨ (decide (goal < 0) = false ∧ decide ((l.length : Int) ≤ goal) = true) := by
        by_cases hz : goal < 0
        · exact .inl (by simpa using hz)
        · exact .inr ⟨by simp; omega, by simp; omega⟩
      clear hj hway hmem ec ec1 ec2 h1 h2 hs q1 q2 q3 q4 q5 hgo c1 c2 HI HO hlen hje
      rcases hd with d1 | ⟨d1, d2⟩
      all_goals
        go_wp2
        go_ret2
        exact HF.out

end Go.Proofs.Ytffgechbmhgndaa
