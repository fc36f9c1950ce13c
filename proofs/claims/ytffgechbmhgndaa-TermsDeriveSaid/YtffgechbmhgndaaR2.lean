/- The reference's key. -/
import Derived.Test.YtffgechbmhgndaaR1
set_option linter.unusedVariables false
set_option linter.unusedSimpArgs false
namespace Go.Proofs.Ytffgechbmhgndaa
open Go.RowKit

theorem bools_at {w : World} {A : Option Addr} {n c : Nat} {s : List Bool} (h : RowAt w (.slice A n c) (bools s)) {k : Nat} (hk : k < s.length) :
    ∃ g off, A = some ⟨g, off, none⟩ ∧ g < w.heap.size ∧ w.cell? ⟨g, off + k, none⟩ = some (.bool (s.getD k false)) := by
  obtain ⟨g, off, c', he, _, hg, hx⟩ := h.cell (by rw [bools_length]; omega)
  simp only [Value.slice.injEq] at he
  obtain ⟨rfl, _⟩ := he
  refine ⟨g, off, rfl, hg, hx k _ ?_⟩
  rw [bools_get s k hk]
  simp [List.getD, hk]

theorem bools_form {w : World} {v : Value} {s : List Bool} (h : RowAt w v (bools s)) : ∃ A c, v = .slice A s.length c ∧ s.length ≤ c ∧ s.length ≤ 9223372036854775807 := by
  obtain ⟨A, c, hv, hc, hm, _⟩ := h
  rw [bools_length] at hv hc hm
  exact ⟨A, c, hv, hc, hm⟩

set_option maxRecDepth 100000 in
set_option maxHeartbeats 1000000 in
theorem rkey_any (v vs : Value) (l : List Tm) (s : List Bool) (x : Int) (w : World) (hv : TermsAt w v l) (hs : RowAt w vs (bools s)) (hl : s.length = l.length) :
    Calls Try.prog 42 #[v, vs, .int .i64 x] w fun r w' => r = .returned (.bool (Ts.pub l s x)) ∧ Below w.heap.size w w' := by
  have HV := Lib.hid hv
  have HS := Lib.hid hs
  obtain ⟨A, c, rfl, hc, hm⟩ := RowsAt.form hv
  obtain ⟨B, d, rfl, hd, hm2⟩ := bools_form hs
  rw [hl] at HS hd ⊢
  have HL := Lib.hid hl
  clear hv hs hm2 hl
  go_enter Try.func42, Try.ntmps42
  go_wp2
  go_loopw [6, 7] (fun _ i' wr => ∃ k : Nat, k ≤ l.length ∧ i' = .int .i64 k ∧ Below w.heap.size w wr ∧ Ts.pubTo l s x k = false) (fun _ i' _ => l.length - (intOf i').toNat)
  case atStart => exact ⟨0, Nat.zero_le _, rfl, Below.refl _ _, rfl⟩
  case round =>
    obtain ⟨k, hk, rfl, hb, hall⟩ := hrel
    have HA := Lib.hid hall; clear hall
    have hsz := hb.size
    by_cases hlt : k < l.length
    · obtain ⟨g, off, rfl, hg, x1, x2, x3⟩ := (HV.out.below hb).at k hlt
      obtain ⟨g2, off2, rfl, hg2, x4⟩ := bools_at (HS.out.below hb) (k := k) (by rw [HL.out]; exact hlt)
      have HN := Lib.hid (Ts.pubTo_next HA.out)
      have HT := Lib.hid (fun (h : Ts.pubTo l s x (k + 1) = true) => Ts.pubTo_true hlt h)
      generalize Ts.tm l k = t at *
      generalize s.getD k false = ik at *
      have HB := Lib.hid hb
      by_cases h3 : t.op = 3
      · have h3' : (t.op == 3) = true := by simp [h3]
        by_cases hx : t.a = x
        · have hx' : (t.a == x) = true := by simp [hx]
          have HX := Lib.hid (show Ts.pubTo l s x (k + 1) = ik by rw [HN.out, h3', hx']; simp)
          clear h3 hx
          cases ik
          · go_wp2
            go_roundw
            case rel => exact ⟨k + 1, hlt, by go_num, HB.out, HX.out⟩
            case measure => simp [intOf]; omega
          · have HP := Lib.hid (HT.out HX.out)
            go_wp2
            go_ret
            exact ⟨ret_bool' (by rw [HP.out]), HB.out⟩
        · have hx' : (t.a == x) = false := by simp [hx]
          have HX := Lib.hid (show Ts.pubTo l s x (k + 1) = false by rw [HN.out, hx']; simp)
          clear h3 hx
          go_wp2
          go_roundw
          case rel => exact ⟨k + 1, hlt, by go_num, HB.out, HX.out⟩
          case measure => simp [intOf]; omega
      · have h3' : (t.op == 3) = false := by simp [h3]
        have HX := Lib.hid (show Ts.pubTo l s x (k + 1) = false by rw [HN.out, h3']; simp)
        clear h3
        go_wp2
        go_roundw
        case rel => exact ⟨k + 1, hlt, by go_num, HB.out, HX.out⟩
        case measure => simp [intOf]; omega
    · have HX := Lib.hid (show Ts.pub l s x = false by rw [Ts.pub_to, ← HA.out, show k = l.length by omega])
      go_wp2
      go_ret
      exact ⟨ret_bool' (by rw [HX.out]), hb⟩

end Go.Proofs.Ytffgechbmhgndaa
