/- The reference's Step. -/
import Derived.Test.YtffgechbmhgndaaR2
import Derived.Test.YtffgechbmhgndaaT5
set_option linter.unusedVariables false
set_option linter.unusedSimpArgs false
namespace Go.Proofs.Ytffgechbmhgndaa
open Go.RowKit

namespace Ts
def stepA (l : List Tm) (s : List Bool) (t : Tm) : Bool := (decide (t.op = 2 ∨ t.op = 3) && s.getD t.a.toNat false) || (decide (t.op = 1 ∨ 4 < t.op) && s.getD t.a.toNat false && s.getD t.b.toNat false) ||
  (decide (t.op = 4) && ((s.getD t.a.toNat false && pub l s t.b) || (s.getD t.b.toNat false && pub l s t.a)))
def stepB (s : List Bool) (i : Nat) (t : Tm) (sk : Bool) : Bool := sk && ((decide (t.op = 1) && (decide (t.a = i) || decide (t.b = i))) || (decide (t.op = 5) && decide (t.b = i) && s.getD t.a.toNat false))
def stepTo (l : List Tm) (s : List Bool) (i k : Nat) : Bool := (List.range k).any fun k => stepB s i (tm l k) (s.getD k false)
theorem rstep_eq (l : List Tm) (s : List Bool) (i : Nat) : rstep l s i = (stepA l s (tm l i) || stepTo l s i l.length) := rfl
theorem rstep_a {l : List Tm} {s : List Bool} {i : Nat} (h : stepA l s (tm l i) = true) : rstep l s i = true := by rw [rstep_eq, h]; rfl
theorem rstep_b {l : List Tm} {s : List Bool} {i : Nat} (h : stepA l s (tm l i) = false) : rstep l s i = stepTo l s i l.length := by rw [rstep_eq, h]; rfl
theorem stepTo_next {l : List Tm} {s : List Bool} {i k : Nat} (h : stepTo l s i k = false) : stepTo l s i (k + 1) = stepB s i (tm l k) (s.getD k false) := by
  unfold stepTo at h ⊢; rw [List.range_succ, List.any_append, h]; simp
theorem stepTo_true {l : List Tm} {s : List Bool} {i k : Nat} (hk : k < l.length) (h : stepTo l s i (k + 1) = true) : stepTo l s i l.length = true := by
  unfold stepTo at h ⊢
  rw [List.any_eq_true] at h ⊢
  obtain ⟨i, hi, hp⟩ := h
  exact ⟨i, by simp at hi ⊢; omega, hp⟩
end Ts

set_option maxRecDepth 100000 in
set_option maxHeartbeats 8000000 in
theorem rstep_zero (v vs : Value) (l : List Tm) (s : List Bool) (i : Nat) (w : World) (hv : TermsAt w v l) (hs : RowAt w vs (bools s)) (hl : s.length = l.length) (hsh : Ts.Shape l) (hi : i < l.length) (hop : (Ts.tm l i).op = 0) :
    Calls Try.prog 23 #[v, vs, .int .i64 i] w fun r w' => r = .returned (.bool (Ts.rstep l s i)) ∧ Below w.heap.size w w' := by
  have HV := Lib.hid hv
  have HS := Lib.hid hs
  have hfit : Fits l.length (Ts.tm l i) := ⟨hsh.op i hi, fun h => by have := hsh.a i hi h; omega, fun h => by have := hsh.b i hi h; omega⟩
  obtain ⟨A, c, rfl, hc, hm⟩ := RowsAt.form hv
  obtain ⟨B, d, rfl, hd, hm2⟩ := bools_form hs
  obtain ⟨gt, offt, rfl, hgt, t1, t2, t3⟩ := hv.at i hi
  rw [hl] at HS hd hs ⊢
  have HL := Lib.hid hl
  have HSH := Lib.hid hsh
  obtain ⟨gs, offs, rfl, hgs, _⟩ := bools_at hs (k := i) (by rw [HL.out]; exact hi)
  have hrs := Ts.rstep_b (l := l) (s := s) (i := i)
  generalize Ts.tm l i = t at t1 t2 t3 hop hfit hrs
  have HRB := Lib.hid (hrs (by unfold Ts.stepA; simp [hop]))
  clear hrs
  have p2 : (t.op == 2) = false := by simp; omega
  have p3 : (t.op == 3) = false := by simp; omega
  have p1 : (t.op == 1) = false := by simp; omega
  have p4 : (t.op == 4) = false := by simp; omega
  have p5 : decide (4 < t.op) = false := by simp; omega
  have HW0 := Lib.hid ((Below.refl w.heap.size w).alloc (Nat.le_refl _) (.cells #[.int .i64 t.op, .int .i64 t.a, .int .i64 t.b] 61))
  clear hv hs hm2 hl hsh hop hfit
  go_enter Try.func23, Try.ntmps23
  go_wp2
  go_loopw [6, 10] (fun _ i' wr => ∃ k : Nat, k ≤ l.length ∧ i' = .int .i64 k ∧ Below w.heap.size w wr ∧ Ts.stepTo l s i k = false) (fun _ i' _ => l.length - (intOf i').toNat)
  case atStart => exact ⟨0, Nat.zero_le _, rfl, HW0.out, rfl⟩
  case round =>
    obtain ⟨k, hk, rfl, hb, hall⟩ := hrel
    have HA := Lib.hid hall; clear hall
    have HB := Lib.hid hb
    by_cases hlt : k < l.length
    · obtain ⟨g, off, hq, hg, x1, x2, x3⟩ := (HV.out.below hb).at k hlt
      simp only [Option.some.injEq, Addr.mk.injEq, true_and, and_true] at hq
      obtain ⟨rfl, rfl⟩ := hq
      obtain ⟨_, _, hq, hg2, x4⟩ := bools_at (HS.out.below hb) (k := k) (by rw [HL.out]; exact hlt)
      simp only [Option.some.injEq, Addr.mk.injEq, true_and, and_true] at hq
      obtain ⟨rfl, rfl⟩ := hq
      have HN := Lib.hid (Ts.stepTo_next HA.out)
      have HT := Lib.hid (fun (h : Ts.stepTo l s i (k + 1) = true) => HRB.out.trans (Ts.stepTo_true hlt h))
      have hka := HSH.out.a k hlt
      have hxa := fun (h : (Ts.tm l k).op = 5) => bools_at (HS.out.below hb) (k := (Ts.tm l k).a.toNat) (by rw [HL.out]; have := hka (by omega); omega)
      generalize Ts.tm l k = t at *
      generalize hsk : s.getD k false = sk at *
      clear hsk hb
      cases sk
      · have HX := Lib.hid (show Ts.stepTo l s i (k + 1) = false by rw [HN.out]; simp [Ts.stepB])
        clear hka hxa
        go_wp2
        go_roundw
        case rel => exact ⟨k + 1, hlt, by go_num, HB.out, HX.out⟩
        case measure => simp [intOf]; omega
      · by_cases o1 : t.op = 1
        · have o1' : (t.op == 1) = true := by simp [o1]
          by_cases e1 : t.a = i
          · have e1' : (t.a == (i : Int)) = true := by simp [e1]
            have HP := Lib.hid (HT.out (by rw [HN.out]; simp [Ts.stepB, o1, e1]))
            clear hka hxa o1 e1
            go_wp2
            go_ret
            exact ⟨ret_bool' (by rw [HP.out]), HB.out⟩
          · have e1' : (t.a == (i : Int)) = false := by simp [e1]
            by_cases e2 : t.b = i
            · have e2' : (t.b == (i : Int)) = true := by simp [e2]
              have HP := Lib.hid (HT.out (by rw [HN.out]; simp [Ts.stepB, o1, e2]))
              clear hka hxa o1 e1 e2
              go_wp2
              go_ret
              exact ⟨ret_bool' (by rw [HP.out]), HB.out⟩
            · have e2' : (t.b == (i : Int)) = false := by simp [e2]
              have o5' : (t.op == 5) = false := by simp; omega
              have HX := Lib.hid (show Ts.stepTo l s i (k + 1) = false by rw [HN.out]; simp [Ts.stepB, o1, e1, e2])
              clear hka hxa o1 e1 e2
              go_wp2
              go_roundw
              case rel => exact ⟨k + 1, hlt, by go_num, HB.out, HX.out⟩
              case measure => simp [intOf]; omega
        · have o1' : (t.op == 1) = false := by simp [o1]
          by_cases o5 : t.op = 5
          · have o5' : (t.op == 5) = true := by simp [o5]
            by_cases e2 : t.b = i
            · have e2' : (t.b == (i : Int)) = true := by simp [e2]
              obtain ⟨a1, a2⟩ := hka (by omega)
              obtain ⟨g3, off3, hq, _, x5⟩ := hxa o5
              simp only [Option.some.injEq, Addr.mk.injEq, true_and, and_true] at hq
              obtain ⟨rfl, rfl⟩ := hq
              have a3 : t.a < (l.length : Int) := by omega
              have HY := Lib.hid (show Ts.stepTo l s i (k + 1) = s.getD t.a.toNat false by rw [HN.out]; simp [Ts.stepB, o5, e2])
              generalize s.getD t.a.toNat false = sa at *
              clear hka hxa o1 o5 e2 a2
              cases sa
              · go_wp2
                go_roundw
                case rel => exact ⟨k + 1, hlt, by go_num, HB.out, HY.out⟩
                case measure => simp [intOf]; omega
              · have HP := Lib.hid (HT.out HY.out)
                go_wp2
                go_ret
                exact ⟨ret_bool' (by rw [HP.out]), HB.out⟩
            · have e2' : (t.b == (i : Int)) = false := by simp [e2]
              have HX := Lib.hid (show Ts.stepTo l s i (k + 1) = false by rw [HN.out]; simp [Ts.stepB, o1, o5, e2])
              clear hka hxa o1 o5 e2
              go_wp2
              go_roundw
              case rel => exact ⟨k + 1, hlt, by go_num, HB.out, HX.out⟩
              case measure => simp [intOf]; omega
          · have o5' : (t.op == 5) = false := by simp [o5]
            have HX := Lib.hid (show Ts.stepTo l s i (k + 1) = false by rw [HN.out]; simp [Ts.stepB, o1, o5])
            clear hka hxa o1 o5
            go_wp2
            go_roundw
            case rel => exact ⟨k + 1, hlt, by go_num, HB.out, HX.out⟩
            case measure => simp [intOf]; omega
    · have HX := Lib.hid (show Ts.rstep l s i = false by rw [HRB.out, ← HA.out, show k = l.length by omega])
      go_wp2
      go_ret
      exact ⟨ret_bool' (by rw [HX.out]), hb⟩

set_option maxRecDepth 100000 in
set_option maxHeartbeats 8000000 in
theorem rstep_two_t (v vs : Value) (l : List Tm) (s : List Bool) (i : Nat) (w : World) (hv : TermsAt w v l) (hs : RowAt w vs (bools s)) (hl : s.length = l.length) (hsh : Ts.Shape l) (hi : i < l.length) (hop : (Ts.tm l i).op = 2) (hia : s.getD (Ts.tm l i).a.toNat false = true) :
    Calls Try.prog 23 #[v, vs, .int .i64 i] w fun r w' => r = .returned (.bool (Ts.rstep l s i)) ∧ Below w.heap.size w w' := by
  have HV := Lib.hid hv
  have HS := Lib.hid hs
  have hfit : Fits l.length (Ts.tm l i) := ⟨hsh.op i hi, fun h => by have := hsh.a i hi h; omega, fun h => by have := hsh.b i hi h; omega⟩
  obtain ⟨A, c, rfl, hc, hm⟩ := RowsAt.form hv
  obtain ⟨B, d, rfl, hd, hm2⟩ := bools_form hs
  obtain ⟨gt, offt, rfl, hgt, t1, t2, t3⟩ := hv.at i hi
  rw [hl] at HS hd hs ⊢
  have HL := Lib.hid hl
  have HSH := Lib.hid hsh
  obtain ⟨gs, offs, rfl, hgs, _⟩ := bools_at hs (k := i) (by rw [HL.out]; exact hi)
  have hrs := Ts.rstep_a (l := l) (s := s) (i := i)
  generalize Ts.tm l i = t at t1 t2 t3 hop hfit hrs hia
  have HRA := Lib.hid (hrs (by unfold Ts.stepA; rw [hia] ; simp [hop]))
  clear hrs
  have ho : t.op ≠ 0 := by omega
  obtain ⟨a1, a2⟩ := hfit.a ho
  obtain ⟨_, _, hq, _, xa⟩ := bools_at hs (k := t.a.toNat) (by rw [HL.out]; omega)
  simp only [Option.some.injEq, Addr.mk.injEq, true_and, and_true] at hq
  obtain ⟨rfl, rfl⟩ := hq
  rw [hia] at xa
  have p2 : (t.op == 2) = true := by simp; omega
  have p3 : (t.op == 3) = false := by simp; omega
  have p1 : (t.op == 1) = false := by simp; omega
  have p4 : (t.op == 4) = false := by simp; omega
  have p5 : decide (4 < t.op) = false := by simp; omega
  have HW0 := Lib.hid ((Below.refl w.heap.size w).alloc (Nat.le_refl _) (.cells #[.int .i64 t.op, .int .i64 t.a, .int .i64 t.b] 61))
  clear hv hs hm2 hl hsh hop hfit hia ho
  go_enter Try.func23, Try.ntmps23
  go_wp2
  go_ret
  exact ⟨ret_bool' (by rw [HRA.out]), HW0.out⟩

set_option maxRecDepth 100000 in
set_option maxHeartbeats 8000000 in
theorem rstep_two_f (v vs : Value) (l : List Tm) (s : List Bool) (i : Nat) (w : World) (hv : TermsAt w v l) (hs : RowAt w vs (bools s)) (hl : s.length = l.length) (hsh : Ts.Shape l) (hi : i < l.length) (hop : (Ts.tm l i).op = 2) (hia : s.getD (Ts.tm l i).a.toNat false = false) :
    Calls Try.prog 23 #[v, vs, .int .i64 i] w fun r w' => r = .returned (.bool (Ts.rstep l s i)) ∧ Below w.heap.size w w' := by
  have HV := Lib.hid hv
  have HS := Lib.hid hs
  have hfit : Fits l.length (Ts.tm l i) := ⟨hsh.op i hi, fun h => by have := hsh.a i hi h; omega, fun h => by have := hsh.b i hi h; omega⟩
  obtain ⟨A, c, rfl, hc, hm⟩ := RowsAt.form hv
  obtain ⟨B, d, rfl, hd, hm2⟩ := bools_form hs
  obtain ⟨gt, offt, rfl, hgt, t1, t2, t3⟩ := hv.at i hi
  rw [hl] at HS hd hs ⊢
  have HL := Lib.hid hl
  have HSH := Lib.hid hsh
  obtain ⟨gs, offs, rfl, hgs, _⟩ := bools_at hs (k := i) (by rw [HL.out]; exact hi)
  have hrs := Ts.rstep_b (l := l) (s := s) (i := i)
  generalize Ts.tm l i = t at t1 t2 t3 hop hfit hrs hia
  have HRB := Lib.hid (hrs (by unfold Ts.stepA; rw [hia] ; simp [hop]))
  clear hrs
  have ho : t.op ≠ 0 := by omega
  obtain ⟨a1, a2⟩ := hfit.a ho
  obtain ⟨_, _, hq, _, xa⟩ := bools_at hs (k := t.a.toNat) (by rw [HL.out]; omega)
  simp only [Option.some.injEq, Addr.mk.injEq, true_and, and_true] at hq
  obtain ⟨rfl, rfl⟩ := hq
  rw [hia] at xa
  have p2 : (t.op == 2) = true := by simp; omega
  have p3 : (t.op == 3) = false := by simp; omega
  have p1 : (t.op == 1) = false := by simp; omega
  have p4 : (t.op == 4) = false := by simp; omega
  have p5 : decide (4 < t.op) = false := by simp; omega
  have HW0 := Lib.hid ((Below.refl w.heap.size w).alloc (Nat.le_refl _) (.cells #[.int .i64 t.op, .int .i64 t.a, .int .i64 t.b] 61))
  clear hv hs hm2 hl hsh hop hfit hia ho
  go_enter Try.func23, Try.ntmps23
  go_wp2
  go_loopw [6, 10] (fun _ i' wr => ∃ k : Nat, k ≤ l.length ∧ i' = .int .i64 k ∧ Below w.heap.size w wr ∧ Ts.stepTo l s i k = false) (fun _ i' _ => l.length - (intOf i').toNat)
  case atStart => exact ⟨0, Nat.zero_le _, rfl, HW0.out, rfl⟩
  case round =>
    obtain ⟨k, hk, rfl, hb, hall⟩ := hrel
    have HA := Lib.hid hall; clear hall
    have HB := Lib.hid hb
    by_cases hlt : k < l.length
    · obtain ⟨g, off, hq, hg, x1, x2, x3⟩ := (HV.out.below hb).at k hlt
      simp only [Option.some.injEq, Addr.mk.injEq, true_and, and_true] at hq
      obtain ⟨rfl, rfl⟩ := hq
      obtain ⟨_, _, hq, hg2, x4⟩ := bools_at (HS.out.below hb) (k := k) (by rw [HL.out]; exact hlt)
      simp only [Option.some.injEq, Addr.mk.injEq, true_and, and_true] at hq
      obtain ⟨rfl, rfl⟩ := hq
      have HN := Lib.hid (Ts.stepTo_next HA.out)
      have HT := Lib.hid (fun (h : Ts.stepTo l s i (k + 1) = true) => HRB.out.trans (Ts.stepTo_true hlt h))
      have hka := HSH.out.a k hlt
      have hxa := fun (h : (Ts.tm l k).op = 5) => bools_at (HS.out.below hb) (k := (Ts.tm l k).a.toNat) (by rw [HL.out]; have := hka (by omega); omega)
      generalize Ts.tm l k = t at *
      generalize hsk : s.getD k false = sk at *
      clear hsk hb
      cases sk
      · have HX := Lib.hid (show Ts.stepTo l s i (k + 1) = false by rw [HN.out]; simp [Ts.stepB])
        clear hka hxa
        go_wp2
        go_roundw
        case rel => exact ⟨k + 1, hlt, by go_num, HB.out, HX.out⟩
        case measure => simp [intOf]; omega
      · by_cases o1 : t.op = 1
        · have o1' : (t.op == 1) = true := by simp [o1]
          by_cases e1 : t.a = i
          · have e1' : (t.a == (i : Int)) = true := by simp [e1]
            have HP := Lib.hid (HT.out (by rw [HN.out]; simp [Ts.stepB, o1, e1]))
            clear hka hxa o1 e1
            go_wp2
            go_ret
            exact ⟨ret_bool' (by rw [HP.out]), HB.out⟩
          · have e1' : (t.a == (i : Int)) = false := by simp [e1]
            by_cases e2 : t.b = i
            · have e2' : (t.b == (i : Int)) = true := by simp [e2]
              have HP := Lib.hid (HT.out (by rw [HN.out]; simp [Ts.stepB, o1, e2]))
              clear hka hxa o1 e1 e2
              go_wp2
              go_ret
              exact ⟨ret_bool' (by rw [HP.out]), HB.out⟩
            · have e2' : (t.b == (i : Int)) = false := by simp [e2]
              have o5' : (t.op == 5) = false := by simp; omega
              have HX := Lib.hid (show Ts.stepTo l s i (k + 1) = false by rw [HN.out]; simp [Ts.stepB, o1, e1, e2])
              clear hka hxa o1 e1 e2
              go_wp2
              go_roundw
              case rel => exact ⟨k + 1, hlt, by go_num, HB.out, HX.out⟩
              case measure => simp [intOf]; omega
        · have o1' : (t.op == 1) = false := by simp [o1]
          by_cases o5 : t.op = 5
          · have o5' : (t.op == 5) = true := by simp [o5]
            by_cases e2 : t.b = i
            · have e2' : (t.b == (i : Int)) = true := by simp [e2]
              obtain ⟨a1, a2⟩ := hka (by omega)
              obtain ⟨g3, off3, hq, _, x5⟩ := hxa o5
              simp only [Option.some.injEq, Addr.mk.injEq, true_and, and_true] at hq
              obtain ⟨rfl, rfl⟩ := hq
              have a3 : t.a < (l.length : Int) := by omega
              have HY := Lib.hid (show Ts.stepTo l s i (k + 1) = s.getD t.a.toNat false by rw [HN.out]; simp [Ts.stepB, o5, e2])
              generalize s.getD t.a.toNat false = sa at *
              clear hka hxa o1 o5 e2 a2
              cases sa
              · go_wp2
                go_roundw
                case rel => exact ⟨k + 1, hlt, by go_num, HB.out, HY.out⟩
                case measure => simp [intOf]; omega
              · have HP := Lib.hid (HT.out HY.out)
                go_wp2
                go_ret
                exact ⟨ret_bool' (by rw [HP.out]), HB.out⟩
            · have e2' : (t.b == (i : Int)) = false := by simp [e2]
              have HX := Lib.hid (show Ts.stepTo l s i (k + 1) = false by rw [HN.out]; simp [Ts.stepB, o1, o5, e2])
              clear hka hxa o1 o5 e2
              go_wp2
              go_roundw
              case rel => exact ⟨k + 1, hlt, by go_num, HB.out, HX.out⟩
              case measure => simp [intOf]; omega
          · have o5' : (t.op == 5) = false := by simp [o5]
            have HX := Lib.hid (show Ts.stepTo l s i (k + 1) = false by rw [HN.out]; simp [Ts.stepB, o1, o5])
            clear hka hxa o1 o5
            go_wp2
            go_roundw
            case rel => exact ⟨k + 1, hlt, by go_num, HB.out, HX.out⟩
            case measure => simp [intOf]; omega
    · have HX := Lib.hid (show Ts.rstep l s i = false by rw [HRB.out, ← HA.out, show k = l.length by omega])
      go_wp2
      go_ret
      exact ⟨ret_bool' (by rw [HX.out]), hb⟩

set_option maxRecDepth 100000 in
set_option maxHeartbeats 8000000 in
theorem rstep_three_t (v vs : Value) (l : List Tm) (s : List Bool) (i : Nat) (w : World) (hv : TermsAt w v l) (hs : RowAt w vs (bools s)) (hl : s.length = l.length) (hsh : Ts.Shape l) (hi : i < l.length) (hop : (Ts.tm l i).op = 3) (hia : s.getD (Ts.tm l i).a.toNat false = true) :
    Calls Try.prog 23 #[v, vs, .int .i64 i] w fun r w' => r = .returned (.bool (Ts.rstep l s i)) ∧ Below w.heap.size w w' := by
  have HV := Lib.hid hv
  have HS := Lib.hid hs
  have hfit : Fits l.length (Ts.tm l i) := ⟨hsh.op i hi, fun h => by have := hsh.a i hi h; omega, fun h => by have := hsh.b i hi h; omega⟩
  obtain ⟨A, c, rfl, hc, hm⟩ := RowsAt.form hv
  obtain ⟨B, d, rfl, hd, hm2⟩ := bools_form hs
  obtain ⟨gt, offt, rfl, hgt, t1, t2, t3⟩ := hv.at i hi
  rw [hl] at HS hd hs ⊢
  have HL := Lib.hid hl
  have HSH := Lib.hid hsh
  obtain ⟨gs, offs, rfl, hgs, _⟩ := bools_at hs (k := i) (by rw [HL.out]; exact hi)
  have hrs := Ts.rstep_a (l := l) (s := s) (i := i)
  generalize Ts.tm l i = t at t1 t2 t3 hop hfit hrs hia
  have HRA := Lib.hid (hrs (by unfold Ts.stepA; rw [hia] ; simp [hop]))
  clear hrs
  have ho : t.op ≠ 0 := by omega
  obtain ⟨a1, a2⟩ := hfit.a ho
  obtain ⟨_, _, hq, _, xa⟩ := bools_at hs (k := t.a.toNat) (by rw [HL.out]; omega)
  simp only [Option.some.injEq, Addr.mk.injEq, true_and, and_true] at hq
  obtain ⟨rfl, rfl⟩ := hq
  rw [hia] at xa
  have p2 : (t.op == 2) = false := by simp; omega
  have p3 : (t.op == 3) = true := by simp; omega
  have p1 : (t.op == 1) = false := by simp; omega
  have p4 : (t.op == 4) = false := by simp; omega
  have p5 : decide (4 < t.op) = false := by simp; omega
  have HW0 := Lib.hid ((Below.refl w.heap.size w).alloc (Nat.le_refl _) (.cells #[.int .i64 t.op, .int .i64 t.a, .int .i64 t.b] 61))
  clear hv hs hm2 hl hsh hop hfit hia ho
  go_enter Try.func23, Try.ntmps23
  go_wp2
  go_ret
  exact ⟨ret_bool' (by rw [HRA.out]), HW0.out⟩

set_option maxRecDepth 100000 in
set_option maxHeartbeats 8000000 in
theorem rstep_three_f (v vs : Value) (l : List Tm) (s : List Bool) (i : Nat) (w : World) (hv : TermsAt w v l) (hs : RowAt w vs (bools s)) (hl : s.length = l.length) (hsh : Ts.Shape l) (hi : i < l.length) (hop : (Ts.tm l i).op = 3) (hia : s.getD (Ts.tm l i).a.toNat false = false) :
    Calls Try.prog 23 #[v, vs, .int .i64 i] w fun r w' => r = .returned (.bool (Ts.rstep l s i)) ∧ Below w.heap.size w w' := by
  have HV := Lib.hid hv
  have HS := Lib.hid hs
  have hfit : Fits l.length (Ts.tm l i) := ⟨hsh.op i hi, fun h => by have := hsh.a i hi h; omega, fun h => by have := hsh.b i hi h; omega⟩
  obtain ⟨A, c, rfl, hc, hm⟩ := RowsAt.form hv
  obtain ⟨B, d, rfl, hd, hm2⟩ := bools_form hs
  obtain ⟨gt, offt, rfl, hgt, t1, t2, t3⟩ := hv.at i hi
  rw [hl] at HS hd hs ⊢
  have HL := Lib.hid hl
  have HSH := Lib.hid hsh
  obtain ⟨gs, offs, rfl, hgs, _⟩ := bools_at hs (k := i) (by rw [HL.out]; exact hi)
  have hrs := Ts.rstep_b (l := l) (s := s) (i := i)
  generalize Ts.tm l i = t at t1 t2 t3 hop hfit hrs hia
  have HRB := Lib.hid (hrs (by unfold Ts.stepA; rw [hia] ; simp [hop]))
  clear hrs
  have ho : t.op ≠ 0 := by omega
  obtain ⟨a1, a2⟩ := hfit.a ho
  obtain ⟨_, _, hq, _, xa⟩ := bools_at hs (k := t.a.toNat) (by rw [HL.out]; omega)
  simp only [Option.some.injEq, Addr.mk.injEq, true_and, and_true] at hq
  obtain ⟨rfl, rfl⟩ := hq
  rw [hia] at xa
  have p2 : (t.op == 2) = false := by simp; omega
  have p3 : (t.op == 3) = true := by simp; omega
  have p1 : (t.op == 1) = false := by simp; omega
  have p4 : (t.op == 4) = false := by simp; omega
  have p5 : decide (4 < t.op) = false := by simp; omega
  have HW0 := Lib.hid ((Below.refl w.heap.size w).alloc (Nat.le_refl _) (.cells #[.int .i64 t.op, .int .i64 t.a, .int .i64 t.b] 61))
  clear hv hs hm2 hl hsh hop hfit hia ho
  go_enter Try.func23, Try.ntmps23
  go_wp2
  go_loopw [6, 10] (fun _ i' wr => ∃ k : Nat, k ≤ l.length ∧ i' = .int .i64 k ∧ Below w.heap.size w wr ∧ Ts.stepTo l s i k = false) (fun _ i' _ => l.length - (intOf i').toNat)
  case atStart => exact ⟨0, Nat.zero_le _, rfl, HW0.out, rfl⟩
  case round =>
    obtain ⟨k, hk, rfl, hb, hall⟩ := hrel
    have HA := Lib.hid hall; clear hall
    have HB := Lib.hid hb
    by_cases hlt : k < l.length
    · obtain ⟨g, off, hq, hg, x1, x2, x3⟩ := (HV.out.below hb).at k hlt
      simp only [Option.some.injEq, Addr.mk.injEq, true_and, and_true] at hq
      obtain ⟨rfl, rfl⟩ := hq
      obtain ⟨_, _, hq, hg2, x4⟩ := bools_at (HS.out.below hb) (k := k) (by rw [HL.out]; exact hlt)
      simp only [Option.some.injEq, Addr.mk.injEq, true_and, and_true] at hq
      obtain ⟨rfl, rfl⟩ := hq
      have HN := Lib.hid (Ts.stepTo_next HA.out)
      have HT := Lib.hid (fun (h : Ts.stepTo l s i (k + 1) = true) => HRB.out.trans (Ts.stepTo_true hlt h))
      have hka := HSH.out.a k hlt
      have hxa := fun (h : (Ts.tm l k).op = 5) => bools_at (HS.out.below hb) (k := (Ts.tm l k).a.toNat) (by rw [HL.out]; have := hka (by omega); omega)
      generalize Ts.tm l k = t at *
      generalize hsk : s.getD k false = sk at *
      clear hsk hb
      cases sk
      · have HX := Lib.hid (show Ts.stepTo l s i (k + 1) = false by rw [HN.out]; simp [Ts.stepB])
        clear hka hxa
        go_wp2
        go_roundw
        case rel => exact ⟨k + 1, hlt, by go_num, HB.out, HX.out⟩
        case measure => simp [intOf]; omega
      · by_cases o1 : t.op = 1
        · have o1' : (t.op == 1) = true := by simp [o1]
          by_cases e1 : t.a = i
          · have e1' : (t.a == (i : Int)) = true := by simp [e1]
            have HP := Lib.hid (HT.out (by rw [HN.out]; simp [Ts.stepB, o1, e1]))
            clear hka hxa o1 e1
            go_wp2
            go_ret
            exact ⟨ret_bool' (by rw [HP.out]), HB.out⟩
          · have e1' : (t.a == (i : Int)) = false := by simp [e1]
            by_cases e2 : t.b = i
            · have e2' : (t.b == (i : Int)) = true := by simp [e2]
              have HP := Lib.hid (HT.out (by rw [HN.out]; simp [Ts.stepB, o1, e2]))
              clear hka hxa o1 e1 e2
              go_wp2
              go_ret
              exact ⟨ret_bool' (by rw [HP.out]), HB.out⟩
            · have e2' : (t.b == (i : Int)) = false := by simp [e2]
              have o5' : (t.op == 5) = false := by simp; omega
              have HX := Lib.hid (show Ts.stepTo l s i (k + 1) = false by rw [HN.out]; simp [Ts.stepB, o1, e1, e2])
              clear hka hxa o1 e1 e2
              go_wp2
              go_roundw
              case rel => exact ⟨k + 1, hlt, by go_num, HB.out, HX.out⟩
              case measure => simp [intOf]; omega
        · have o1' : (t.op == 1) = false := by simp [o1]
          by_cases o5 : t.op = 5
          · have o5' : (t.op == 5) = true := by simp [o5]
            by_cases e2 : t.b = i
            · have e2' : (t.b == (i : Int)) = true := by simp [e2]
              obtain ⟨a1, a2⟩ := hka (by omega)
              obtain ⟨g3, off3, hq, _, x5⟩ := hxa o5
              simp only [Option.some.injEq, Addr.mk.injEq, true_and, and_true] at hq
              obtain ⟨rfl, rfl⟩ := hq
              have a3 : t.a < (l.length : Int) := by omega
              have HY := Lib.hid (show Ts.stepTo l s i (k + 1) = s.getD t.a.toNat false by rw [HN.out]; simp [Ts.stepB, o5, e2])
              generalize s.getD t.a.toNat false = sa at *
              clear hka hxa o1 o5 e2 a2
              cases sa
              · go_wp2
                go_roundw
                case rel => exact ⟨k + 1, hlt, by go_num, HB.out, HY.out⟩
                case measure => simp [intOf]; omega
              · have HP := Lib.hid (HT.out HY.out)
                go_wp2
                go_ret
                exact ⟨ret_bool' (by rw [HP.out]), HB.out⟩
            · have e2' : (t.b == (i : Int)) = false := by simp [e2]
              have HX := Lib.hid (show Ts.stepTo l s i (k + 1) = false by rw [HN.out]; simp [Ts.stepB, o1, o5, e2])
              clear hka hxa o1 o5 e2
              go_wp2
              go_roundw
              case rel => exact ⟨k + 1, hlt, by go_num, HB.out, HX.out⟩
              case measure => simp [intOf]; omega
          · have o5' : (t.op == 5) = false := by simp [o5]
            have HX := Lib.hid (show Ts.stepTo l s i (k + 1) = false by rw [HN.out]; simp [Ts.stepB, o1, o5])
            clear hka hxa o1 o5
            go_wp2
            go_roundw
            case rel => exact ⟨k + 1, hlt, by go_num, HB.out, HX.out⟩
            case measure => simp [intOf]; omega
    · have HX := Lib.hid (show Ts.rstep l s i = false by rw [HRB.out, ← HA.out, show k = l.length by omega])
      go_wp2
      go_ret
      exact ⟨ret_bool' (by rw [HX.out]), hb⟩

set_option maxRecDepth 100000 in
set_option maxHeartbeats 8000000 in
theorem rstep_one_tt (v vs : Value) (l : List Tm) (s : List Bool) (i : Nat) (w : World) (hv : TermsAt w v l) (hs : RowAt w vs (bools s)) (hl : s.length = l.length) (hsh : Ts.Shape l) (hi : i < l.length) (hop : (Ts.tm l i).op = 1) (hia : s.getD (Ts.tm l i).a.toNat false = true) (hib : s.getD (Ts.tm l i).b.toNat false = true) :
    Calls Try.prog 23 #[v, vs, .int .i64 i] w fun r w' => r = .returned (.bool (Ts.rstep l s i)) ∧ Below w.heap.size w w' := by
  have HV := Lib.hid hv
  have HS := Lib.hid hs
  have hfit : Fits l.length (Ts.tm l i) := ⟨hsh.op i hi, fun h => by have := hsh.a i hi h; omega, fun h => by have := hsh.b i hi h; omega⟩
  obtain ⟨A, c, rfl, hc, hm⟩ := RowsAt.form hv
  obtain ⟨B, d, rfl, hd, hm2⟩ := bools_form hs
  obtain ⟨gt, offt, rfl, hgt, t1, t2, t3⟩ := hv.at i hi
  rw [hl] at HS hd hs ⊢
  have HL := Lib.hid hl
  have HSH := Lib.hid hsh
  obtain ⟨gs, offs, rfl, hgs, _⟩ := bools_at hs (k := i) (by rw [HL.out]; exact hi)
  have hrs := Ts.rstep_a (l := l) (s := s) (i := i)
  generalize Ts.tm l i = t at t1 t2 t3 hop hfit hrs hia hib
  have HRA := Lib.hid (hrs (by unfold Ts.stepA; rw [hia, hib] ; simp [hop]))
  clear hrs
  have ho : t.op ≠ 0 := by omega
  obtain ⟨a1, a2⟩ := hfit.a ho
  obtain ⟨_, _, hq, _, xa⟩ := bools_at hs (k := t.a.toNat) (by rw [HL.out]; omega)
  simp only [Option.some.injEq, Addr.mk.injEq, true_and, and_true] at hq
  obtain ⟨rfl, rfl⟩ := hq
  obtain ⟨b1, b2⟩ := hfit.b (by omega)
  obtain ⟨_, _, hq, _, xb⟩ := bools_at hs (k := t.b.toNat) (by rw [HL.out]; omega)
  simp only [Option.some.injEq, Addr.mk.injEq, true_and, and_true] at hq
  obtain ⟨rfl, rfl⟩ := hq
  rw [hia] at xa
  rw [hib] at xb
  have p2 : (t.op == 2) = false := by simp; omega
  have p3 : (t.op == 3) = false := by simp; omega
  have p1 : (t.op == 1) = true := by simp; omega
  have p4 : (t.op == 4) = false := by simp; omega
  have p5 : decide (4 < t.op) = false := by simp; omega
  have HW0 := Lib.hid ((Below.refl w.heap.size w).alloc (Nat.le_refl _) (.cells #[.int .i64 t.op, .int .i64 t.a, .int .i64 t.b] 61))
  clear hv hs hm2 hl hsh hop hfit hia ho hib
  go_enter Try.func23, Try.ntmps23
  go_wp2
  go_ret
  exact ⟨ret_bool' (by rw [HRA.out]), HW0.out⟩

set_option maxRecDepth 100000 in
set_option maxHeartbeats 8000000 in
theorem rstep_one_tf (v vs : Value) (l : List Tm) (s : List Bool) (i : Nat) (w : World) (hv : TermsAt w v l) (hs : RowAt w vs (bools s)) (hl : s.length = l.length) (hsh : Ts.Shape l) (hi : i < l.length) (hop : (Ts.tm l i).op = 1) (hia : s.getD (Ts.tm l i).a.toNat false = true) (hib : s.getD (Ts.tm l i).b.toNat false = false) :
    Calls Try.prog 23 #[v, vs, .int .i64 i] w fun r w' => r = .returned (.bool (Ts.rstep l s i)) ∧ Below w.heap.size w w' := by
  have HV := Lib.hid hv
  have HS := Lib.hid hs
  have hfit : Fits l.length (Ts.tm l i) := ⟨hsh.op i hi, fun h => by have := hsh.a i hi h; omega, fun h => by have := hsh.b i hi h; omega⟩
  obtain ⟨A, c, rfl, hc, hm⟩ := RowsAt.form hv
  obtain ⟨B, d, rfl, hd, hm2⟩ := bools_form hs
  obtain ⟨gt, offt, rfl, hgt, t1, t2, t3⟩ := hv.at i hi
  rw [hl] at HS hd hs ⊢
  have HL := Lib.hid hl
  have HSH := Lib.hid hsh
  obtain ⟨gs, offs, rfl, hgs, _⟩ := bools_at hs (k := i) (by rw [HL.out]; exact hi)
  have hrs := Ts.rstep_b (l := l) (s := s) (i := i)
  generalize Ts.tm l i = t at t1 t2 t3 hop hfit hrs hia hib
  have HRB := Lib.hid (hrs (by unfold Ts.stepA; rw [hia, hib] ; simp [hop]))
  clear hrs
  have ho : t.op ≠ 0 := by omega
  obtain ⟨a1, a2⟩ := hfit.a ho
  obtain ⟨_, _, hq, _, xa⟩ := bools_at hs (k := t.a.toNat) (by rw [HL.out]; omega)
  simp only [Option.some.injEq, Addr.mk.injEq, true_and, and_true] at hq
  obtain ⟨rfl, rfl⟩ := hq
  obtain ⟨b1, b2⟩ := hfit.b (by omega)
  obtain ⟨_, _, hq, _, xb⟩ := bools_at hs (k := t.b.toNat) (by rw [HL.out]; omega)
  simp only [Option.some.injEq, Addr.mk.injEq, true_and, and_true] at hq
  obtain ⟨rfl, rfl⟩ := hq
  rw [hia] at xa
  rw [hib] at xb
  have p2 : (t.op == 2) = false := by simp; omega
  have p3 : (t.op == 3) = false := by simp; omega
  have p1 : (t.op == 1) = true := by simp; omega
  have p4 : (t.op == 4) = false := by simp; omega
  have p5 : decide (4 < t.op) = false := by simp; omega
  have HW0 := Lib.hid ((Below.refl w.heap.size w).alloc (Nat.le_refl _) (.cells #[.int .i64 t.op, .int .i64 t.a, .int .i64 t.b] 61))
  clear hv hs hm2 hl hsh hop hfit hia ho hib
  go_enter Try.func23, Try.ntmps23
  go_wp2
  go_loopw [6, 10] (fun _ i' wr => ∃ k : Nat, k ≤ l.length ∧ i' = .int .i64 k ∧ Below w.heap.size w wr ∧ Ts.stepTo l s i k = false) (fun _ i' _ => l.length - (intOf i').toNat)
  case atStart => exact ⟨0, Nat.zero_le _, rfl, HW0.out, rfl⟩
  case round =>
    obtain ⟨k, hk, rfl, hb, hall⟩ := hrel
    have HA := Lib.hid hall; clear hall
    have HB := Lib.hid hb
    by_cases hlt : k < l.length
    · obtain ⟨g, off, hq, hg, x1, x2, x3⟩ := (HV.out.below hb).at k hlt
      simp only [Option.some.injEq, Addr.mk.injEq, true_and, and_true] at hq
      obtain ⟨rfl, rfl⟩ := hq
      obtain ⟨_, _, hq, hg2, x4⟩ := bools_at (HS.out.below hb) (k := k) (by rw [HL.out]; exact hlt)
      simp only [Option.some.injEq, Addr.mk.injEq, true_and, and_true] at hq
      obtain ⟨rfl, rfl⟩ := hq
      have HN := Lib.hid (Ts.stepTo_next HA.out)
      have HT := Lib.hid (fun (h : Ts.stepTo l s i (k + 1) = true) => HRB.out.trans (Ts.stepTo_true hlt h))
      have hka := HSH.out.a k hlt
      have hxa := fun (h : (Ts.tm l k).op = 5) => bools_at (HS.out.below hb) (k := (Ts.tm l k).a.toNat) (by rw [HL.out]; have := hka (by omega); omega)
      generalize Ts.tm l k = t at *
      generalize hsk : s.getD k false = sk at *
      clear hsk hb
      cases sk
      · have HX := Lib.hid (show Ts.stepTo l s i (k + 1) = false by rw [HN.out]; simp [Ts.stepB])
        clear hka hxa
        go_wp2
        go_roundw
        case rel => exact ⟨k + 1, hlt, by go_num, HB.out, HX.out⟩
        case measure => simp [intOf]; omega
      · by_cases o1 : t.op = 1
        · have o1' : (t.op == 1) = true := by simp [o1]
          by_cases e1 : t.a = i
          · have e1' : (t.a == (i : Int)) = true := by simp [e1]
            have HP := Lib.hid (HT.out (by rw [HN.out]; simp [Ts.stepB, o1, e1]))
            clear hka hxa o1 e1
            go_wp2
            go_ret
            exact ⟨ret_bool' (by rw [HP.out]), HB.out⟩
          · have e1' : (t.a == (i : Int)) = false := by simp [e1]
            by_cases e2 : t.b = i
            · have e2' : (t.b == (i : Int)) = true := by simp [e2]
              have HP := Lib.hid (HT.out (by rw [HN.out]; simp [Ts.stepB, o1, e2]))
              clear hka hxa o1 e1 e2
              go_wp2
              go_ret
              exact ⟨ret_bool' (by rw [HP.out]), HB.out⟩
            · have e2' : (t.b == (i : Int)) = false := by simp [e2]
              have o5' : (t.op == 5) = false := by simp; omega
              have HX := Lib.hid (show Ts.stepTo l s i (k + 1) = false by rw [HN.out]; simp [Ts.stepB, o1, e1, e2])
              clear hka hxa o1 e1 e2
              go_wp2
              go_roundw
              case rel => exact ⟨k + 1, hlt, by go_num, HB.out, HX.out⟩
              case measure => simp [intOf]; omega
        · have o1' : (t.op == 1) = false := by simp [o1]
          by_cases o5 : t.op = 5
          · have o5' : (t.op == 5) = true := by simp [o5]
            by_cases e2 : t.b = i
            · have e2' : (t.b == (i : Int)) = true := by simp [e2]
              obtain ⟨a1, a2⟩ := hka (by omega)
              obtain ⟨g3, off3, hq, _, x5⟩ := hxa o5
              simp only [Option.some.injEq, Addr.mk.injEq, true_and, and_true] at hq
              obtain ⟨rfl, rfl⟩ := hq
              have a3 : t.a < (l.length : Int) := by omega
              have HY := Lib.hid (show Ts.stepTo l s i (k + 1) = s.getD t.a.toNat false by rw [HN.out]; simp [Ts.stepB, o5, e2])
              generalize s.getD t.a.toNat false = sa at *
              clear hka hxa o1 o5 e2 a2
              cases sa
              · go_wp2
                go_roundw
                case rel => exact ⟨k + 1, hlt, by go_num, HB.out, HY.out⟩
                case measure => simp [intOf]; omega
              · have HP := Lib.hid (HT.out HY.out)
                go_wp2
                go_ret
                exact ⟨ret_bool' (by rw [HP.out]), HB.out⟩
            · have e2' : (t.b == (i : Int)) = false := by simp [e2]
              have HX := Lib.hid (show Ts.stepTo l s i (k + 1) = false by rw [HN.out]; simp [Ts.stepB, o1, o5, e2])
              clear hka hxa o1 o5 e2
              go_wp2
              go_roundw
              case rel => exact ⟨k + 1, hlt, by go_num, HB.out, HX.out⟩
              case measure => simp [intOf]; omega
          · have o5' : (t.op == 5) = false := by simp [o5]
            have HX := Lib.hid (show Ts.stepTo l s i (k + 1) = false by rw [HN.out]; simp [Ts.stepB, o1, o5])
            clear hka hxa o1 o5
            go_wp2
            go_roundw
            case rel => exact ⟨k + 1, hlt, by go_num, HB.out, HX.out⟩
            case measure => simp [intOf]; omega
    · have HX := Lib.hid (show Ts.rstep l s i = false by rw [HRB.out, ← HA.out, show k = l.length by omega])
      go_wp2
      go_ret
      exact ⟨ret_bool' (by rw [HX.out]), hb⟩

set_option maxRecDepth 100000 in
set_option maxHeartbeats 8000000 in
theorem rstep_one_f (v vs : Value) (l : List Tm) (s : List Bool) (i : Nat) (w : World) (hv : TermsAt w v l) (hs : RowAt w vs (bools s)) (hl : s.length = l.length) (hsh : Ts.Shape l) (hi : i < l.length) (hop : (Ts.tm l i).op = 1) (hia : s.getD (Ts.tm l i).a.toNat false = false) :
    Calls Try.prog 23 #[v, vs, .int .i64 i] w fun r w' => r = .returned (.bool (Ts.rstep l s i)) ∧ Below w.heap.size w w' := by
  have HV := Lib.hid hv
  have HS := Lib.hid hs
  have hfit : Fits l.length (Ts.tm l i) := ⟨hsh.op i hi, fun h => by have := hsh.a i hi h; omega, fun h => by have := hsh.b i hi h; omega⟩
  obtain ⟨A, c, rfl, hc, hm⟩ := RowsAt.form hv
  obtain ⟨B, d, rfl, hd, hm2⟩ := bools_form hs
  obtain ⟨gt, offt, rfl, hgt, t1, t2, t3⟩ := hv.at i hi
  rw [hl] at HS hd hs ⊢
  have HL := Lib.hid hl
  have HSH := Lib.hid hsh
  obtain ⟨gs, offs, rfl, hgs, _⟩ := bools_at hs (k := i) (by rw [HL.out]; exact hi)
  have hrs := Ts.rstep_b (l := l) (s := s) (i := i)
  generalize Ts.tm l i = t at t1 t2 t3 hop hfit hrs hia
  have HRB := Lib.hid (hrs (by unfold Ts.stepA; rw [hia] ; simp [hop]))
  clear hrs
  have ho : t.op ≠ 0 := by omega
  obtain ⟨a1, a2⟩ := hfit.a ho
  obtain ⟨_, _, hq, _, xa⟩ := bools_at hs (k := t.a.toNat) (by rw [HL.out]; omega)
  simp only [Option.some.injEq, Addr.mk.injEq, true_and, and_true] at hq
  obtain ⟨rfl, rfl⟩ := hq
  rw [hia] at xa
  have p2 : (t.op == 2) = false := by simp; omega
  have p3 : (t.op == 3) = false := by simp; omega
  have p1 : (t.op == 1) = true := by simp; omega
  have p4 : (t.op == 4) = false := by simp; omega
  have p5 : decide (4 < t.op) = false := by simp; omega
  have HW0 := Lib.hid ((Below.refl w.heap.size w).alloc (Nat.le_refl _) (.cells #[.int .i64 t.op, .int .i64 t.a, .int .i64 t.b] 61))
  clear hv hs hm2 hl hsh hop hfit hia ho
  go_enter Try.func23, Try.ntmps23
  go_wp2
  go_loopw [6, 10] (fun _ i' wr => ∃ k : Nat, k ≤ l.length ∧ i' = .int .i64 k ∧ Below w.heap.size w wr ∧ Ts.stepTo l s i k = false) (fun _ i' _ => l.length - (intOf i').toNat)
  case atStart => exact ⟨0, Nat.zero_le _, rfl, HW0.out, rfl⟩
  case round =>
    obtain ⟨k, hk, rfl, hb, hall⟩ := hrel
    have HA := Lib.hid hall; clear hall
    have HB := Lib.hid hb
    by_cases hlt : k < l.length
    · obtain ⟨g, off, hq, hg, x1, x2, x3⟩ := (HV.out.below hb).at k hlt
      simp only [Option.some.injEq, Addr.mk.injEq, true_and, and_true] at hq
      obtain ⟨rfl, rfl⟩ := hq
      obtain ⟨_, _, hq, hg2, x4⟩ := bools_at (HS.out.below hb) (k := k) (by rw [HL.out]; exact hlt)
      simp only [Option.some.injEq, Addr.mk.injEq, true_and, and_true] at hq
      obtain ⟨rfl, rfl⟩ := hq
      have HN := Lib.hid (Ts.stepTo_next HA.out)
      have HT := Lib.hid (fun (h : Ts.stepTo l s i (k + 1) = true) => HRB.out.trans (Ts.stepTo_true hlt h))
      have hka := HSH.out.a k hlt
      have hxa := fun (h : (Ts.tm l k).op = 5) => bools_at (HS.out.below hb) (k := (Ts.tm l k).a.toNat) (by rw [HL.out]; have := hka (by omega); omega)
      generalize Ts.tm l k = t at *
      generalize hsk : s.getD k false = sk at *
      clear hsk hb
      cases sk
      · have HX := Lib.hid (show Ts.stepTo l s i (k + 1) = false by rw [HN.out]; simp [Ts.stepB])
        clear hka hxa
        go_wp2
        go_roundw
        case rel => exact ⟨k + 1, hlt, by go_num, HB.out, HX.out⟩
        case measure => simp [intOf]; omega
      · by_cases o1 : t.op = 1
        · have o1' : (t.op == 1) = true := by simp [o1]
          by_cases e1 : t.a = i
          · have e1' : (t.a == (i : Int)) = true := by simp [e1]
            have HP := Lib.hid (HT.out (by rw [HN.out]; simp [Ts.stepB, o1, e1]))
            clear hka hxa o1 e1
            go_wp2
            go_ret
            exact ⟨ret_bool' (by rw [HP.out]), HB.out⟩
          · have e1' : (t.a == (i : Int)) = false := by simp [e1]
            by_cases e2 : t.b = i
            · have e2' : (t.b == (i : Int)) = true := by simp [e2]
              have HP := Lib.hid (HT.out (by rw [HN.out]; simp [Ts.stepB, o1, e2]))
              clear hka hxa o1 e1 e2
              go_wp2
              go_ret
              exact ⟨ret_bool' (by rw [HP.out]), HB.out⟩
            · have e2' : (t.b == (i : Int)) = false := by simp [e2]
              have o5' : (t.op == 5) = false := by simp; omega
              have HX := Lib.hid (show Ts.stepTo l s i (k + 1) = false by rw [HN.out]; simp [Ts.stepB, o1, e1, e2])
              clear hka hxa o1 e1 e2
              go_wp2
              go_roundw
              case rel => exact ⟨k + 1, hlt, by go_num, HB.out, HX.out⟩
              case measure => simp [intOf]; omega
        · have o1' : (t.op == 1) = false := by simp [o1]
          by_cases o5 : t.op = 5
          · have o5' : (t.op == 5) = true := by simp [o5]
            by_cases e2 : t.b = i
            · have e2' : (t.b == (i : Int)) = true := by simp [e2]
              obtain ⟨a1, a2⟩ := hka (by omega)
              obtain ⟨g3, off3, hq, _, x5⟩ := hxa o5
              simp only [Option.some.injEq, Addr.mk.injEq, true_and, and_true] at hq
              obtain ⟨rfl, rfl⟩ := hq
              have a3 : t.a < (l.length : Int) := by omega
              have HY := Lib.hid (show Ts.stepTo l s i (k + 1) = s.getD t.a.toNat false by rw [HN.out]; simp [Ts.stepB, o5, e2])
              generalize s.getD t.a.toNat false = sa at *
              clear hka hxa o1 o5 e2 a2
              cases sa
              · go_wp2
                go_roundw
                case rel => exact ⟨k + 1, hlt, by go_num, HB.out, HY.out⟩
                case measure => simp [intOf]; omega
              · have HP := Lib.hid (HT.out HY.out)
                go_wp2
                go_ret
                exact ⟨ret_bool' (by rw [HP.out]), HB.out⟩
            · have e2' : (t.b == (i : Int)) = false := by simp [e2]
              have HX := Lib.hid (show Ts.stepTo l s i (k + 1) = false by rw [HN.out]; simp [Ts.stepB, o1, o5, e2])
              clear hka hxa o1 o5 e2
              go_wp2
              go_roundw
              case rel => exact ⟨k + 1, hlt, by go_num, HB.out, HX.out⟩
              case measure => simp [intOf]; omega
          · have o5' : (t.op == 5) = false := by simp [o5]
            have HX := Lib.hid (show Ts.stepTo l s i (k + 1) = false by rw [HN.out]; simp [Ts.stepB, o1, o5])
            clear hka hxa o1 o5
            go_wp2
            go_roundw
            case rel => exact ⟨k + 1, hlt, by go_num, HB.out, HX.out⟩
            case measure => simp [intOf]; omega
    · have HX := Lib.hid (show Ts.rstep l s i = false by rw [HRB.out, ← HA.out, show k = l.length by omega])
      go_wp2
      go_ret
      exact ⟨ret_bool' (by rw [HX.out]), hb⟩

set_option maxRecDepth 100000 in
set_option maxHeartbeats 8000000 in
theorem rstep_five_tt (v vs : Value) (l : List Tm) (s : List Bool) (i : Nat) (w : World) (hv : TermsAt w v l) (hs : RowAt w vs (bools s)) (hl : s.length = l.length) (hsh : Ts.Shape l) (hi : i < l.length) (hop : (Ts.tm l i).op > 4) (hia : s.getD (Ts.tm l i).a.toNat false = true) (hib : s.getD (Ts.tm l i).b.toNat false = true) :
    Calls Try.prog 23 #[v, vs, .int .i64 i] w fun r w' => r = .returned (.bool (Ts.rstep l s i)) ∧ Below w.heap.size w w' := by
  have HV := Lib.hid hv
  have HS := Lib.hid hs
  have hfit : Fits l.length (Ts.tm l i) := ⟨hsh.op i hi, fun h => by have := hsh.a i hi h; omega, fun h => by have := hsh.b i hi h; omega⟩
  obtain ⟨A, c, rfl, hc, hm⟩ := RowsAt.form hv
  obtain ⟨B, d, rfl, hd, hm2⟩ := bools_form hs
  obtain ⟨gt, offt, rfl, hgt, t1, t2, t3⟩ := hv.at i hi
  rw [hl] at HS hd hs ⊢
  have HL := Lib.hid hl
  have HSH := Lib.hid hsh
  obtain ⟨gs, offs, rfl, hgs, _⟩ := bools_at hs (k := i) (by rw [HL.out]; exact hi)
  have hrs := Ts.rstep_a (l := l) (s := s) (i := i)
  generalize Ts.tm l i = t at t1 t2 t3 hop hfit hrs hia hib
  have HRA := Lib.hid (hrs (by unfold Ts.stepA; rw [hia, hib] ; simp; omega))
  clear hrs
  have ho : t.op ≠ 0 := by omega
  obtain ⟨a1, a2⟩ := hfit.a ho
  obtain ⟨_, _, hq, _, xa⟩ := bools_at hs (k := t.a.toNat) (by rw [HL.out]; omega)
  simp only [Option.some.injEq, Addr.mk.injEq, true_and, and_true] at hq
  obtain ⟨rfl, rfl⟩ := hq
  obtain ⟨b1, b2⟩ := hfit.b (by omega)
  obtain ⟨_, _, hq, _, xb⟩ := bools_at hs (k := t.b.toNat) (by rw [HL.out]; omega)
  simp only [Option.some.injEq, Addr.mk.injEq, true_and, and_true] at hq
  obtain ⟨rfl, rfl⟩ := hq
  rw [hia] at xa
  rw [hib] at xb
  have p2 : (t.op == 2) = false := by simp; omega
  have p3 : (t.op == 3) = false := by simp; omega
  have p1 : (t.op == 1) = false := by simp; omega
  have p4 : (t.op == 4) = false := by simp; omega
  have p5 : decide (4 < t.op) = true := by simp; omega
  have HW0 := Lib.hid ((Below.refl w.heap.size w).alloc (Nat.le_refl _) (.cells #[.int .i64 t.op, .int .i64 t.a, .int .i64 t.b] 61))
  clear hv hs hm2 hl hsh hop hfit hia ho hib
  go_enter Try.func23, Try.ntmps23
  go_wp2
  go_ret
  exact ⟨ret_bool' (by rw [HRA.out]), HW0.out⟩

set_option maxRecDepth 100000 in
set_option maxHeartbeats 8000000 in
theorem rstep_five_tf (v vs : Value) (l : List Tm) (s : List Bool) (i : Nat) (w : World) (hv : TermsAt w v l) (hs : RowAt w vs (bools s)) (hl : s.length = l.length) (hsh : Ts.Shape l) (hi : i < l.length) (hop : (Ts.tm l i).op > 4) (hia : s.getD (Ts.tm l i).a.toNat false = true) (hib : s.getD (Ts.tm l i).b.toNat false = false) :
    Calls Try.prog 23 #[v, vs, .int .i64 i] w fun r w' => r = .returned (.bool (Ts.rstep l s i)) ∧ Below w.heap.size w w' := by
  have HV := Lib.hid hv
  have HS := Lib.hid hs
  have hfit : Fits l.length (Ts.tm l i) := ⟨hsh.op i hi, fun h => by have := hsh.a i hi h; omega, fun h => by have := hsh.b i hi h; omega⟩
  obtain ⟨A, c, rfl, hc, hm⟩ := RowsAt.form hv
  obtain ⟨B, d, rfl, hd, hm2⟩ := bools_form hs
  obtain ⟨gt, offt, rfl, hgt, t1, t2, t3⟩ := hv.at i hi
  rw [hl] at HS hd hs ⊢
  have HL := Lib.hid hl
  have HSH := Lib.hid hsh
  obtain ⟨gs, offs, rfl, hgs, _⟩ := bools_at hs (k := i) (by rw [HL.out]; exact hi)
  have hrs := Ts.rstep_b (l := l) (s := s) (i := i)
  generalize Ts.tm l i = t at t1 t2 t3 hop hfit hrs hia hib
  have HRB := Lib.hid (hrs (by unfold Ts.stepA; rw [hia, hib] ; simp; omega))
  clear hrs
  have ho : t.op ≠ 0 := by omega
  obtain ⟨a1, a2⟩ := hfit.a ho
  obtain ⟨_, _, hq, _, xa⟩ := bools_at hs (k := t.a.toNat) (by rw [HL.out]; omega)
  simp only [Option.some.injEq, Addr.mk.injEq, true_and, and_true] at hq
  obtain ⟨rfl, rfl⟩ := hq
  obtain ⟨b1, b2⟩ := hfit.b (by omega)
  obtain ⟨_, _, hq, _, xb⟩ := bools_at hs (k := t.b.toNat) (by rw [HL.out]; omega)
  simp only [Option.some.injEq, Addr.mk.injEq, true_and, and_true] at hq
  obtain ⟨rfl, rfl⟩ := hq
  rw [hia] at xa
  rw [hib] at xb
  have p2 : (t.op == 2) = false := by simp; omega
  have p3 : (t.op == 3) = false := by simp; omega
  have p1 : (t.op == 1) = false := by simp; omega
  have p4 : (t.op == 4) = false := by simp; omega
  have p5 : decide (4 < t.op) = true := by simp; omega
  have HW0 := Lib.hid ((Below.refl w.heap.size w).alloc (Nat.le_refl _) (.cells #[.int .i64 t.op, .int .i64 t.a, .int .i64 t.b] 61))
  clear hv hs hm2 hl hsh hop hfit hia ho hib
  go_enter Try.func23, Try.ntmps23
  go_wp2
  go_loopw [6, 10] (fun _ i' wr => ∃ k : Nat, k ≤ l.length ∧ i' = .int .i64 k ∧ Below w.heap.size w wr ∧ Ts.stepTo l s i k = false) (fun _ i' _ => l.length - (intOf i').toNat)
  case atStart => exact ⟨0, Nat.zero_le _, rfl, HW0.out, rfl⟩
  case round =>
    obtain ⟨k, hk, rfl, hb, hall⟩ := hrel
    have HA := Lib.hid hall; clear hall
    have HB := Lib.hid hb
    by_cases hlt : k < l.length
    · obtain ⟨g, off, hq, hg, x1, x2, x3⟩ := (HV.out.below hb).at k hlt
      simp only [Option.some.injEq, Addr.mk.injEq, true_and, and_true] at hq
      obtain ⟨rfl, rfl⟩ := hq
      obtain ⟨_, _, hq, hg2, x4⟩ := bools_at (HS.out.below hb) (k := k) (by rw [HL.out]; exact hlt)
      simp only [Option.some.injEq, Addr.mk.injEq, true_and, and_true] at hq
      obtain ⟨rfl, rfl⟩ := hq
      have HN := Lib.hid (Ts.stepTo_next HA.out)
      have HT := Lib.hid (fun (h : Ts.stepTo l s i (k + 1) = true) => HRB.out.trans (Ts.stepTo_true hlt h))
      have hka := HSH.out.a k hlt
      have hxa := fun (h : (Ts.tm l k).op = 5) => bools_at (HS.out.below hb) (k := (Ts.tm l k).a.toNat) (by rw [HL.out]; have := hka (by omega); omega)
      generalize Ts.tm l k = t at *
      generalize hsk : s.getD k false = sk at *
      clear hsk hb
      cases sk
      · have HX := Lib.hid (show Ts.stepTo l s i (k + 1) = false by rw [HN.out]; simp [Ts.stepB])
        clear hka hxa
        go_wp2
        go_roundw
        case rel => exact ⟨k + 1, hlt, by go_num, HB.out, HX.out⟩
        case measure => simp [intOf]; omega
      · by_cases o1 : t.op = 1
        · have o1' : (t.op == 1) = true := by simp [o1]
          by_cases e1 : t.a = i
          · have e1' : (t.a == (i : Int)) = true := by simp [e1]
            have HP := Lib.hid (HT.out (by rw [HN.out]; simp [Ts.stepB, o1, e1]))
            clear hka hxa o1 e1
            go_wp2
            go_ret
            exact ⟨ret_bool' (by rw [HP.out]), HB.out⟩
          · have e1' : (t.a == (i : Int)) = false := by simp [e1]
            by_cases e2 : t.b = i
            · have e2' : (t.b == (i : Int)) = true := by simp [e2]
              have HP := Lib.hid (HT.out (by rw [HN.out]; simp [Ts.stepB, o1, e2]))
              clear hka hxa o1 e1 e2
              go_wp2
              go_ret
              exact ⟨ret_bool' (by rw [HP.out]), HB.out⟩
            · have e2' : (t.b == (i : Int)) = false := by simp [e2]
              have o5' : (t.op == 5) = false := by simp; omega
              have HX := Lib.hid (show Ts.stepTo l s i (k + 1) = false by rw [HN.out]; simp [Ts.stepB, o1, e1, e2])
              clear hka hxa o1 e1 e2
              go_wp2
              go_roundw
              case rel => exact ⟨k + 1, hlt, by go_num, HB.out, HX.out⟩
              case measure => simp [intOf]; omega
        · have o1' : (t.op == 1) = false := by simp [o1]
          by_cases o5 : t.op = 5
          · have o5' : (t.op == 5) = true := by simp [o5]
            by_cases e2 : t.b = i
            · have e2' : (t.b == (i : Int)) = true := by simp [e2]
              obtain ⟨a1, a2⟩ := hka (by omega)
              obtain ⟨g3, off3, hq, _, x5⟩ := hxa o5
              simp only [Option.some.injEq, Addr.mk.injEq, true_and, and_true] at hq
              obtain ⟨rfl, rfl⟩ := hq
              have a3 : t.a < (l.length : Int) := by omega
              have HY := Lib.hid (show Ts.stepTo l s i (k + 1) = s.getD t.a.toNat false by rw [HN.out]; simp [Ts.stepB, o5, e2])
              generalize s.getD t.a.toNat false = sa at *
              clear hka hxa o1 o5 e2 a2
              cases sa
              · go_wp2
                go_roundw
                case rel => exact ⟨k + 1, hlt, by go_num, HB.out, HY.out⟩
                case measure => simp [intOf]; omega
              · have HP := Lib.hid (HT.out HY.out)
                go_wp2
                go_ret
                exact ⟨ret_bool' (by rw [HP.out]), HB.out⟩
            · have e2' : (t.b == (i : Int)) = false := by simp [e2]
              have HX := Lib.hid (show Ts.stepTo l s i (k + 1) = false by rw [HN.out]; simp [Ts.stepB, o1, o5, e2])
              clear hka hxa o1 o5 e2
              go_wp2
              go_roundw
              case rel => exact ⟨k + 1, hlt, by go_num, HB.out, HX.out⟩
              case measure => simp [intOf]; omega
          · have o5' : (t.op == 5) = false := by simp [o5]
            have HX := Lib.hid (show Ts.stepTo l s i (k + 1) = false by rw [HN.out]; simp [Ts.stepB, o1, o5])
            clear hka hxa o1 o5
            go_wp2
            go_roundw
            case rel => exact ⟨k + 1, hlt, by go_num, HB.out, HX.out⟩
            case measure => simp [intOf]; omega
    · have HX := Lib.hid (show Ts.rstep l s i = false by rw [HRB.out, ← HA.out, show k = l.length by omega])
      go_wp2
      go_ret
      exact ⟨ret_bool' (by rw [HX.out]), hb⟩

set_option maxRecDepth 100000 in
set_option maxHeartbeats 8000000 in
theorem rstep_five_f (v vs : Value) (l : List Tm) (s : List Bool) (i : Nat) (w : World) (hv : TermsAt w v l) (hs : RowAt w vs (bools s)) (hl : s.length = l.length) (hsh : Ts.Shape l) (hi : i < l.length) (hop : (Ts.tm l i).op > 4) (hia : s.getD (Ts.tm l i).a.toNat false = false) :
    Calls Try.prog 23 #[v, vs, .int .i64 i] w fun r w' => r = .returned (.bool (Ts.rstep l s i)) ∧ Below w.heap.size w w' := by
  have HV := Lib.hid hv
  have HS := Lib.hid hs
  have hfit : Fits l.length (Ts.tm l i) := ⟨hsh.op i hi, fun h => by have := hsh.a i hi h; omega, fun h => by have := hsh.b i hi h; omega⟩
  obtain ⟨A, c, rfl, hc, hm⟩ := RowsAt.form hv
  obtain ⟨B, d, rfl, hd, hm2⟩ := bools_form hs
  obtain ⟨gt, offt, rfl, hgt, t1, t2, t3⟩ := hv.at i hi
  rw [hl] at HS hd hs ⊢
  have HL := Lib.hid hl
  have HSH := Lib.hid hsh
  obtain ⟨gs, offs, rfl, hgs, _⟩ := bools_at hs (k := i) (by rw [HL.out]; exact hi)
  have hrs := Ts.rstep_b (l := l) (s := s) (i := i)
  generalize Ts.tm l i = t at t1 t2 t3 hop hfit hrs hia
  have HRB := Lib.hid (hrs (by unfold Ts.stepA; rw [hia] ; simp; omega))
  clear hrs
  have ho : t.op ≠ 0 := by omega
  obtain ⟨a1, a2⟩ := hfit.a ho
  obtain ⟨_, _, hq, _, xa⟩ := bools_at hs (k := t.a.toNat) (by rw [HL.out]; omega)
  simp only [Option.some.injEq, Addr.mk.injEq, true_and, and_true] at hq
  obtain ⟨rfl, rfl⟩ := hq
  rw [hia] at xa
  have p2 : (t.op == 2) = false := by simp; omega
  have p3 : (t.op == 3) = false := by simp; omega
  have p1 : (t.op == 1) = false := by simp; omega
  have p4 : (t.op == 4) = false := by simp; omega
  have p5 : decide (4 < t.op) = true := by simp; omega
  have HW0 := Lib.hid ((Below.refl w.heap.size w).alloc (Nat.le_refl _) (.cells #[.int .i64 t.op, .int .i64 t.a, .int .i64 t.b] 61))
  clear hv hs hm2 hl hsh hop hfit hia ho
  go_enter Try.func23, Try.ntmps23
  go_wp2
  go_loopw [6, 10] (fun _ i' wr => ∃ k : Nat, k ≤ l.length ∧ i' = .int .i64 k ∧ Below w.heap.size w wr ∧ Ts.stepTo l s i k = false) (fun _ i' _ => l.length - (intOf i').toNat)
  case atStart => exact ⟨0, Nat.zero_le _, rfl, HW0.out, rfl⟩
  case round =>
    obtain ⟨k, hk, rfl, hb, hall⟩ := hrel
    have HA := Lib.hid hall; clear hall
    have HB := Lib.hid hb
    by_cases hlt : k < l.length
    · obtain ⟨g, off, hq, hg, x1, x2, x3⟩ := (HV.out.below hb).at k hlt
      simp only [Option.some.injEq, Addr.mk.injEq, true_and, and_true] at hq
      obtain ⟨rfl, rfl⟩ := hq
      obtain ⟨_, _, hq, hg2, x4⟩ := bools_at (HS.out.below hb) (k := k) (by rw [HL.out]; exact hlt)
      simp only [Option.some.injEq, Addr.mk.injEq, true_and, and_true] at hq
      obtain ⟨rfl, rfl⟩ := hq
      have HN := Lib.hid (Ts.stepTo_next HA.out)
      have HT := Lib.hid (fun (h : Ts.stepTo l s i (k + 1) = true) => HRB.out.trans (Ts.stepTo_true hlt h))
      have hka := HSH.out.a k hlt
      have hxa := fun (h : (Ts.tm l k).op = 5) => bools_at (HS.out.below hb) (k := (Ts.tm l k).a.toNat) (by rw [HL.out]; have := hka (by omega); omega)
      generalize Ts.tm l k = t at *
      generalize hsk : s.getD k false = sk at *
      clear hsk hb
      cases sk
      · have HX := Lib.hid (show Ts.stepTo l s i (k + 1) = false by rw [HN.out]; simp [Ts.stepB])
        clear hka hxa
        go_wp2
        go_roundw
        case rel => exact ⟨k + 1, hlt, by go_num, HB.out, HX.out⟩
        case measure => simp [intOf]; omega
      · by_cases o1 : t.op = 1
        · have o1' : (t.op == 1) = true := by simp [o1]
          by_cases e1 : t.a = i
          · have e1' : (t.a == (i : Int)) = true := by simp [e1]
            have HP := Lib.hid (HT.out (by rw [HN.out]; simp [Ts.stepB, o1, e1]))
            clear hka hxa o1 e1
            go_wp2
            go_ret
            exact ⟨ret_bool' (by rw [HP.out]), HB.out⟩
          · have e1' : (t.a == (i : Int)) = false := by simp [e1]
            by_cases e2 : t.b = i
            · have e2' : (t.b == (i : Int)) = true := by simp [e2]
              have HP := Lib.hid (HT.out (by rw [HN.out]; simp [Ts.stepB, o1, e2]))
              clear hka hxa o1 e1 e2
              go_wp2
              go_ret
              exact ⟨ret_bool' (by rw [HP.out]), HB.out⟩
            · have e2' : (t.b == (i : Int)) = false := by simp [e2]
              have o5' : (t.op == 5) = false := by simp; omega
              have HX := Lib.hid (show Ts.stepTo l s i (k + 1) = false by rw [HN.out]; simp [Ts.stepB, o1, e1, e2])
              clear hka hxa o1 e1 e2
              go_wp2
              go_roundw
              case rel => exact ⟨k + 1, hlt, by go_num, HB.out, HX.out⟩
              case measure => simp [intOf]; omega
        · have o1' : (t.op == 1) = false := by simp [o1]
          by_cases o5 : t.op = 5
          · have o5' : (t.op == 5) = true := by simp [o5]
            by_cases e2 : t.b = i
            · have e2' : (t.b == (i : Int)) = true := by simp [e2]
              obtain ⟨a1, a2⟩ := hka (by omega)
              obtain ⟨g3, off3, hq, _, x5⟩ := hxa o5
              simp only [Option.some.injEq, Addr.mk.injEq, true_and, and_true] at hq
              obtain ⟨rfl, rfl⟩ := hq
              have a3 : t.a < (l.length : Int) := by omega
              have HY := Lib.hid (show Ts.stepTo l s i (k + 1) = s.getD t.a.toNat false by rw [HN.out]; simp [Ts.stepB, o5, e2])
              generalize s.getD t.a.toNat false = sa at *
              clear hka hxa o1 o5 e2 a2
              cases sa
              · go_wp2
                go_roundw
                case rel => exact ⟨k + 1, hlt, by go_num, HB.out, HY.out⟩
                case measure => simp [intOf]; omega
              · have HP := Lib.hid (HT.out HY.out)
                go_wp2
                go_ret
                exact ⟨ret_bool' (by rw [HP.out]), HB.out⟩
            · have e2' : (t.b == (i : Int)) = false := by simp [e2]
              have HX := Lib.hid (show Ts.stepTo l s i (k + 1) = false by rw [HN.out]; simp [Ts.stepB, o1, o5, e2])
              clear hka hxa o1 o5 e2
              go_wp2
              go_roundw
              case rel => exact ⟨k + 1, hlt, by go_num, HB.out, HX.out⟩
              case measure => simp [intOf]; omega
          · have o5' : (t.op == 5) = false := by simp [o5]
            have HX := Lib.hid (show Ts.stepTo l s i (k + 1) = false by rw [HN.out]; simp [Ts.stepB, o1, o5])
            clear hka hxa o1 o5
            go_wp2
            go_roundw
            case rel => exact ⟨k + 1, hlt, by go_num, HB.out, HX.out⟩
            case measure => simp [intOf]; omega
    · have HX := Lib.hid (show Ts.rstep l s i = false by rw [HRB.out, ← HA.out, show k = l.length by omega])
      go_wp2
      go_ret
      exact ⟨ret_bool' (by rw [HX.out]), hb⟩

end Go.Proofs.Ytffgechbmhgndaa
