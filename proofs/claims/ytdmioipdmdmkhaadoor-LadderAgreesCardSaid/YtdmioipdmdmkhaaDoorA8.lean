/- Invert of package field. -/
import Derived.Test.YtdmioipdmdmkhaaDoorA7
set_option linter.unusedVariables false
set_option linter.unusedSimpArgs false
namespace Go.Proofs.YtdmioipdmdmkhaaDoor
open Go.RowKit

/-- p - 2. -/
def invE : Nat := 57896044618658097711785492504343953926634992332820282019728792003956564819947
def eI : Nat → Nat
  | 0 => 1
  | i + 1 => eI i * 2 + 1
theorem eI_end : eI 249 * 32 + 11 = invE := by decide +kernel
theorem sq_one (x n : Nat) : sqN (powP x n) 1 = powP x (n * 2) := by
  unfold sqN sqN powP
  rw [← Nat.mul_mod, ← Nat.pow_two, ← Nat.pow_mul]
theorem sq_pow (x n : Nat) : ∀ k, sqN (powP x n) k = powP x (n * 2 ^ k)
  | 0 => by rw [Nat.pow_zero, Nat.mul_one]; rfl
  | k + 1 => by
    rw [sqN, sq_pow x n k]
    unfold powP
    rw [← Nat.mul_mod, ← Nat.pow_two, ← Nat.pow_mul, Nat.pow_succ, Nat.mul_assoc]
theorem pow_mul_self (x n : Nat) (hx : x < pr) : powP x n * x % pr = powP x (n + 1) := by
  unfold powP
  rw [Nat.pow_succ, Nat.mul_mod, Nat.mod_mod, ← Nat.mul_mod]
theorem pow_mul_pow (x n m : Nat) : powP x n * powP x m % pr = powP x (n + m) := by
  unfold powP
  rw [← Nat.mul_mod, ← Nat.pow_add]
theorem pow_one (x : Nat) (hx : x < pr) : powP x 1 = x := by unfold powP; rw [Nat.pow_one, Nat.mod_eq_of_lt hx]

noncomputable def invI (v : Value) : Nat → Value
  | 0 => v
  | i + 1 => mulV (sqV (invI v i) 1) v
/-- The Invert that is told. -/
noncomputable def invV (v : Value) : Value := mulV (sqV (invI v 249) 5) (powV v 11)
theorem invI_el {v : Value} {x : Nat} (hv : El v x) : ∀ i, El (invI v i) (powP x (eI i))
  | 0 => by rw [eI, pow_one x hv.lt]; exact hv
  | i + 1 => by
    have h := sqV_el (invI_el hv i) 1
    rw [sq_one] at h
    have h2 := (mulV_spec h hv).1
    rw [pow_mul_self x _ hv.lt] at h2
    exact h2
set_option maxRecDepth 100000 in
theorem invV_el {v : Value} {x : Nat} (hv : El v x) : El (invV v) (powP x invE) := by
  have h := (mulV_spec (sqV_el (invI_el hv 249) 5) (powV_el hv 11)).1
  rw [sq_pow, pow_mul_pow, show eI 249 * 2 ^ 5 + 11 = invE from eI_end] at h
  exact h
theorem start_three (w : World) (x z y : Array Value) {B1 B2 : Nat} (h1 : w.heap.size + 1 = B1) (h2 : B1 + 1 = B2) : (((w.alloc (.cells x 33)).alloc (.cells z 33)).alloc (.cells y 33)).heap[w.heap.size]? = some (.cells x 33 (0, 0)) ∧
    (((w.alloc (.cells x 33)).alloc (.cells z 33)).alloc (.cells y 33)).heap[B1]? = some (.cells z 33 (0, 0)) ∧ (((w.alloc (.cells x 33)).alloc (.cells z 33)).alloc (.cells y 33)).heap[B2]? = some (.cells y 33 (0, 0)) ∧
    Below w.heap.size w (((w.alloc (.cells x 33)).alloc (.cells z 33)).alloc (.cells y 33)) := by
  subst h1 h2
  refine ⟨?_, ?_, alloc_at (by simp), (((alloc_only w _).alloc (by simp) _).alloc (by simp; omega) _)⟩
  · rw [Below.heap_alloc _ _ _ (by simp; omega), Below.heap_alloc _ _ _ (by simp)]; exact alloc_at rfl
  · rw [Below.heap_alloc _ _ _ (by simp)]; exact alloc_at (by simp)

set_option maxRecDepth 100000 in
set_option maxHeartbeats 8000000 in
theorem invert_any {v : Value} {x : Nat} (hv : El v x) : Det 21 #[v] (invV v) := by
  intro w
  have HV := Lib.hid hv
  have HIE := Lib.hid (invI_el hv)
  have HI0 := Lib.hid (show invI v 0 = v from rfl)
  have HI1 := Lib.hid (fun i => show invI v (i + 1) = mulV (sqV (invI v i) 1) v from rfl)
  have HIV := Lib.hid (show invV v = mulV (sqV (invI v 249) 5) (powV v 11) from rfl)
  generalize invI v = s at *
  have HLT := Lib.hid hv.lt
  obtain ⟨a0, a1, a2, a3, a4, rfl⟩ := hv.limbs
  clear hv
  unfold limbsV
  obtain ⟨B1, hB1⟩ : ∃ B, w.heap.size + 1 = B := ⟨_, rfl⟩
  obtain ⟨B2, hB2⟩ : ∃ B, B1 + 1 = B := ⟨_, rfl⟩
  have HS := Lib.hid (start_three w (c5 a0 a1 a2 a3 a4) (c5 0 0 0 0 0) (c5 a0 a1 a2 a3 a4) hB1 hB2)
  have HB1 := Lib.hid hB1; have HB2 := Lib.hid hB2
  clear hB1 hB2
  go_enter Tryd.func21, Tryd.ntmps21
  go_wp2
  try simp only [HB1.out, HB2.out]
  have h01 : w.heap.size < B1 := by have := HB1.out; omega
  have h12 : B1 < B2 := by have := HB2.out; omega
  go_loopw [5] (fun v5 wr => ∃ i c0 c1 c2 c3 c4 : Nat, v5 = .int .i64 i ∧ i ≤ 249 ∧ s i = limbsV c0 c1 c2 c3 c4 ∧
    wr.heap[w.heap.size]? = some (.cells (c5 a0 a1 a2 a3 a4) 33 (0, 0)) ∧ wr.heap[B2]? = some (.cells (c5 c0 c1 c2 c3 c4) 33 (0, 0)) ∧ wr.heap[B1]? = some (.cells (c5 0 0 0 0 0) 33 (0, 0)) ∧ Below w.heap.size w wr) (fun v5 _ => 249 - (intOf v5).toNat)
  case atStart => exact ⟨0, a0, a1, a2, a3, a4, rfl, by omega, HI0.out, HS.out.1, HS.out.2.2.1, HS.out.2.1, HS.out.2.2.2⟩
  case round =>
    obtain ⟨i, c0, c1, c2, c3, c4, rfl, hi, heo, h0, h2, h1, hb⟩ := hrel
    have HEO := Lib.hid heo; have H0 := Lib.hid h0; have H2 := Lib.hid h2; have H1 := Lib.hid h1; have HB := Lib.hid hb
    have HRX := Lib.hid (fun (w1 : World) (hb : Below wr.heap.size wr w1) => (facts5 ((hb.block _ (heap_lt H0.out)).trans H0.out)).1)
    have HRO := Lib.hid (fun (w1 : World) (hb : Below wr.heap.size wr w1) => (facts5 ((hb.block _ (heap_lt H2.out)).trans H2.out)))
    clear heo h0 h2 h1 hb
    by_cases hlt : i < 249
    · obtain ⟨d0, d1, d2, d3, d4, hz3⟩ := (HIE.out (i + 1)).limbs
      have HZ3 := Lib.hid hz3
      have hc1 := squared_any (HIE.out i) 1 (by omega)
      have hc2 := (mulV_spec (sqV_el (HIE.out i) 1) HV.out).2
      rw [← HI1.out i, hz3] at hc2
      generalize sqV (s i) 1 = z2 at hc1 hc2
      rw [HEO.out] at hc1
      have HC1 := Lib.hid hc1; have HC2 := Lib.hid hc2
      unfold limbsV Det at HC1 HC2
      clear hc1 hc2 hz3
      obtain ⟨⟨x0, x1, x2, x3, x4⟩, _, _, _, _, _⟩ := facts5 H0.out
      obtain ⟨⟨y0, y1, y2, y3, y4⟩, _, _, _, _, _⟩ := facts5 H2.out
      go_wp2
      go_region_with (first
          | (go_at_call 52; refine (HC1.out _).mono ?_; rintro e w2 ⟨rfl, hb2⟩; replace hb2 : Below wr.heap.size wr w2 := (Below.refl _ _).drew.trans (hb2.mono (Nat.le_refl _)); obtain ⟨q0, q1, q2, q3, q4⟩ := HRX.out _ hb2)
          | (go_at_call 28; refine (HC2.out _).mono ?_; rintro e w3 ⟨rfl, hb3⟩; replace hb3 : Below wr.heap.size wr w3 := hb2.trans (hb3.mono hb2.size); obtain ⟨⟨r0, r1, r2, r3, r4⟩, s0, s1, s2, s3, s4⟩ := HRO.out _ hb3))
      all_goals
        have K0 := Lib.hid ((hb3.block _ (heap_lt H0.out)).trans H0.out)
        have K1 := Lib.hid ((hb3.block _ (heap_lt H1.out)).trans H1.out)
        have K2 := Lib.hid ((hb3.block _ (heap_lt H2.out)).trans H2.out)
        have KB := Lib.hid (HB.out.trans (hb3.mono HB.out.size))
        clear hb3 hb2
        go_wp2
        go_roundw
        case rel => exact ⟨i + 1, d0, d1, d2, d3, d4, by go_num, hlt, HZ3.out, set_all_far K0.out (by omega) _ _ _ _ _, set_all K2.out _ _ _ _ _, set_all_far K1.out (by omega) _ _ _ _ _, below_all KB.out (by omega) _ _ _ _ _⟩
        case measure => simp [intOf]; omega
    · obtain rfl : i = 249 := by omega
      obtain ⟨d0, d1, d2, d3, d4, hz3⟩ := (invV_el HV.out).limbs
      have hc1 := squared_any (HIE.out 249) 5 (by omega)
      have hc2 := power_any HV.out 11 (by omega)
      have hc3 := (mulV_spec (sqV_el (HIE.out 249) 5) (powV_el HV.out 11)).2
      rw [← HIV.out, hz3] at hc3
      have HFE := Lib.hid hz3
      generalize sqV (s 249) 5 = z2 at hc1 hc3
      generalize powV (limbsV a0 a1 a2 a3 a4) 11 = z4 at hc2 hc3
      rw [HEO.out] at hc1
      have HC1 := Lib.hid (fun (w1 : World) (hb : Below wr.heap.size wr w1) => (hc1 w1).mono (fun e w2 ⟨h, hb2⟩ => (show e = Ending.returned z2 ∧ Below wr.heap.size wr w2 from ⟨h, hb.trans (hb2.mono hb.size)⟩)))
      have HC2 := Lib.hid (fun (w1 : World) (hb : Below wr.heap.size wr w1) => (hc2 w1).mono (fun e w2 ⟨h, hb2⟩ => (show e = Ending.returned z4 ∧ Below wr.heap.size wr w2 from ⟨h, hb.trans (hb2.mono hb.size)⟩)))
      have HC3 := Lib.hid (fun (w1 : World) (hb : Below wr.heap.size wr w1) => (hc3 w1).mono (fun e w2 ⟨h, hb2⟩ => (show e = Ending.returned (limbsV d0 d1 d2 d3 d4) ∧ Below wr.heap.size wr w2 from ⟨h, hb.trans (hb2.mono hb.size)⟩)))
      unfold limbsV at HC1 HC2 HC3
      clear hc1 hc2 hc3 hz3
      have HRZ := Lib.hid (fun (w1 : World) (hb : Below wr.heap.size wr w1) => (facts5 ((hb.block _ (heap_lt H1.out)).trans H1.out)))
      obtain ⟨⟨x0, x1, x2, x3, x4⟩, _, _, _, _, _⟩ := facts5 H0.out
      obtain ⟨⟨y0, y1, y2, y3, y4⟩, _, _, _, _, _⟩ := facts5 H2.out
      have n12 : B1 ≠ B2 := by omega
      have n10 : B1 ≠ w.heap.size := by omega
      go_wp2
      go_region_with (first
          | (go_at_call 52; refine (HC1.out _ (by first | assumption | exact (Below.refl _ _).drew)).mono ?_; rintro e w2 ⟨rfl, hb2⟩; obtain ⟨q0, q1, q2, q3, q4⟩ := HRX.out _ hb2)
          | (go_at_call 20; refine (HC2.out _ (by first | assumption | exact (Below.refl _ _).drew)).mono ?_; rintro e w4 ⟨rfl, hb4⟩; obtain ⟨⟨p0, p1, p2, p3, p4⟩, _, _, _, _, _⟩ := HRO.out _ hb4)
          | (go_at_call 28; refine (HC3.out _ (by assumption)).mono ?_; rintro e w3 ⟨rfl, hb3⟩; obtain ⟨⟨r0, r1, r2, r3, r4⟩, s0, s1, s2, s3, s4⟩ := HRZ.out _ hb3))
      all_goals
        have K1 := Lib.hid ((hb3.block _ (heap_lt H1.out)).trans H1.out)
        have KB := Lib.hid (HB.out.trans (hb3.mono HB.out.size))
        clear hb2 hb3 hb4
        go_wp2
        try simp only [Exit.inBlock, Exit.then]
        refine bodyPost_ret (results_cell_row rfl _ _ B1 33 _ (0, 0) _ rfl (set_all K1.out _ _ _ _ _) Tryd.underlying33 rfl info33) rfl ?_
        exact ⟨(congrArg Ending.returned HFE.out).symm, below_all KB.out (by omega) _ _ _ _ _⟩

end Go.Proofs.YtdmioipdmdmkhaaDoor
