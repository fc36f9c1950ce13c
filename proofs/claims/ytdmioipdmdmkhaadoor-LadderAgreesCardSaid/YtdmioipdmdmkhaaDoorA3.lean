/- reduced of package field: the five limbs of the number itself. -/
import Derived.Test.YtdmioipdmdmkhaaDoorA2
set_option linter.unusedVariables false
set_option linter.unusedSimpArgs false
namespace Go.Proofs.YtdmioipdmdmkhaaDoor
open Go.RowKit

/-- The limbs of a number. -/
def redV (x : Nat) : Value := limbsV (x % 2251799813685248) (x / 2251799813685248 % 2251799813685248) (x / 5070602400912917605986812821504 % 2251799813685248) (x / 11417981541647679048466287755595961091061972992 % 2251799813685248) (x / 25711008708143844408671393477458601640355247900524685364822016)
theorem red_of {d0 d1 d2 d3 d4 x : Nat} (s0 : d0 < 2251799813685248) (s1 : d1 < 2251799813685248) (s2 : d2 < 2251799813685248) (s3 : d3 < 2251799813685248) (s4 : d4 < 2251799813685248) (h : valN d0 d1 d2 d3 d4 = x) : limbsV d0 d1 d2 d3 d4 = redV x := by
  subst h
  unfold redV
  have e0 : valN d0 d1 d2 d3 d4 % 2251799813685248 = d0 := by unfold valN; omega
  have e1 : valN d0 d1 d2 d3 d4 / 2251799813685248 % 2251799813685248 = d1 := by unfold valN; omega
  have e2 : valN d0 d1 d2 d3 d4 / 5070602400912917605986812821504 % 2251799813685248 = d2 := by unfold valN; omega
  have e3 : valN d0 d1 d2 d3 d4 / 11417981541647679048466287755595961091061972992 % 2251799813685248 = d3 := by unfold valN; omega
  have e4 : valN d0 d1 d2 d3 d4 / 25711008708143844408671393477458601640355247900524685364822016 = d4 := by unfold valN; omega
  rw [e0, e1, e2, e3, e4]

/-- The carry of the number and 19, behind i limbs. -/
structure Car (i b0 b1 b2 b3 b4 c : Nat) : Prop where
  cc : c ≤ 19
  v0 : i = 0 → c = 19
  v1 : i = 1 → 2251799813685248 * c ≤ 19 + b0 ∧ 19 + b0 < 2251799813685248 * c + 2251799813685248
  v2 : i = 2 → 5070602400912917605986812821504 * c ≤ 19 + b0 + 2251799813685248 * b1 ∧ 19 + b0 + 2251799813685248 * b1 < 5070602400912917605986812821504 * c + 5070602400912917605986812821504
  v3 : i = 3 → 11417981541647679048466287755595961091061972992 * c ≤ 19 + b0 + 2251799813685248 * b1 + 5070602400912917605986812821504 * b2 ∧ 19 + b0 + 2251799813685248 * b1 + 5070602400912917605986812821504 * b2 < 11417981541647679048466287755595961091061972992 * c + 11417981541647679048466287755595961091061972992
  v4 : i = 4 → 25711008708143844408671393477458601640355247900524685364822016 * c ≤ 19 + b0 + 2251799813685248 * b1 + 5070602400912917605986812821504 * b2 + 11417981541647679048466287755595961091061972992 * b3 ∧ 19 + b0 + 2251799813685248 * b1 + 5070602400912917605986812821504 * b2 + 11417981541647679048466287755595961091061972992 * b3 < 25711008708143844408671393477458601640355247900524685364822016 * c + 25711008708143844408671393477458601640355247900524685364822016
  v5 : i = 5 → 57896044618658097711785492504343953926634992332820282019728792003956564819968 * c ≤ 19 + b0 + 2251799813685248 * b1 + 5070602400912917605986812821504 * b2 + 11417981541647679048466287755595961091061972992 * b3 + 25711008708143844408671393477458601640355247900524685364822016 * b4 ∧ 19 + b0 + 2251799813685248 * b1 + 5070602400912917605986812821504 * b2 + 11417981541647679048466287755595961091061972992 * b3 + 25711008708143844408671393477458601640355247900524685364822016 * b4 < 57896044618658097711785492504343953926634992332820282019728792003956564819968 * c + 57896044618658097711785492504343953926634992332820282019728792003956564819968
theorem car_next0 {b0 b1 b2 b3 b4 c : Nat} (h : Car 0 b0 b1 b2 b3 b4 c) (hb : b0 < 9223372036854775808) (hs : b0 + c < 22517998136852480) : Car 1 b0 b1 b2 b3 b4 ((b0 + c) / 2251799813685248) := by
  have hc := h.cc
  have hv := h.v0 rfl
  exact ⟨by omega, by omega, fun _ => by have e := Nat.div_add_mod (b0 + c) 2251799813685248; have em := Nat.mod_lt (b0 + c) (show 0 < 2251799813685248 by omega); generalize (b0 + c) / 2251799813685248 = q at *; generalize (b0 + c) % 2251799813685248 = t at *; omega, by omega, by omega, by omega, by omega⟩
theorem car_next1 {b0 b1 b2 b3 b4 c : Nat} (h : Car 1 b0 b1 b2 b3 b4 c) (hb : b1 < 9223372036854775808) (hs : b1 + c < 22517998136852480) : Car 2 b0 b1 b2 b3 b4 ((b1 + c) / 2251799813685248) := by
  have hc := h.cc
  have hv := h.v1 rfl
  exact ⟨by omega, by omega, by omega, fun _ => by have e := Nat.div_add_mod (b1 + c) 2251799813685248; have em := Nat.mod_lt (b1 + c) (show 0 < 2251799813685248 by omega); generalize (b1 + c) / 2251799813685248 = q at *; generalize (b1 + c) % 2251799813685248 = t at *; omega, by omega, by omega, by omega⟩
theorem car_next2 {b0 b1 b2 b3 b4 c : Nat} (h : Car 2 b0 b1 b2 b3 b4 c) (hb : b2 < 9223372036854775808) (hs : b2 + c < 22517998136852480) : Car 3 b0 b1 b2 b3 b4 ((b2 + c) / 2251799813685248) := by
  have hc := h.cc
  have hv := h.v2 rfl
  exact ⟨by omega, by omega, by omega, by omega, fun _ => by have e := Nat.div_add_mod (b2 + c) 2251799813685248; have em := Nat.mod_lt (b2 + c) (show 0 < 2251799813685248 by omega); generalize (b2 + c) / 2251799813685248 = q at *; generalize (b2 + c) % 2251799813685248 = t at *; omega, by omega, by omega⟩
theorem car_next3 {b0 b1 b2 b3 b4 c : Nat} (h : Car 3 b0 b1 b2 b3 b4 c) (hb : b3 < 9223372036854775808) (hs : b3 + c < 22517998136852480) : Car 4 b0 b1 b2 b3 b4 ((b3 + c) / 2251799813685248) := by
  have hc := h.cc
  have hv := h.v3 rfl
  exact ⟨by omega, by omega, by omega, by omega, by omega, fun _ => by have e := Nat.div_add_mod (b3 + c) 2251799813685248; have em := Nat.mod_lt (b3 + c) (show 0 < 2251799813685248 by omega); generalize (b3 + c) / 2251799813685248 = q at *; generalize (b3 + c) % 2251799813685248 = t at *; omega, by omega⟩
theorem car_next4 {b0 b1 b2 b3 b4 c : Nat} (h : Car 4 b0 b1 b2 b3 b4 c) (hb : b4 < 9223372036854775808) (hs : b4 + c < 22517998136852480) : Car 5 b0 b1 b2 b3 b4 ((b4 + c) / 2251799813685248) := by
  have hc := h.cc
  have hv := h.v4 rfl
  exact ⟨by omega, by omega, by omega, by omega, by omega, by omega, fun _ => by have e := Nat.div_add_mod (b4 + c) 2251799813685248; have em := Nat.mod_lt (b4 + c) (show 0 < 2251799813685248 by omega); generalize (b4 + c) / 2251799813685248 = q at *; generalize (b4 + c) % 2251799813685248 = t at *; omega⟩

/-- The number itself is left. -/
theorem red_fin {b0 b1 b2 b3 b4 c d0 d1 d2 d3 d4 q : Nat} (hb : Bnd 2 b0 b1 b2 b3 b4) (hc : Car 5 b0 b1 b2 b3 b4 c) (hm : Mid 5 (b0 + 19 * c) b1 b2 b3 b4 d0 d1 d2 d3 d4 q) : limbsV d0 d1 d2 d3 d4 = redV (valN b0 b1 b2 b3 b4 % pr) := by
  obtain ⟨m0, m1, m2, m3, m4⟩ := hb.m (by omega)
  have f := hb.f (by omega)
  have s0 := hm.s0 (by omega)
  have s1 := hm.s1 (by omega)
  have s2 := hm.s2 (by omega)
  have s3 := hm.s3 (by omega)
  have s4 := hm.s4 (by omega)
  obtain ⟨c1, c2⟩ := hc.v5 rfl
  have hv := hm.v5 rfl
  refine red_of s0 s1 s2 s3 s4 ?_
  unfold valN at hv ⊢
  have hc1 : c ≤ 1 := by omega
  have hlt : b0 + 2251799813685248 * b1 + 5070602400912917605986812821504 * b2 + 11417981541647679048466287755595961091061972992 * b3 + 25711008708143844408671393477458601640355247900524685364822016 * b4 < 2 * pr := by unfold pr; omega
  by_cases h1 : pr ≤ b0 + 2251799813685248 * b1 + 5070602400912917605986812821504 * b2 + 11417981541647679048466287755595961091061972992 * b3 + 25711008708143844408671393477458601640355247900524685364822016 * b4
  · rw [Nat.mod_eq_sub_mod h1, Nat.mod_eq_of_lt (by omega)]
    unfold pr at *
    have : c = 1 := by omega
    subst this
    omega
  · rw [Nat.mod_eq_of_lt (by omega)]
    unfold pr at *
    have : c = 0 := by omega
    subst this
    omega

theorem start_red (w w1 : World) (x z t : Array Value) {B1 : Nat} (h1 : w.heap.size + 1 = B1) (hb : Below ((w.alloc (.cells x 33)).alloc (.cells z 31)).heap.size ((w.alloc (.cells x 33)).alloc (.cells z 31)) w1) :
    (w1.alloc (.cells t 31)).heap[w1.heap.size]? = some (.cells t 31 (0, 0)) ∧ (w1.alloc (.cells t 31)).heap[B1]? = some (.cells z 31 (0, 0)) ∧ Below w.heap.size w (w1.alloc (.cells t 31)) ∧ B1 < w1.heap.size := by
  subst h1
  have hs := hb.size
  simp at hs
  refine ⟨alloc_at rfl, ?_, ?_, by omega⟩
  · rw [Below.heap_alloc _ _ _ (by omega), hb.block _ (by simp)]; exact alloc_at (by simp)
  · have h2 : Below w.heap.size w ((w.alloc (.cells x 33)).alloc (.cells z 31)) := ((Below.refl _ _).alloc (Nat.le_refl _) _).alloc (by simp) _
    exact (h2.trans (hb.mono (by simp; omega))).alloc (by omega) _
theorem field33 (v0 v1 v2 v3 v4 : Value) (w : World) : (Instr.field 33 (.agg #[v0, v1, v2, v3, v4]) 0).run Tryd.prog w = .ok (.agg #[v0, v1, v2, v3, v4]) w := by kernel_rfl
theorem info31 : (Tryd.prog.info? 31).map (·.size) = some 5 := by kernel_rfl

set_option maxRecDepth 100000 in
set_option maxHeartbeats 8000000 in
theorem reduced_any {v : Value} {x : Nat} (hv : El v x) (w : World) :
    Calls Tryd.prog 53 #[v] w fun r w' => r = .returned (redV x) ∧ Below w.heap.size w w' := by
  obtain ⟨a0, a1, a2, a3, a4, rfl, ha0, ha1, ha2, ha3, ha4, hx⟩ := hv
  have HX := Lib.hid hx
  have HC := Lib.hid (fun w => carried_any a0 a1 a2 a3 a4 w (by omega) (by omega) (by omega) (by omega) (by omega))
  clear hx
  unfold limbsV
  go_enter Tryd.func53, Tryd.ntmps53
  go_wp2_with fail
  refine (HC.out _).mono ?_
  rintro e w1 ⟨rfl, hbw⟩
  obtain ⟨hbn, k, hval⟩ := crd_spec (a0 := a0) (a1 := a1) (a2 := a2) (a3 := a3) (a4 := a4) (by omega) (by omega) (by omega) (by omega) (by omega)
  generalize crd a0 a1 a2 a3 a4 = cv at *
  obtain ⟨b0, b1, b2, b3, b4⟩ := cv
  dsimp only at hbn hval
  have HBN := Lib.hid hbn
  have HVX := Lib.hid (show valN b0 b1 b2 b3 b4 % pr = x by rw [← HX.out, ← hval, Nat.add_mul_mod_self_right])
  obtain ⟨B1, hB1⟩ : ∃ B, w.heap.size + 1 = B := ⟨_, rfl⟩
  have HS := Lib.hid (start_red w w1 _ _ (c5 b0 b1 b2 b3 b4) hB1 hbw)
  obtain ⟨m0, m1, m2, m3, m4⟩ := hbn.m (by omega)
  have hf := hbn.f (by omega)
  have hlB := HS.out.2.2.2
  have hsB := HS.out.2.2.1.size
  clear hbn hval hbw HC
  dsimp only [L5.v, limbsV]
  have hF := field33 (.int .u64 b0) (.int .u64 b1) (.int .u64 b2) (.int .u64 b3) (.int .u64 b4)
  go_wp2
  clear hF
  try simp only [hB1]
  go_loopw [4, 5, 11] (fun v4 v5 v11 wr => ∃ i c : Nat, v11 = .int .i64 i ∧ i ≤ 5 ∧ v4 = .int .u64 c ∧ Car i b0 b1 b2 b3 b4 c ∧
    wr.heap[w1.heap.size]? = some (.cells (c5 b0 b1 b2 b3 b4) 31 (0, 0)) ∧ wr.heap[B1]? = some (.cells (c5 0 0 0 0 0) 31 (0, 0)) ∧ Below w.heap.size w wr) (fun v4 v5 v11 _ => 5 - (intOf v11).toNat)
  case atStart =>
    exact ⟨0, 19, rfl, by omega, rfl, ⟨by omega, fun _ => rfl, by omega, by omega, by omega, by omega, by omega⟩, HS.out.1, HS.out.2.1, HS.out.2.2.1⟩
  case round =>
    obtain ⟨i, c, rfl, hi, rfl, hcar, hh, ho0, hb⟩ := hrel
    have HCAR := Lib.hid hcar
    have HH := Lib.hid hh
    have HO0 := Lib.hid ho0
    have HB := Lib.hid hb
    have hc := hcar.cc
    have hi' : i = 0 ∨ i = 1 ∨ i = 2 ∨ i = 3 ∨ i = 4 ∨ i = 5 := by omega
    rcases hi' with rfl | rfl | rfl | rfl | rfl | rfl
    · have z : wr.cell? ⟨w1.heap.size, 0, none⟩ = some (.int .u64 b0) := cell_of_blk hh 0 rfl
      clear hcar hh ho0 hb
      go_wp2
      go_roundw
      case rel => exact ⟨1, (b0 + c) / 2251799813685248, rfl, by omega, by rw [quo_of _ (b0 + c) (by omega)], car_next0 HCAR.out (by omega) (by omega), HH.out, HO0.out, HB.out⟩
      case measure => simp [intOf]
    · have z : wr.cell? ⟨w1.heap.size, 1, none⟩ = some (.int .u64 b1) := cell_of_blk hh 1 rfl
      clear hcar hh ho0 hb
      go_wp2
      go_roundw
      case rel => exact ⟨2, (b1 + c) / 2251799813685248, rfl, by omega, by rw [quo_of _ (b1 + c) (by omega)], car_next1 HCAR.out (by omega) (by omega), HH.out, HO0.out, HB.out⟩
      case measure => simp [intOf]
    · have z : wr.cell? ⟨w1.heap.size, 2, none⟩ = some (.int .u64 b2) := cell_of_blk hh 2 rfl
      clear hcar hh ho0 hb
      go_wp2
      go_roundw
      case rel => exact ⟨3, (b2 + c) / 2251799813685248, rfl, by omega, by rw [quo_of _ (b2 + c) (by omega)], car_next2 HCAR.out (by omega) (by omega), HH.out, HO0.out, HB.out⟩
      case measure => simp [intOf]
    · have z : wr.cell? ⟨w1.heap.size, 3, none⟩ = some (.int .u64 b3) := cell_of_blk hh 3 rfl
      clear hcar hh ho0 hb
      go_wp2
      go_roundw
      case rel => exact ⟨4, (b3 + c) / 2251799813685248, rfl, by omega, by rw [quo_of _ (b3 + c) (by omega)], car_next3 HCAR.out (by omega) (by omega), HH.out, HO0.out, HB.out⟩
      case measure => simp [intOf]
    · have z : wr.cell? ⟨w1.heap.size, 4, none⟩ = some (.int .u64 b4) := cell_of_blk hh 4 rfl
      clear hcar hh ho0 hb
      go_wp2
      go_roundw
      case rel => exact ⟨5, (b4 + c) / 2251799813685248, rfl, by omega, by rw [quo_of _ (b4 + c) (by omega)], car_next4 HCAR.out (by omega) (by omega), HH.out, HO0.out, HB.out⟩
      case measure => simp [intOf]
    · have z : wr.cell? ⟨w1.heap.size, 0, none⟩ = some (.int .u64 b0) := cell_of_blk hh 0 rfl
      have zf : wr.frozen? ⟨w1.heap.size, 0, none⟩ = false := frozen_of_blk hh 0
      have HST := Lib.hid (show (wr.setCell ⟨w1.heap.size, 0, none⟩ (.int .u64 ((b0 : Int) + 19 * c))).heap[w1.heap.size]? = some (.cells (c5 (b0 + 19 * c) b1 b2 b3 b4) 31 (0, 0)) from set_blk1 hh 0 _ (by simp))
      have HSO := Lib.hid (show (wr.setCell ⟨w1.heap.size, 0, none⟩ (.int .u64 ((b0 : Int) + 19 * c))).heap[B1]? = some (.cells (c5 0 0 0 0 0) 31 (0, 0)) from set_far ho0 _ _ (by omega))
      have HSB := Lib.hid (show Below w.heap.size w (wr.setCell ⟨w1.heap.size, 0, none⟩ (.int .u64 ((b0 : Int) + 19 * c))) from hb.setCell (by simp only []; omega) _)
      clear hcar hh ho0 hb
      go_wp2
      go_loopw [4, 6, 27] (fun v4 v6 v27 wr => ∃ i d0 d1 d2 d3 d4 q : Nat, v27 = .int .i64 i ∧ i ≤ 5 ∧ v4 = .int .u64 q ∧ Mid i (b0 + 19 * c) b1 b2 b3 b4 d0 d1 d2 d3 d4 q ∧
        wr.heap[w1.heap.size]? = some (.cells (c5 d0 d1 d2 d3 d4) 31 (0, 0)) ∧ wr.heap[B1]? = some (.cells (c5 0 0 0 0 0) 31 (0, 0)) ∧ Below w.heap.size w wr) (fun v4 v6 v27 _ => 5 - (intOf v27).toNat)
      case atStart =>
        exact ⟨0, b0 + 19 * c, b1, b2, b3, b4, 0, rfl, by omega, rfl, ⟨fun _ => rfl, fun _ => rfl, fun _ => rfl, fun _ => rfl, fun _ => rfl, by omega, by omega, by omega, by omega, by omega, by omega, fun _ => rfl, by omega, by omega, by omega, by omega, by omega⟩, HST.out, HSO.out, HSB.out⟩
      case round =>
        obtain ⟨i, d0, d1, d2, d3, d4, q, rfl, hi, rfl, hm, hh, ho0, hb⟩ := hrel
        have GM := Lib.hid hm
        have G1 := Lib.hid hh
        have G2 := Lib.hid ho0
        have GB := Lib.hid hb
        have hq := hm.cc
        have hi' : i = 0 ∨ i = 1 ∨ i = 2 ∨ i = 3 ∨ i = 4 ∨ i = 5 := by omega
        rcases hi' with rfl | rfl | rfl | rfl | rfl | rfl
        · have hbd : d0 < 9223372036854775808 := by have := hm.e0 (by omega); omega
          have GN := Lib.hid (mid_next0 hm hbd)
          have x : wr.cell? ⟨w1.heap.size, 0, none⟩ = some (.int .u64 d0) := cell_of_blk hh 0 rfl
          have f : wr.frozen? ⟨w1.heap.size, 0, none⟩ = false := frozen_of_blk hh 0
          clear hm hh ho0 hb
          go_wp2
          go_roundw
          case rel =>
            refine ⟨1, (d0 + q) % 2251799813685248, d1, d2, d3, d4, (d0 + q) / 2251799813685248, rfl, by omega, by rw [quo_of _ (d0 + q) (by omega)], GN.out, ?_, ?_, ?_⟩
            · exact set_blk G1.out 0 _ _ (by rw [mask_of _ (d0 + q) (by omega) (by omega)]; rfl)
            · exact set_far (set_far G2.out _ _ (by omega)) _ _ (by omega)
            · exact (GB.out.setCell (by simp only []; omega) _).setCell (by simp only []; omega) _
          case measure => simp [intOf]
        · have hbd : d1 < 9223372036854775808 := by have := hm.e1 (by omega); omega
          have GN := Lib.hid (mid_next1 hm hbd)
          have x : wr.cell? ⟨w1.heap.size, 1, none⟩ = some (.int .u64 d1) := cell_of_blk hh 1 rfl
          have f : wr.frozen? ⟨w1.heap.size, 1, none⟩ = false := frozen_of_blk hh 1
          clear hm hh ho0 hb
          go_wp2
          go_roundw
          case rel =>
            refine ⟨2, d0, (d1 + q) % 2251799813685248, d2, d3, d4, (d1 + q) / 2251799813685248, rfl, by omega, by rw [quo_of _ (d1 + q) (by omega)], GN.out, ?_, ?_, ?_⟩
            · exact set_blk G1.out 1 _ _ (by rw [mask_of _ (d1 + q) (by omega) (by omega)]; rfl)
            · exact set_far (set_far G2.out _ _ (by omega)) _ _ (by omega)
            · exact (GB.out.setCell (by simp only []; omega) _).setCell (by simp only []; omega) _
          case measure => simp [intOf]
        · have hbd : d2 < 9223372036854775808 := by have := hm.e2 (by omega); omega
          have GN := Lib.hid (mid_next2 hm hbd)
          have x : wr.cell? ⟨w1.heap.size, 2, none⟩ = some (.int .u64 d2) := cell_of_blk hh 2 rfl
          have f : wr.frozen? ⟨w1.heap.size, 2, none⟩ = false := frozen_of_blk hh 2
          clear hm hh ho0 hb
          go_wp2
          go_roundw
          case rel =>
            refine ⟨3, d0, d1, (d2 + q) % 2251799813685248, d3, d4, (d2 + q) / 2251799813685248, rfl, by omega, by rw [quo_of _ (d2 + q) (by omega)], GN.out, ?_, ?_, ?_⟩
            · exact set_blk G1.out 2 _ _ (by rw [mask_of _ (d2 + q) (by omega) (by omega)]; rfl)
            · exact set_far (set_far G2.out _ _ (by omega)) _ _ (by omega)
            · exact (GB.out.setCell (by simp only []; omega) _).setCell (by simp only []; omega) _
          case measure => simp [intOf]
        · have hbd : d3 < 9223372036854775808 := by have := hm.e3 (by omega); omega
          have GN := Lib.hid (mid_next3 hm hbd)
          have x : wr.cell? ⟨w1.heap.size, 3, none⟩ = some (.int .u64 d3) := cell_of_blk hh 3 rfl
          have f : wr.frozen? ⟨w1.heap.size, 3, none⟩ = false := frozen_of_blk hh 3
          clear hm hh ho0 hb
          go_wp2
          go_roundw
          case rel =>
            refine ⟨4, d0, d1, d2, (d3 + q) % 2251799813685248, d4, (d3 + q) / 2251799813685248, rfl, by omega, by rw [quo_of _ (d3 + q) (by omega)], GN.out, ?_, ?_, ?_⟩
            · exact set_blk G1.out 3 _ _ (by rw [mask_of _ (d3 + q) (by omega) (by omega)]; rfl)
            · exact set_far (set_far G2.out _ _ (by omega)) _ _ (by omega)
            · exact (GB.out.setCell (by simp only []; omega) _).setCell (by simp only []; omega) _
          case measure => simp [intOf]
        · have hbd : d4 < 9223372036854775808 := by have := hm.e4 (by omega); omega
          have GN := Lib.hid (mid_next4 hm hbd)
          have x : wr.cell? ⟨w1.heap.size, 4, none⟩ = some (.int .u64 d4) := cell_of_blk hh 4 rfl
          have f : wr.frozen? ⟨w1.heap.size, 4, none⟩ = false := frozen_of_blk hh 4
          clear hm hh ho0 hb
          go_wp2
          go_roundw
          case rel =>
            refine ⟨5, d0, d1, d2, d3, (d4 + q) % 2251799813685248, (d4 + q) / 2251799813685248, rfl, by omega, by rw [quo_of _ (d4 + q) (by omega)], GN.out, ?_, ?_, ?_⟩
            · exact set_blk G1.out 4 _ _ (by rw [mask_of _ (d4 + q) (by omega) (by omega)]; rfl)
            · exact set_far (set_far G2.out _ _ (by omega)) _ _ (by omega)
            · exact (GB.out.setCell (by simp only []; omega) _).setCell (by simp only []; omega) _
          case measure => simp [intOf]
        · have HFIN := Lib.hid (red_fin HBN.out HCAR.out hm)
          have x0 : wr.cell? ⟨w1.heap.size, 0, none⟩ = some (.int .u64 d0) := cell_of_blk hh 0 rfl
          have x1 : wr.cell? ⟨w1.heap.size, 1, none⟩ = some (.int .u64 d1) := cell_of_blk hh 1 rfl
          have x2 : wr.cell? ⟨w1.heap.size, 2, none⟩ = some (.int .u64 d2) := cell_of_blk hh 2 rfl
          have x3 : wr.cell? ⟨w1.heap.size, 3, none⟩ = some (.int .u64 d3) := cell_of_blk hh 3 rfl
          have x4 : wr.cell? ⟨w1.heap.size, 4, none⟩ = some (.int .u64 d4) := cell_of_blk hh 4 rfl
          have y0 : wr.cell? ⟨B1, 0, none⟩ = some (.int .u64 0) := cell_of_blk ho0 0 rfl
          have y1 : wr.cell? ⟨B1, 1, none⟩ = some (.int .u64 0) := cell_of_blk ho0 1 rfl
          have y2 : wr.cell? ⟨B1, 2, none⟩ = some (.int .u64 0) := cell_of_blk ho0 2 rfl
          have y3 : wr.cell? ⟨B1, 3, none⟩ = some (.int .u64 0) := cell_of_blk ho0 3 rfl
          have y4 : wr.cell? ⟨B1, 4, none⟩ = some (.int .u64 0) := cell_of_blk ho0 4 rfl
          have f0 := frozen_of_blk ho0 0
          have f1 := frozen_of_blk ho0 1
          have f2 := frozen_of_blk ho0 2
          have f3 := frozen_of_blk ho0 3
          have f4 := frozen_of_blk ho0 4
          have hwB : w.heap.size ≤ B1 := by omega
          clear hm hh ho0 hb
          go_wp2
          try simp only [Exit.inBlock, Exit.then]
          refine bodyPost_ret (results_cell_row rfl _ _ B1 31 _ (0, 0) _ rfl (set_all G2.out _ _ _ _ _) Tryd.underlying31 rfl info31) rfl ?_
          refine ⟨?_, ((((GB.out.setCell hwB _).setCell hwB _).setCell hwB _).setCell hwB _).setCell hwB _⟩
          rw [← HVX.out, ← HFIN.out]
          rfl

theorem redV_inj {x y : Nat} (h : redV x = redV y) : x = y := by
  unfold redV limbsV at h
  simp only [Value.agg.injEq, Array.mk.injEq, List.cons.injEq, Value.int.injEq, true_and, and_true, Int.natCast_inj] at h
  obtain ⟨h0, h1, h2, h3, h4⟩ := h
  omega

end Go.Proofs.YtdmioipdmdmkhaaDoor
