/- Add, Sub and Choose of package field. -/
import Derived.Test.YtdmioipdmdmkhaaDoorA1
set_option linter.unusedVariables false
set_option linter.unusedSimpArgs false
namespace Go.Proofs.YtdmioipdmdmkhaaDoor
open Go.RowKit

/-- A number of the field: five small limbs, the number modulo p. -/
def El (v : Value) (x : Nat) : Prop := ∃ a0 a1 a2 a3 a4 : Nat, v = limbsV a0 a1 a2 a3 a4 ∧ a0 ≤ 4503599627370496 ∧ a1 ≤ 4503599627370496 ∧ a2 ≤ 4503599627370496 ∧ a3 ≤ 4503599627370496 ∧ a4 ≤ 4503599627370496 ∧ valN a0 a1 a2 a3 a4 % pr = x
theorem pr_pos : 0 < pr := by unfold pr; omega
theorem El.lt {v : Value} {x : Nat} (h : El v x) : x < pr := by
  obtain ⟨_, _, _, _, _, _, _, _, _, _, _, rfl⟩ := h
  exact Nat.mod_lt _ pr_pos
theorem El.of_bnd {a0 a1 a2 a3 a4 k n x : Nat} (hb : Bnd 2 a0 a1 a2 a3 a4) (hv : valN a0 a1 a2 a3 a4 + k * pr = n) (hx : n % pr = x) : El (limbsV a0 a1 a2 a3 a4) x := by
  obtain ⟨m0, m1, m2, m3, m4⟩ := hb.m (by omega)
  have f := hb.f (by omega)
  refine ⟨a0, a1, a2, a3, a4, rfl, by omega, by omega, by omega, by omega, by omega, ?_⟩
  rw [← hx, ← hv, Nat.add_mul_mod_self_right]
theorem El.crd {a0 a1 a2 a3 a4 x : Nat} (h0 : a0 < 9223372036854775808) (h1 : a1 < 9223372036854775808) (h2 : a2 < 9223372036854775808) (h3 : a3 < 9223372036854775808) (h4 : a4 < 9223372036854775808) (hx : valN a0 a1 a2 a3 a4 % pr = x) : El (crd a0 a1 a2 a3 a4).v x := by
  obtain ⟨p1, k, p2⟩ := crd_spec h0 h1 h2 h3 h4
  exact El.of_bnd p1 p2 hx
/-- A call tells one value in whatever world. -/
def Det (n : Nat) (args : Array Value) (z : Value) : Prop := ∀ w, Calls Tryd.prog n args w fun r w' => r = .returned z ∧ Below w.heap.size w w'
/-- What the package's variable holds. -/
def Four (w : World) : Prop := w.cell? ⟨0, 0, none⟩ = some (.int .u64 9007199254740916) ∧ w.cell? ⟨0, 1, none⟩ = some (.int .u64 9007199254740988) ∧ w.cell? ⟨0, 2, none⟩ = some (.int .u64 9007199254740988) ∧ w.cell? ⟨0, 3, none⟩ = some (.int .u64 9007199254740988) ∧ w.cell? ⟨0, 4, none⟩ = some (.int .u64 9007199254740988)
theorem Four.below {w w1 : World} {B : Nat} (h : Four w) (hB : 0 < B) (hb : Below B w w1) : Four w1 := by
  obtain ⟨h0, h1, h2, h3, h4⟩ := h
  exact ⟨(hb.cell (p := ⟨0, 0, none⟩) hB).trans h0, (hb.cell (p := ⟨0, 1, none⟩) hB).trans h1, (hb.cell (p := ⟨0, 2, none⟩) hB).trans h2, (hb.cell (p := ⟨0, 3, none⟩) hB).trans h3, (hb.cell (p := ⟨0, 4, none⟩) hB).trans h4⟩
theorem Four.pos {w : World} (h : Four w) : 0 < w.heap.size := World.block_lt_of_cell? w _ h.1

theorem start_add (w : World) (x y z t : Array Value) {B1 B2 B3 : Nat} (h1 : w.heap.size + 1 = B1) (h2 : B1 + 1 = B2) (h3 : B2 + 1 = B3) : ((((w.alloc (.cells x 33)).alloc (.cells y 33)).alloc (.cells z 33)).alloc (.cells t 31)).heap[B3]? = some (.cells t 31 (0, 0)) ∧
    ((((w.alloc (.cells x 33)).alloc (.cells y 33)).alloc (.cells z 33)).alloc (.cells t 31)).heap[B1]? = some (.cells y 33 (0, 0)) ∧ ((((w.alloc (.cells x 33)).alloc (.cells y 33)).alloc (.cells z 33)).alloc (.cells t 31)).heap[B2]? = some (.cells z 33 (0, 0)) ∧
    Below w.heap.size w ((((w.alloc (.cells x 33)).alloc (.cells y 33)).alloc (.cells z 33)).alloc (.cells t 31)) := by
  subst h1 h2 h3
  refine ⟨alloc_at (by simp), ?_, ?_, ?_⟩
  · rw [Below.heap_alloc _ _ _ (by simp), Below.heap_alloc _ _ _ (by simp)]; exact alloc_at (by simp)
  · rw [Below.heap_alloc _ _ _ (by simp)]; exact alloc_at (by simp)
  · exact ((((Below.refl _ _).alloc (Nat.le_refl _) _).alloc (by simp) _).alloc (by simp; omega) _).alloc (by simp; omega) _
theorem wrap_of (x : Int) (a : Nat) (hx : x = a) (ha : a < 18446744073709551616) : IntKind.u64.wrap x = (a : Int) := by
  subst hx; rw [IntKind.wrap_u64]; omega

/-- The first i limbs done. -/
structure Part (i x0 x1 x2 x3 x4 f0 f1 f2 f3 f4 d0 d1 d2 d3 d4 : Nat) : Prop where
  e0 : i ≤ 0 → d0 = x0
  e1 : i ≤ 1 → d1 = x1
  e2 : i ≤ 2 → d2 = x2
  e3 : i ≤ 3 → d3 = x3
  e4 : i ≤ 4 → d4 = x4
  g0 : 0 < i → d0 = f0
  g1 : 1 < i → d1 = f1
  g2 : 2 < i → d2 = f2
  g3 : 3 < i → d3 = f3
  g4 : 4 < i → d4 = f4
theorem Part.start {x0 x1 x2 x3 x4 f0 f1 f2 f3 f4 : Nat} : Part 0 x0 x1 x2 x3 x4 f0 f1 f2 f3 f4 x0 x1 x2 x3 x4 :=
  ⟨fun _ => rfl, fun _ => rfl, fun _ => rfl, fun _ => rfl, fun _ => rfl, by omega, by omega, by omega, by omega, by omega⟩
theorem Part.next0 {x0 x1 x2 x3 x4 f0 f1 f2 f3 f4 d0 d1 d2 d3 d4 : Nat} (h : Part 0 x0 x1 x2 x3 x4 f0 f1 f2 f3 f4 d0 d1 d2 d3 d4) : Part 1 x0 x1 x2 x3 x4 f0 f1 f2 f3 f4 f0 d1 d2 d3 d4 := ⟨by omega, fun _ => h.e1 (by omega), fun _ => h.e2 (by omega), fun _ => h.e3 (by omega), fun _ => h.e4 (by omega), fun _ => rfl, by omega, by omega, by omega, by omega⟩
theorem Part.next1 {x0 x1 x2 x3 x4 f0 f1 f2 f3 f4 d0 d1 d2 d3 d4 : Nat} (h : Part 1 x0 x1 x2 x3 x4 f0 f1 f2 f3 f4 d0 d1 d2 d3 d4) : Part 2 x0 x1 x2 x3 x4 f0 f1 f2 f3 f4 d0 f1 d2 d3 d4 := ⟨by omega, by omega, fun _ => h.e2 (by omega), fun _ => h.e3 (by omega), fun _ => h.e4 (by omega), fun _ => h.g0 (by omega), fun _ => rfl, by omega, by omega, by omega⟩
theorem Part.next2 {x0 x1 x2 x3 x4 f0 f1 f2 f3 f4 d0 d1 d2 d3 d4 : Nat} (h : Part 2 x0 x1 x2 x3 x4 f0 f1 f2 f3 f4 d0 d1 d2 d3 d4) : Part 3 x0 x1 x2 x3 x4 f0 f1 f2 f3 f4 d0 d1 f2 d3 d4 := ⟨by omega, by omega, by omega, fun _ => h.e3 (by omega), fun _ => h.e4 (by omega), fun _ => h.g0 (by omega), fun _ => h.g1 (by omega), fun _ => rfl, by omega, by omega⟩
theorem Part.next3 {x0 x1 x2 x3 x4 f0 f1 f2 f3 f4 d0 d1 d2 d3 d4 : Nat} (h : Part 3 x0 x1 x2 x3 x4 f0 f1 f2 f3 f4 d0 d1 d2 d3 d4) : Part 4 x0 x1 x2 x3 x4 f0 f1 f2 f3 f4 d0 d1 d2 f3 d4 := ⟨by omega, by omega, by omega, by omega, fun _ => h.e4 (by omega), fun _ => h.g0 (by omega), fun _ => h.g1 (by omega), fun _ => h.g2 (by omega), fun _ => rfl, by omega⟩
theorem Part.next4 {x0 x1 x2 x3 x4 f0 f1 f2 f3 f4 d0 d1 d2 d3 d4 : Nat} (h : Part 4 x0 x1 x2 x3 x4 f0 f1 f2 f3 f4 d0 d1 d2 d3 d4) : Part 5 x0 x1 x2 x3 x4 f0 f1 f2 f3 f4 d0 d1 d2 d3 f4 := ⟨by omega, by omega, by omega, by omega, by omega, fun _ => h.g0 (by omega), fun _ => h.g1 (by omega), fun _ => h.g2 (by omega), fun _ => h.g3 (by omega), fun _ => rfl⟩

theorem val_add (a0 a1 a2 a3 a4 b0 b1 b2 b3 b4 : Nat) : valN (a0 + b0) (a1 + b1) (a2 + b2) (a3 + b3) (a4 + b4) = valN a0 a1 a2 a3 a4 + valN b0 b1 b2 b3 b4 := by unfold valN; omega
set_option maxRecDepth 100000 in
set_option maxHeartbeats 8000000 in
theorem add_any {v u : Value} {x y : Nat} (hv : El v x) (hu : El u y) : ∃ z, El z ((x + y) % pr) ∧ Det 32 #[v, u] z := by
  obtain ⟨a0, a1, a2, a3, a4, rfl, ha0, ha1, ha2, ha3, ha4, hx⟩ := hv
  obtain ⟨b0, b1, b2, b3, b4, rfl, hb0, hb1, hb2, hb3, hb4, hy⟩ := hu
  refine ⟨(crd (a0 + b0) (a1 + b1) (a2 + b2) (a3 + b3) (a4 + b4)).v, El.crd (by omega) (by omega) (by omega) (by omega) (by omega) (by rw [val_add, ← hx, ← hy, ← Nat.add_mod]), fun w => ?_⟩
  clear hx hy
  unfold limbsV
  go_enter Tryd.func32, Tryd.ntmps32
  go_wp2
  obtain ⟨B1, hB1⟩ : ∃ B, w.heap.size + 1 = B := ⟨_, rfl⟩
  obtain ⟨B2, hB2⟩ : ∃ B, B1 + 1 = B := ⟨_, rfl⟩
  obtain ⟨B3, hB3⟩ : ∃ B, B2 + 1 = B := ⟨_, rfl⟩
  have HS := Lib.hid (start_add w (c5 a0 a1 a2 a3 a4) (c5 b0 b1 b2 b3 b4) (c5 0 0 0 0 0) (c5 a0 a1 a2 a3 a4) hB1 hB2 hB3)
  simp only [hB1, hB2, hB3]
  go_loopw [6, 9] (fun v6 v9 wr => ∃ i d0 d1 d2 d3 d4 : Nat, v9 = .int .i64 i ∧ i ≤ 5 ∧ Part i a0 a1 a2 a3 a4 (a0 + b0) (a1 + b1) (a2 + b2) (a3 + b3) (a4 + b4) d0 d1 d2 d3 d4 ∧
    wr.heap[B3]? = some (.cells (c5 d0 d1 d2 d3 d4) 31 (0, 0)) ∧ wr.heap[B1]? = some (.cells (c5 b0 b1 b2 b3 b4) 33 (0, 0)) ∧ wr.heap[B2]? = some (.cells (c5 0 0 0 0 0) 33 (0, 0)) ∧ Below w.heap.size w wr) (fun v6 v9 _ => 5 - (intOf v9).toNat)
  case atStart =>
    exact ⟨0, a0, a1, a2, a3, a4, rfl, by omega, Part.start, HS.out.1, HS.out.2.1, HS.out.2.2.1, HS.out.2.2.2⟩
  case round =>
    obtain ⟨i, d0, d1, d2, d3, d4, rfl, hi, hp, hh, ho0, ho1, hb⟩ := hrel
    have HP := Lib.hid hp
    have HH := Lib.hid hh
    have HO0 := Lib.hid ho0
    have HO1 := Lib.hid ho1
    have HB := Lib.hid hb
    have hi' : i = 0 ∨ i = 1 ∨ i = 2 ∨ i = 3 ∨ i = 4 ∨ i = 5 := by omega
    rcases hi' with rfl | rfl | rfl | rfl | rfl | rfl
    · obtain rfl := (hp.e0 (by omega)).symm
      have z : wr.cell? ⟨B3, 0, none⟩ = some (.int .u64 a0) := cell_of_blk hh 0 rfl
      have zf : wr.frozen? ⟨B3, 0, none⟩ = false := frozen_of_blk hh 0
      have y : wr.cell? ⟨B1, 0, none⟩ = some (.int .u64 b0) := cell_of_blk ho0 0 rfl
      clear hp hh ho0 ho1 hb
      go_wp2
      go_region_law (fail)
      all_goals
        go_wp2
        go_roundw
        case rel =>
          refine ⟨1, a0 + b0, d1, d2, d3, d4, rfl, by omega, HP.out.next0, ?_, ?_, ?_, ?_⟩
          · exact set_blk1 (w := wr.drew) HH.out 0 _ (by skip; rfl)
          · exact set_far (w := wr.drew) HO0.out _ _ (by omega)
          · exact set_far (w := wr.drew) HO1.out _ _ (by omega)
          · exact HB.out.drew.setCell (by simp only []; omega) _
        case measure => simp [intOf]
    · obtain rfl := (hp.e1 (by omega)).symm
      have z : wr.cell? ⟨B3, 1, none⟩ = some (.int .u64 a1) := cell_of_blk hh 1 rfl
      have zf : wr.frozen? ⟨B3, 1, none⟩ = false := frozen_of_blk hh 1
      have y : wr.cell? ⟨B1, 1, none⟩ = some (.int .u64 b1) := cell_of_blk ho0 1 rfl
      clear hp hh ho0 ho1 hb
      go_wp2
      go_region_law (fail)
      all_goals
        go_wp2
        go_roundw
        case rel =>
          refine ⟨2, d0, a1 + b1, d2, d3, d4, rfl, by omega, HP.out.next1, ?_, ?_, ?_, ?_⟩
          · exact set_blk1 (w := wr.drew) HH.out 1 _ (by skip; rfl)
          · exact set_far (w := wr.drew) HO0.out _ _ (by omega)
          · exact set_far (w := wr.drew) HO1.out _ _ (by omega)
          · exact HB.out.drew.setCell (by simp only []; omega) _
        case measure => simp [intOf]
    · obtain rfl := (hp.e2 (by omega)).symm
      have z : wr.cell? ⟨B3, 2, none⟩ = some (.int .u64 a2) := cell_of_blk hh 2 rfl
      have zf : wr.frozen? ⟨B3, 2, none⟩ = false := frozen_of_blk hh 2
      have y : wr.cell? ⟨B1, 2, none⟩ = some (.int .u64 b2) := cell_of_blk ho0 2 rfl
      clear hp hh ho0 ho1 hb
      go_wp2
      go_region_law (fail)
      all_goals
        go_wp2
        go_roundw
        case rel =>
          refine ⟨3, d0, d1, a2 + b2, d3, d4, rfl, by omega, HP.out.next2, ?_, ?_, ?_, ?_⟩
          · exact set_blk1 (w := wr.drew) HH.out 2 _ (by skip; rfl)
          · exact set_far (w := wr.drew) HO0.out _ _ (by omega)
          · exact set_far (w := wr.drew) HO1.out _ _ (by omega)
          · exact HB.out.drew.setCell (by simp only []; omega) _
        case measure => simp [intOf]
    · obtain rfl := (hp.e3 (by omega)).symm
      have z : wr.cell? ⟨B3, 3, none⟩ = some (.int .u64 a3) := cell_of_blk hh 3 rfl
      have zf : wr.frozen? ⟨B3, 3, none⟩ = false := frozen_of_blk hh 3
      have y : wr.cell? ⟨B1, 3, none⟩ = some (.int .u64 b3) := cell_of_blk ho0 3 rfl
      clear hp hh ho0 ho1 hb
      go_wp2
      go_region_law (fail)
      all_goals
        go_wp2
        go_roundw
        case rel =>
          refine ⟨4, d0, d1, d2, a3 + b3, d4, rfl, by omega, HP.out.next3, ?_, ?_, ?_, ?_⟩
          · exact set_blk1 (w := wr.drew) HH.out 3 _ (by skip; rfl)
          · exact set_far (w := wr.drew) HO0.out _ _ (by omega)
          · exact set_far (w := wr.drew) HO1.out _ _ (by omega)
          · exact HB.out.drew.setCell (by simp only []; omega) _
        case measure => simp [intOf]
    · obtain rfl := (hp.e4 (by omega)).symm
      have z : wr.cell? ⟨B3, 4, none⟩ = some (.int .u64 a4) := cell_of_blk hh 4 rfl
      have zf : wr.frozen? ⟨B3, 4, none⟩ = false := frozen_of_blk hh 4
      have y : wr.cell? ⟨B1, 4, none⟩ = some (.int .u64 b4) := cell_of_blk ho0 4 rfl
      clear hp hh ho0 ho1 hb
      go_wp2
      go_region_law (fail)
      all_goals
        go_wp2
        go_roundw
        case rel =>
          refine ⟨5, d0, d1, d2, d3, a4 + b4, rfl, by omega, HP.out.next4, ?_, ?_, ?_, ?_⟩
          · exact set_blk1 (w := wr.drew) HH.out 4 _ (by skip; rfl)
          · exact set_far (w := wr.drew) HO0.out _ _ (by omega)
          · exact set_far (w := wr.drew) HO1.out _ _ (by omega)
          · exact HB.out.drew.setCell (by simp only []; omega) _
        case measure => simp [intOf]
    · have g0 := hp.g0 (by omega); have g1 := hp.g1 (by omega); have g2 := hp.g2 (by omega); have g3 := hp.g3 (by omega); have g4 := hp.g4 (by omega)
      subst g0 g1 g2 g3 g4
      have z0 : wr.cell? ⟨B3, 0, none⟩ = some (.int .u64 (a0 + b0 : Nat)) := cell_of_blk hh 0 rfl
      have z1 : wr.cell? ⟨B3, 1, none⟩ = some (.int .u64 (a1 + b1 : Nat)) := cell_of_blk hh 1 rfl
      have z2 : wr.cell? ⟨B3, 2, none⟩ = some (.int .u64 (a2 + b2 : Nat)) := cell_of_blk hh 2 rfl
      have z3 : wr.cell? ⟨B3, 3, none⟩ = some (.int .u64 (a3 + b3 : Nat)) := cell_of_blk hh 3 rfl
      have z4 : wr.cell? ⟨B3, 4, none⟩ = some (.int .u64 (a4 + b4 : Nat)) := cell_of_blk hh 4 rfl
      have hlt2 := heap_lt ho1
      have hwB : w.heap.size ≤ B2 := by omega
      have HC := Lib.hid (carried_any (a0 + b0) (a1 + b1) (a2 + b2) (a3 + b3) (a4 + b4) wr (by omega) (by omega) (by omega) (by omega) (by omega))
      clear hp hh ho0 ho1 hb HP
      go_wp2_with fail
      refine HC.out.mono ?_
      rintro e w1 ⟨rfl, hbw⟩
      obtain ⟨c0, c1, c2, c3, c4, hcv⟩ : ∃ c0 c1 c2 c3 c4, crd (a0 + b0) (a1 + b1) (a2 + b2) (a3 + b3) (a4 + b4) = ⟨c0, c1, c2, c3, c4⟩ := ⟨_, _, _, _, _, rfl⟩
      have HCV := Lib.hid hcv
      rw [hcv]
      have H2 := Lib.hid ((hbw.block B2 hlt2).trans HO1.out)
      have HB1 := Lib.hid (HB.out.trans (hbw.mono HB.out.size))
      have h2 := H2.out
      have y0 : w1.cell? ⟨B2, 0, none⟩ = some (.int .u64 0) := cell_of_blk h2 0 rfl
      have y1 : w1.cell? ⟨B2, 1, none⟩ = some (.int .u64 0) := cell_of_blk h2 1 rfl
      have y2 : w1.cell? ⟨B2, 2, none⟩ = some (.int .u64 0) := cell_of_blk h2 2 rfl
      have y3 : w1.cell? ⟨B2, 3, none⟩ = some (.int .u64 0) := cell_of_blk h2 3 rfl
      have y4 : w1.cell? ⟨B2, 4, none⟩ = some (.int .u64 0) := cell_of_blk h2 4 rfl
      have f0 := frozen_of_blk h2 0
      have f1 := frozen_of_blk h2 1
      have f2 := frozen_of_blk h2 2
      have f3 := frozen_of_blk h2 3
      have f4 := frozen_of_blk h2 4
      clear hcv hbw h2 z0 z1 z2 z3 z4
      dsimp only [L5.v, limbsV]
      go_wp2
      try simp only [Exit.inBlock, Exit.then]
      refine bodyPost_ret (results_cell_row rfl _ _ B2 33 _ (0, 0) _ rfl (set_all H2.out _ _ _ _ _) Tryd.underlying33 rfl info33) rfl ?_
      exact ⟨by rw [HCV.out]; rfl, ((((HB1.out.setCell hwB _).setCell hwB _).setCell hwB _).setCell hwB _).setCell hwB _⟩


theorem val_sub (a0 a1 a2 a3 a4 b0 b1 b2 b3 b4 : Nat) (h0 : b0 ≤ 9007199254740916) (h1 : b1 ≤ 9007199254740988) (h2 : b2 ≤ 9007199254740988) (h3 : b3 ≤ 9007199254740988) (h4 : b4 ≤ 9007199254740988) :
    valN (a0 + (9007199254740916 - b0)) (a1 + (9007199254740988 - b1)) (a2 + (9007199254740988 - b2)) (a3 + (9007199254740988 - b3)) (a4 + (9007199254740988 - b4)) + valN b0 b1 b2 b3 b4 = valN a0 a1 a2 a3 a4 + 4 * pr := by unfold valN pr; omega
/-- A difference, modulo p. -/
def subP (x y : Nat) : Nat := (x + (pr - y)) % pr
theorem sub_mod {d a b : Nat} (h : d + b = a + 4 * pr) : d % pr = subP (a % pr) (b % pr) := by
  unfold subP
  have hb := Nat.mod_lt b pr_pos
  have e1 : d + b % pr + pr * (b / pr) = a + 4 * pr := by rw [Nat.add_assoc, Nat.mod_add_div]; exact h
  have e2 : (a % pr + (pr - b % pr)) + pr * (a / pr) = a + (pr - b % pr) := by
    have := Nat.mod_add_div a pr
    omega
  have e3 : (a % pr + (pr - b % pr)) % pr = (a + (pr - b % pr)) % pr := by rw [← e2, Nat.add_mul_mod_self_left]
  rw [e3]
  have e4 : d + pr * (b / pr) + pr = a + (pr - b % pr) + 4 * pr := by omega
  have e5 := congrArg (· % pr) e4
  simp only [Nat.add_mul_mod_self_right, Nat.add_mod_right, Nat.add_mul_mod_self_left] at e5
  exact e5
set_option maxRecDepth 100000 in
set_option maxHeartbeats 8000000 in
theorem sub_any {v u : Value} {x y : Nat} (hv : El v x) (hu : El u y) : ∃ z, El z (subP x y) ∧ ∀ w, Four w → Calls Tryd.prog 33 #[v, u] w fun r w' => r = .returned z ∧ Below w.heap.size w w' := by
  obtain ⟨a0, a1, a2, a3, a4, rfl, ha0, ha1, ha2, ha3, ha4, hx⟩ := hv
  obtain ⟨b0, b1, b2, b3, b4, rfl, hb0, hb1, hb2, hb3, hb4, hy⟩ := hu
  refine ⟨(crd (a0 + (9007199254740916 - b0)) (a1 + (9007199254740988 - b1)) (a2 + (9007199254740988 - b2)) (a3 + (9007199254740988 - b3)) (a4 + (9007199254740988 - b4))).v, El.crd (by omega) (by omega) (by omega) (by omega) (by omega) (by rw [sub_mod (val_sub a0 a1 a2 a3 a4 b0 b1 b2 b3 b4 (by omega) (by omega) (by omega) (by omega) (by omega)), hx, hy]), fun w h4 => ?_⟩
  have H4 := Lib.hid h4
  have h4p := h4.pos
  clear hx hy h4
  unfold limbsV
  go_enter Tryd.func33, Tryd.ntmps33
  go_wp2
  obtain ⟨B1, hB1⟩ : ∃ B, w.heap.size + 1 = B := ⟨_, rfl⟩
  obtain ⟨B2, hB2⟩ : ∃ B, B1 + 1 = B := ⟨_, rfl⟩
  obtain ⟨B3, hB3⟩ : ∃ B, B2 + 1 = B := ⟨_, rfl⟩
  have HS := Lib.hid (start_add w (c5 a0 a1 a2 a3 a4) (c5 b0 b1 b2 b3 b4) (c5 0 0 0 0 0) (c5 a0 a1 a2 a3 a4) hB1 hB2 hB3)
  simp only [hB1, hB2, hB3]
  go_loopw [6, 9] (fun v6 v9 wr => ∃ i d0 d1 d2 d3 d4 : Nat, v9 = .int .i64 i ∧ i ≤ 5 ∧ Part i a0 a1 a2 a3 a4 (a0 + (9007199254740916 - b0)) (a1 + (9007199254740988 - b1)) (a2 + (9007199254740988 - b2)) (a3 + (9007199254740988 - b3)) (a4 + (9007199254740988 - b4)) d0 d1 d2 d3 d4 ∧
    wr.heap[B3]? = some (.cells (c5 d0 d1 d2 d3 d4) 31 (0, 0)) ∧ wr.heap[B1]? = some (.cells (c5 b0 b1 b2 b3 b4) 33 (0, 0)) ∧ wr.heap[B2]? = some (.cells (c5 0 0 0 0 0) 33 (0, 0)) ∧ Below w.heap.size w wr) (fun v6 v9 _ => 5 - (intOf v9).toNat)
  case atStart =>
    exact ⟨0, a0, a1, a2, a3, a4, rfl, by omega, Part.start, HS.out.1, HS.out.2.1, HS.out.2.2.1, HS.out.2.2.2⟩
  case round =>
    obtain ⟨i, d0, d1, d2, d3, d4, rfl, hi, hp, hh, ho0, ho1, hb⟩ := hrel
    have HP := Lib.hid hp
    have HH := Lib.hid hh
    have HO0 := Lib.hid ho0
    have HO1 := Lib.hid ho1
    have HB := Lib.hid hb
    have hi' : i = 0 ∨ i = 1 ∨ i = 2 ∨ i = 3 ∨ i = 4 ∨ i = 5 := by omega
    rcases hi' with rfl | rfl | rfl | rfl | rfl | rfl
    · obtain rfl := (hp.e0 (by omega)).symm
      have z : wr.cell? ⟨B3, 0, none⟩ = some (.int .u64 a0) := cell_of_blk hh 0 rfl
      have zf : wr.frozen? ⟨B3, 0, none⟩ = false := frozen_of_blk hh 0
      have y : wr.cell? ⟨B1, 0, none⟩ = some (.int .u64 b0) := cell_of_blk ho0 0 rfl
      have q : wr.cell? ⟨0, 0, none⟩ = some (.int .u64 9007199254740916) := (H4.out.below h4p hb).1
      clear hp hh ho0 ho1 hb
      go_wp2
      go_region_law (fail)
      all_goals
        go_wp2
        go_roundw
        case rel =>
          refine ⟨1, a0 + (9007199254740916 - b0), d1, d2, d3, d4, rfl, by omega, HP.out.next0, ?_, ?_, ?_, ?_⟩
          · exact set_blk1 (w := wr.drew) HH.out 0 _ (by rw [show ((9007199254740916 : Int) - (b0 : Int)) = ((9007199254740916 - b0 : Nat) : Int) from by omega]; rfl)
          · exact set_far (w := wr.drew) HO0.out _ _ (by omega)
          · exact set_far (w := wr.drew) HO1.out _ _ (by omega)
          · exact HB.out.drew.setCell (by simp only []; omega) _
        case measure => simp [intOf]
    · obtain rfl := (hp.e1 (by omega)).symm
      have z : wr.cell? ⟨B3, 1, none⟩ = some (.int .u64 a1) := cell_of_blk hh 1 rfl
      have zf : wr.frozen? ⟨B3, 1, none⟩ = false := frozen_of_blk hh 1
      have y : wr.cell? ⟨B1, 1, none⟩ = some (.int .u64 b1) := cell_of_blk ho0 1 rfl
      have q : wr.cell? ⟨0, 1, none⟩ = some (.int .u64 9007199254740988) := (H4.out.below h4p hb).2.1
      clear hp hh ho0 ho1 hb
      go_wp2
      go_region_law (fail)
      all_goals
        go_wp2
        go_roundw
        case rel =>
          refine ⟨2, d0, a1 + (9007199254740988 - b1), d2, d3, d4, rfl, by omega, HP.out.next1, ?_, ?_, ?_, ?_⟩
          · exact set_blk1 (w := wr.drew) HH.out 1 _ (by rw [show ((9007199254740988 : Int) - (b1 : Int)) = ((9007199254740988 - b1 : Nat) : Int) from by omega]; rfl)
          · exact set_far (w := wr.drew) HO0.out _ _ (by omega)
          · exact set_far (w := wr.drew) HO1.out _ _ (by omega)
          · exact HB.out.drew.setCell (by simp only []; omega) _
        case measure => simp [intOf]
    · obtain rfl := (hp.e2 (by omega)).symm
      have z : wr.cell? ⟨B3, 2, none⟩ = some (.int .u64 a2) := cell_of_blk hh 2 rfl
      have zf : wr.frozen? ⟨B3, 2, none⟩ = false := frozen_of_blk hh 2
      have y : wr.cell? ⟨B1, 2, none⟩ = some (.int .u64 b2) := cell_of_blk ho0 2 rfl
      have q : wr.cell? ⟨0, 2, none⟩ = some (.int .u64 9007199254740988) := (H4.out.below h4p hb).2.2.1
      clear hp hh ho0 ho1 hb
      go_wp2
      go_region_law (fail)
      all_goals
        go_wp2
        go_roundw
        case rel =>
          refine ⟨3, d0, d1, a2 + (9007199254740988 - b2), d3, d4, rfl, by omega, HP.out.next2, ?_, ?_, ?_, ?_⟩
          · exact set_blk1 (w := wr.drew) HH.out 2 _ (by rw [show ((9007199254740988 : Int) - (b2 : Int)) = ((9007199254740988 - b2 : Nat) : Int) from by omega]; rfl)
          · exact set_far (w := wr.drew) HO0.out _ _ (by omega)
          · exact set_far (w := wr.drew) HO1.out _ _ (by omega)
          · exact HB.out.drew.setCell (by simp only []; omega) _
        case measure => simp [intOf]
    · obtain rfl := (hp.e3 (by omega)).symm
      have z : wr.cell? ⟨B3, 3, none⟩ = some (.int .u64 a3) := cell_of_blk hh 3 rfl
      have zf : wr.frozen? ⟨B3, 3, none⟩ = false := frozen_of_blk hh 3
      have y : wr.cell? ⟨B1, 3, none⟩ = some (.int .u64 b3) := cell_of_blk ho0 3 rfl
      have q : wr.cell? ⟨0, 3, none⟩ = some (.int .u64 9007199254740988) := (H4.out.below h4p hb).2.2.2.1
      clear hp hh ho0 ho1 hb
      go_wp2
      go_region_law (fail)
      all_goals
        go_wp2
        go_roundw
        case rel =>
          refine ⟨4, d0, d1, d2, a3 + (9007199254740988 - b3), d4, rfl, by omega, HP.out.next3, ?_, ?_, ?_, ?_⟩
          · exact set_blk1 (w := wr.drew) HH.out 3 _ (by rw [show ((9007199254740988 : Int) - (b3 : Int)) = ((9007199254740988 - b3 : Nat) : Int) from by omega]; rfl)
          · exact set_far (w := wr.drew) HO0.out _ _ (by omega)
          · exact set_far (w := wr.drew) HO1.out _ _ (by omega)
          · exact HB.out.drew.setCell (by simp only []; omega) _
        case measure => simp [intOf]
    · obtain rfl := (hp.e4 (by omega)).symm
      have z : wr.cell? ⟨B3, 4, none⟩ = some (.int .u64 a4) := cell_of_blk hh 4 rfl
      have zf : wr.frozen? ⟨B3, 4, none⟩ = false := frozen_of_blk hh 4
      have y : wr.cell? ⟨B1, 4, none⟩ = some (.int .u64 b4) := cell_of_blk ho0 4 rfl
      have q : wr.cell? ⟨0, 4, none⟩ = some (.int .u64 9007199254740988) := (H4.out.below h4p hb).2.2.2.2
      clear hp hh ho0 ho1 hb
      go_wp2
      go_region_law (fail)
      all_goals
        go_wp2
        go_roundw
        case rel =>
          refine ⟨5, d0, d1, d2, d3, a4 + (9007199254740988 - b4), rfl, by omega, HP.out.next4, ?_, ?_, ?_, ?_⟩
          · exact set_blk1 (w := wr.drew) HH.out 4 _ (by rw [show ((9007199254740988 : Int) - (b4 : Int)) = ((9007199254740988 - b4 : Nat) : Int) from by omega]; rfl)
          · exact set_far (w := wr.drew) HO0.out _ _ (by omega)
          · exact set_far (w := wr.drew) HO1.out _ _ (by omega)
          · exact HB.out.drew.setCell (by simp only []; omega) _
        case measure => simp [intOf]
    · have g0 := hp.g0 (by omega); have g1 := hp.g1 (by omega); have g2 := hp.g2 (by omega); have g3 := hp.g3 (by omega); have g4 := hp.g4 (by omega)
      subst g0 g1 g2 g3 g4
      have z0 : wr.cell? ⟨B3, 0, none⟩ = some (.int .u64 (a0 + (9007199254740916 - b0) : Nat)) := cell_of_blk hh 0 rfl
      have z1 : wr.cell? ⟨B3, 1, none⟩ = some (.int .u64 (a1 + (9007199254740988 - b1) : Nat)) := cell_of_blk hh 1 rfl
      have z2 : wr.cell? ⟨B3, 2, none⟩ = some (.int .u64 (a2 + (9007199254740988 - b2) : Nat)) := cell_of_blk hh 2 rfl
      have z3 : wr.cell? ⟨B3, 3, none⟩ = some (.int .u64 (a3 + (9007199254740988 - b3) : Nat)) := cell_of_blk hh 3 rfl
      have z4 : wr.cell? ⟨B3, 4, none⟩ = some (.int .u64 (a4 + (9007199254740988 - b4) : Nat)) := cell_of_blk hh 4 rfl
      have hlt2 := heap_lt ho1
      have hwB : w.heap.size ≤ B2 := by omega
      have HC := Lib.hid (carried_any (a0 + (9007199254740916 - b0)) (a1 + (9007199254740988 - b1)) (a2 + (9007199254740988 - b2)) (a3 + (9007199254740988 - b3)) (a4 + (9007199254740988 - b4)) wr (by omega) (by omega) (by omega) (by omega) (by omega))
      clear hp hh ho0 ho1 hb HP
      go_wp2_with fail
      refine HC.out.mono ?_
      rintro e w1 ⟨rfl, hbw⟩
      obtain ⟨c0, c1, c2, c3, c4, hcv⟩ : ∃ c0 c1 c2 c3 c4, crd (a0 + (9007199254740916 - b0)) (a1 + (9007199254740988 - b1)) (a2 + (9007199254740988 - b2)) (a3 + (9007199254740988 - b3)) (a4 + (9007199254740988 - b4)) = ⟨c0, c1, c2, c3, c4⟩ := ⟨_, _, _, _, _, rfl⟩
      have HCV := Lib.hid hcv
      rw [hcv]
      have H2 := Lib.hid ((hbw.block B2 hlt2).trans HO1.out)
      have HB1 := Lib.hid (HB.out.trans (hbw.mono HB.out.size))
      have h2 := H2.out
      have y0 : w1.cell? ⟨B2, 0, none⟩ = some (.int .u64 0) := cell_of_blk h2 0 rfl
      have y1 : w1.cell? ⟨B2, 1, none⟩ = some (.int .u64 0) := cell_of_blk h2 1 rfl
      have y2 : w1.cell? ⟨B2, 2, none⟩ = some (.int .u64 0) := cell_of_blk h2 2 rfl
      have y3 : w1.cell? ⟨B2, 3, none⟩ = some (.int .u64 0) := cell_of_blk h2 3 rfl
      have y4 : w1.cell? ⟨B2, 4, none⟩ = some (.int .u64 0) := cell_of_blk h2 4 rfl
      have f0 := frozen_of_blk h2 0
      have f1 := frozen_of_blk h2 1
      have f2 := frozen_of_blk h2 2
      have f3 := frozen_of_blk h2 3
      have f4 := frozen_of_blk h2 4
      clear hcv hbw h2 z0 z1 z2 z3 z4
      dsimp only [L5.v, limbsV]
      go_wp2
      try simp only [Exit.inBlock, Exit.then]
      refine bodyPost_ret (results_cell_row rfl _ _ B2 33 _ (0, 0) _ rfl (set_all H2.out _ _ _ _ _) Tryd.underlying33 rfl info33) rfl ?_
      exact ⟨by rw [HCV.out]; rfl, ((((HB1.out.setCell hwB _).setCell hwB _).setCell hwB _).setCell hwB _).setCell hwB _⟩

end Go.Proofs.YtdmioipdmdmkhaaDoor
