/- Key of package field: the walk. -/
import Derived.Test.YtdmioipdmdmkhaaDoorA10
set_option linter.unusedVariables false
set_option linter.unusedSimpArgs false
namespace Go.Proofs.YtdmioipdmdmkhaaDoor
open Go.RowKit

theorem info23 : (Tryd.prog.info? 23).map (·.size) = some 32 := by kernel_rfl
abbrev zArr : Array Value := #[.int .u8 0, .int .u8 0, .int .u8 0, .int .u8 0, .int .u8 0, .int .u8 0, .int .u8 0, .int .u8 0, .int .u8 0, .int .u8 0, .int .u8 0, .int .u8 0, .int .u8 0, .int .u8 0, .int .u8 0, .int .u8 0, .int .u8 0, .int .u8 0, .int .u8 0, .int .u8 0, .int .u8 0, .int .u8 0, .int .u8 0, .int .u8 0, .int .u8 0, .int .u8 0, .int .u8 0, .int .u8 0, .int .u8 0, .int .u8 0, .int .u8 0, .int .u8 0]
theorem zArr_k : zArr = kArr (byteOf 0) := by
  have h : ∀ b, byteOf 0 b = 0 := fun b => by unfold byteOf; rw [Nat.zero_div]
  unfold kArr
  rw [h 0, h 1, h 2, h 3, h 4, h 5, h 6, h 7, h 8, h 9, h 10, h 11, h 12, h 13, h 14, h 15, h 16, h 17, h 18, h 19, h 20, h 21, h 22, h 23, h 24, h 25, h 26, h 27, h 28, h 29, h 30, h 31]
  rfl
theorem heap_setRow {w : World} {g : Nat} {t : TypeId} {cs : Array Value} (h : w.heap[g]? = some (.cells cs t (0, 0))) (ds : Array Value) : (w.setRow g ds).heap[g]? = some (.cells ds t (0, 0)) := by
  simp [World.setRow, Array.getElem?_modify, h]
theorem below_setRow {B : Nat} {a w : World} (h : Below B a w) {g : Nat} (hg : B ≤ g) (ds : Array Value) : Below B a (w.setRow g ds) :=
  h.trans ⟨rfl, rfl, rfl, by simp [World.setRow], fun k hk => by simp only [World.setRow, Array.getElem?_modify]; rw [if_neg (by omega)]⟩
theorem kArr_one (f : Nat → Nat) : (kArr f).all (·.oneCell') = true := by kernel_rfl
theorem start_key (w : World) (x z y : Array Value) {B1 B2 : Nat} (h1 : w.heap.size + 1 = B1) (h2 : B1 + 1 = B2) : (((w.alloc (.cells x 33)).alloc (.cells z 23)).alloc (.cells y 23)).heap[w.heap.size]? = some (.cells x 33 (0, 0)) ∧
    (((w.alloc (.cells x 33)).alloc (.cells z 23)).alloc (.cells y 23)).heap[B1]? = some (.cells z 23 (0, 0)) ∧ (((w.alloc (.cells x 33)).alloc (.cells z 23)).alloc (.cells y 23)).heap[B2]? = some (.cells y 23 (0, 0)) ∧
    Below w.heap.size w (((w.alloc (.cells x 33)).alloc (.cells z 23)).alloc (.cells y 23)) := by
  subst h1 h2
  refine ⟨?_, ?_, alloc_at (by simp), (((alloc_only w _).alloc (by simp) _).alloc (by simp; omega) _)⟩
  · rw [Below.heap_alloc _ _ _ (by simp; omega), Below.heap_alloc _ _ _ (by simp)]; exact alloc_at rfl
  · rw [Below.heap_alloc _ _ _ (by simp)]; exact alloc_at (by simp)

set_option maxRecDepth 100000 in
set_option maxHeartbeats 16000000 in
theorem key_any {v : Value} {x : Nat} (hv : El v x) (w : World) :
    Calls Tryd.prog 22 #[v] w fun r w' => r = .returned (keyOf x) ∧ Below w.heap.size w w' := by
  have HC := Lib.hid (fun w => reduced_any hv w)
  obtain ⟨r0, r1, r2, r3, r4, hrv, t0, t1, t2, t3, t4, hvx⟩ : ∃ r0 r1 r2 r3 r4 : Nat, redV x = limbsV r0 r1 r2 r3 r4 ∧ r0 < 2251799813685248 ∧ r1 < 2251799813685248 ∧ r2 < 2251799813685248 ∧ r3 < 2251799813685248 ∧ r4 < 2251799813685248 ∧ valN r0 r1 r2 r3 r4 = x := by
    have := hv.lt
    unfold pr at this
    exact ⟨_, _, _, _, _, rfl, by omega, by omega, by omega, by omega, by omega, by unfold valN; omega⟩
  rw [hrv] at HC
  have HKE := Lib.hid (show byteOf (xv r0 r1 r2 r3 r4 5) = byteOf x by rw [xv_end, hvx])
  clear hrv hvx
  obtain ⟨a0, a1, a2, a3, a4, rfl⟩ := hv.limbs
  clear hv
  unfold limbsV at *
  go_enter Tryd.func22, Tryd.ntmps22
  go_wp2_with fail
  obtain ⟨B1, hB1⟩ : ∃ B, w.heap.size + 1 = B := ⟨_, rfl⟩
  obtain ⟨B2, hB2⟩ : ∃ B, B1 + 1 = B := ⟨_, rfl⟩
  have HS := Lib.hid (start_key w (c5 a0 a1 a2 a3 a4) zArr zArr hB1 hB2)
  try simp only [hB1, hB2]
  refine (HC.out _).mono ?_
  rintro e w1 ⟨rfl, hb1⟩
  have hsz1 := hb1.size
  have G1 := Lib.hid ((hb1.block B1 (by simp; omega)).trans HS.out.2.1)
  have G2 := Lib.hid ((hb1.block B2 (by simp; omega)).trans HS.out.2.2.1)
  have GB := Lib.hid (HS.out.2.2.2.trans (hb1.mono HS.out.2.2.2.size))
  rw [zArr_k] at G2
  clear hb1 hsz1
  go_wp2
  go_loopw [4, 5, 6, 7, 8, 11, 23] (fun v4 v5 v6 v7 v8 v11 v23 wr => ∃ i : Nat, v11 = .int .i64 i ∧ i ≤ 5 ∧ wr.heap[B2]? = some (.cells (kArr (byteOf (xv r0 r1 r2 r3 r4 i))) 23 (0, 0)) ∧ wr.heap[B1]? = some (.cells zArr 23 (0, 0)) ∧ Below w.heap.size w wr) (fun v4 v5 v6 v7 v8 v11 v23 _ => 5 - (intOf v11).toNat)
  case atStart => exact ⟨0, rfl, by omega, G2.out, G1.out, GB.out⟩
  case round =>
    obtain ⟨i, hcnt, hi, h2, h1, hb⟩ := hrel
    have H2 := Lib.hid h2; have H1 := Lib.hid h1; have HB := Lib.hid hb
    have hi' : i = 0 ∨ i = 1 ∨ i = 2 ∨ i = 3 ∨ i = 4 ∨ i = 5 := by omega
    rcases hi' with rfl | rfl | rfl | rfl | rfl | rfl
    · have hcn : _ = Value.int .i64 0 := hcnt
      clear hcnt
      subst hcn
      have hI := index31_0 (.int .u64 r0) (.int .u64 r1) (.int .u64 r2) (.int .u64 r3) (.int .u64 r4) wr
      have HL := Lib.hid (low_any (r0 * 1) (by omega) wr)
      have hlw2 := heap_lt h2
      have hlw1 := heap_lt h1
      rw [kstart0] at H2
      clear h2 h1 hb
      go_wp2_with fail
      clear hI
      have hc : ((r0 : Int)) = ((r0 * 1 : Nat) : Int) := by omega
      rw [hc]
      refine HL.out.mono ?_
      rintro e w2 ⟨⟨g, rfl, hg⟩, hb2⟩
      have K2 := Lib.hid ((hb2.block B2 hlw2).trans H2.out)
      have K1 := Lib.hid ((hb2.block B1 hlw1).trans H1.out)
      have KB := Lib.hid (HB.out.trans (hb2.mono HB.out.size))
      have KG := Lib.hid hg
      have hgne : g ≠ B2 := by
        rintro rfl
        rw [K2.out] at hg
        simp at hg
      clear hg hb2 hc
      go_wp2
      go_loopw [7, 8, 23] (fun v7 v8 v23 wq => ∃ j : Nat, v23 = .int .i64 j ∧ j ≤ 8 ∧ wq.heap[B2]? = some (.cells (kArr (mix (xv r0 r1 r2 r3 r4 0) (xv r0 r1 r2 r3 r4 1) (0 + j))) 23 (0, 0)) ∧ wq.heap[B1]? = some (.cells zArr 23 (0, 0)) ∧ wq.heap[g]? = some (.cells (lowArr (r0 * 1) 8) 5 (0, 0)) ∧ Below w.heap.size w wq) (fun v7 v8 v23 _ => 8 - (intOf v23).toNat)
      case atStart => exact ⟨0, rfl, by omega, K2.out, K1.out, KG.out, KB.out⟩
      case round =>
        obtain ⟨j, hcnt, hj, h2, h1, hg, hb⟩ := hrel
        have J2 := Lib.hid h2; have J1 := Lib.hid h1; have JG := Lib.hid hg; have JB := Lib.hid hb
        have hj' : j = 0 ∨ j = 1 ∨ j = 2 ∨ j = 3 ∨ j = 4 ∨ j = 5 ∨ j = 6 ∨ j = 7 ∨ j = 8 := by omega
        rcases hj' with rfl | rfl | rfl | rfl | rfl | rfl | rfl | rfl | rfl
        · have hcn : _ = Value.int .i64 0 := hcnt
          clear hcnt
          subst hcn
          have x0 : wr.cell? ⟨g, 0, none⟩ = some (.int .u8 (r0 * 1 / 1 % 256 : Nat)) := cell_of_blk hg 0 rfl
          have y0 : wr.cell? ⟨B2, 0, none⟩ = some (.int .u8 (mix (xv r0 r1 r2 r3 r4 0) (xv r0 r1 r2 r3 r4 1) 0 0 : Nat)) := cell_of_blk h2 0 rfl
          have yf := frozen_of_blk h2 0
          have HO := Lib.hid (kor0_0 t0 t1 t2 t3 t4)
          generalize hq : mix (xv r0 r1 r2 r3 r4 0) (xv r0 r1 r2 r3 r4 1) 0 0 = q at *
          generalize hp : r0 * 1 / 1 % 256 = p at *
          clear h2 h1 hg hb
          go_wp2
          go_roundw
          case rel => exact ⟨1, rfl, by omega, set_blk1 J2.out 0 _ (by rw [HO.out]; exact kArr_set (by omega) rfl), set_far J1.out _ _ (by omega), set_far JG.out _ _ hgne, JB.out.setCell (by simp only []; omega) _⟩
          case measure => simp [intOf]
        · have hcn : _ = Value.int .i64 1 := hcnt
          clear hcnt
          subst hcn
          have x0 : wr.cell? ⟨g, 1, none⟩ = some (.int .u8 (r0 * 1 / 256 % 256 : Nat)) := cell_of_blk hg 1 rfl
          have y0 : wr.cell? ⟨B2, 1, none⟩ = some (.int .u8 (mix (xv r0 r1 r2 r3 r4 0) (xv r0 r1 r2 r3 r4 1) 1 1 : Nat)) := cell_of_blk h2 1 rfl
          have yf := frozen_of_blk h2 1
          have HO := Lib.hid (kor0_1 t0 t1 t2 t3 t4)
          generalize hq : mix (xv r0 r1 r2 r3 r4 0) (xv r0 r1 r2 r3 r4 1) 1 1 = q at *
          generalize hp : r0 * 1 / 256 % 256 = p at *
          clear h2 h1 hg hb
          go_wp2
          go_roundw
          case rel => exact ⟨2, rfl, by omega, set_blk1 J2.out 1 _ (by rw [HO.out]; exact kArr_set (by omega) rfl), set_far J1.out _ _ (by omega), set_far JG.out _ _ hgne, JB.out.setCell (by simp only []; omega) _⟩
          case measure => simp [intOf]
        · have hcn : _ = Value.int .i64 2 := hcnt
          clear hcnt
          subst hcn
          have x0 : wr.cell? ⟨g, 2, none⟩ = some (.int .u8 (r0 * 1 / 65536 % 256 : Nat)) := cell_of_blk hg 2 rfl
          have y0 : wr.cell? ⟨B2, 2, none⟩ = some (.int .u8 (mix (xv r0 r1 r2 r3 r4 0) (xv r0 r1 r2 r3 r4 1) 2 2 : Nat)) := cell_of_blk h2 2 rfl
          have yf := frozen_of_blk h2 2
          have HO := Lib.hid (kor0_2 t0 t1 t2 t3 t4)
          generalize hq : mix (xv r0 r1 r2 r3 r4 0) (xv r0 r1 r2 r3 r4 1) 2 2 = q at *
          generalize hp : r0 * 1 / 65536 % 256 = p at *
          clear h2 h1 hg hb
          go_wp2
          go_roundw
          case rel => exact ⟨3, rfl, by omega, set_blk1 J2.out 2 _ (by rw [HO.out]; exact kArr_set (by omega) rfl), set_far J1.out _ _ (by omega), set_far JG.out _ _ hgne, JB.out.setCell (by simp only []; omega) _⟩
          case measure => simp [intOf]
        · have hcn : _ = Value.int .i64 3 := hcnt
          clear hcnt
          subst hcn
          have x0 : wr.cell? ⟨g, 3, none⟩ = some (.int .u8 (r0 * 1 / 16777216 % 256 : Nat)) := cell_of_blk hg 3 rfl
          have y0 : wr.cell? ⟨B2, 3, none⟩ = some (.int .u8 (mix (xv r0 r1 r2 r3 r4 0) (xv r0 r1 r2 r3 r4 1) 3 3 : Nat)) := cell_of_blk h2 3 rfl
          have yf := frozen_of_blk h2 3
          have HO := Lib.hid (kor0_3 t0 t1 t2 t3 t4)
          generalize hq : mix (xv r0 r1 r2 r3 r4 0) (xv r0 r1 r2 r3 r4 1) 3 3 = q at *
          generalize hp : r0 * 1 / 16777216 % 256 = p at *
          clear h2 h1 hg hb
          go_wp2
          go_roundw
          case rel => exact ⟨4, rfl, by omega, set_blk1 J2.out 3 _ (by rw [HO.out]; exact kArr_set (by omega) rfl), set_far J1.out _ _ (by omega), set_far JG.out _ _ hgne, JB.out.setCell (by simp only []; omega) _⟩
          case measure => simp [intOf]
        · have hcn : _ = Value.int .i64 4 := hcnt
          clear hcnt
          subst hcn
          have x0 : wr.cell? ⟨g, 4, none⟩ = some (.int .u8 (r0 * 1 / 4294967296 % 256 : Nat)) := cell_of_blk hg 4 rfl
          have y0 : wr.cell? ⟨B2, 4, none⟩ = some (.int .u8 (mix (xv r0 r1 r2 r3 r4 0) (xv r0 r1 r2 r3 r4 1) 4 4 : Nat)) := cell_of_blk h2 4 rfl
          have yf := frozen_of_blk h2 4
          have HO := Lib.hid (kor0_4 t0 t1 t2 t3 t4)
          generalize hq : mix (xv r0 r1 r2 r3 r4 0) (xv r0 r1 r2 r3 r4 1) 4 4 = q at *
          generalize hp : r0 * 1 / 4294967296 % 256 = p at *
          clear h2 h1 hg hb
          go_wp2
          go_roundw
          case rel => exact ⟨5, rfl, by omega, set_blk1 J2.out 4 _ (by rw [HO.out]; exact kArr_set (by omega) rfl), set_far J1.out _ _ (by omega), set_far JG.out _ _ hgne, JB.out.setCell (by simp only []; omega) _⟩
          case measure => simp [intOf]
        · have hcn : _ = Value.int .i64 5 := hcnt
          clear hcnt
          subst hcn
          have x0 : wr.cell? ⟨g, 5, none⟩ = some (.int .u8 (r0 * 1 / 1099511627776 % 256 : Nat)) := cell_of_blk hg 5 rfl
          have y0 : wr.cell? ⟨B2, 5, none⟩ = some (.int .u8 (mix (xv r0 r1 r2 r3 r4 0) (xv r0 r1 r2 r3 r4 1) 5 5 : Nat)) := cell_of_blk h2 5 rfl
          have yf := frozen_of_blk h2 5
          have HO := Lib.hid (kor0_5 t0 t1 t2 t3 t4)
          generalize hq : mix (xv r0 r1 r2 r3 r4 0) (xv r0 r1 r2 r3 r4 1) 5 5 = q at *
          generalize hp : r0 * 1 / 1099511627776 % 256 = p at *
          clear h2 h1 hg hb
          go_wp2
          go_roundw
          case rel => exact ⟨6, rfl, by omega, set_blk1 J2.out 5 _ (by rw [HO.out]; exact kArr_set (by omega) rfl), set_far J1.out _ _ (by omega), set_far JG.out _ _ hgne, JB.out.setCell (by simp only []; omega) _⟩
          case measure => simp [intOf]
        · have hcn : _ = Value.int .i64 6 := hcnt
          clear hcnt
          subst hcn
          have x0 : wr.cell? ⟨g, 6, none⟩ = some (.int .u8 (r0 * 1 / 281474976710656 % 256 : Nat)) := cell_of_blk hg 6 rfl
          have y0 : wr.cell? ⟨B2, 6, none⟩ = some (.int .u8 (mix (xv r0 r1 r2 r3 r4 0) (xv r0 r1 r2 r3 r4 1) 6 6 : Nat)) := cell_of_blk h2 6 rfl
          have yf := frozen_of_blk h2 6
          have HO := Lib.hid (kor0_6 t0 t1 t2 t3 t4)
          generalize hq : mix (xv r0 r1 r2 r3 r4 0) (xv r0 r1 r2 r3 r4 1) 6 6 = q at *
          generalize hp : r0 * 1 / 281474976710656 % 256 = p at *
          clear h2 h1 hg hb
          go_wp2
          go_roundw
          case rel => exact ⟨7, rfl, by omega, set_blk1 J2.out 6 _ (by rw [HO.out]; exact kArr_set (by omega) rfl), set_far J1.out _ _ (by omega), set_far JG.out _ _ hgne, JB.out.setCell (by simp only []; omega) _⟩
          case measure => simp [intOf]
        · have hcn : _ = Value.int .i64 7 := hcnt
          clear hcnt
          subst hcn
          have x0 : wr.cell? ⟨g, 7, none⟩ = some (.int .u8 (r0 * 1 / 72057594037927936 % 256 : Nat)) := cell_of_blk hg 7 rfl
          have y0 : wr.cell? ⟨B2, 7, none⟩ = some (.int .u8 (mix (xv r0 r1 r2 r3 r4 0) (xv r0 r1 r2 r3 r4 1) 7 7 : Nat)) := cell_of_blk h2 7 rfl
          have yf := frozen_of_blk h2 7
          have HO := Lib.hid (kor0_7 t0 t1 t2 t3 t4)
          generalize hq : mix (xv r0 r1 r2 r3 r4 0) (xv r0 r1 r2 r3 r4 1) 7 7 = q at *
          generalize hp : r0 * 1 / 72057594037927936 % 256 = p at *
          clear h2 h1 hg hb
          go_wp2
          go_roundw
          case rel => exact ⟨8, rfl, by omega, set_blk1 J2.out 7 _ (by rw [HO.out]; exact kArr_set (by omega) rfl), set_far J1.out _ _ (by omega), set_far JG.out _ _ hgne, JB.out.setCell (by simp only []; omega) _⟩
          case measure => simp [intOf]
        · have hcn : _ = Value.int .i64 8 := hcnt
          clear hcnt
          subst hcn
          clear h2 h1 hg hb
          go_wp2
          go_roundw
          case rel => exact ⟨1, rfl, by omega, J2.out.trans (congrArg (fun a => some (Obj.cells a 23 (0, 0))) (kend0 t0 t1 t2 t3 t4)), J1.out, JB.out⟩
          case measure => simp [intOf]
    · have hcn : _ = Value.int .i64 1 := hcnt
      clear hcnt
      subst hcn
      have hI := index31_1 (.int .u64 r0) (.int .u64 r1) (.int .u64 r2) (.int .u64 r3) (.int .u64 r4) wr
      have HL := Lib.hid (low_any (r1 * 8) (by omega) wr)
      have hlw2 := heap_lt h2
      have hlw1 := heap_lt h1
      rw [kstart1] at H2
      clear h2 h1 hb
      go_wp2_with fail
      clear hI
      have hc : ((r1 : Int) * 8) = ((r1 * 8 : Nat) : Int) := by omega
      rw [hc]
      refine HL.out.mono ?_
      rintro e w2 ⟨⟨g, rfl, hg⟩, hb2⟩
      have K2 := Lib.hid ((hb2.block B2 hlw2).trans H2.out)
      have K1 := Lib.hid ((hb2.block B1 hlw1).trans H1.out)
      have KB := Lib.hid (HB.out.trans (hb2.mono HB.out.size))
      have KG := Lib.hid hg
      have hgne : g ≠ B2 := by
        rintro rfl
        rw [K2.out] at hg
        simp at hg
      clear hg hb2 hc
      go_wp2
      go_loopw [7, 8, 23] (fun v7 v8 v23 wq => ∃ j : Nat, v23 = .int .i64 j ∧ j ≤ 8 ∧ wq.heap[B2]? = some (.cells (kArr (mix (xv r0 r1 r2 r3 r4 1) (xv r0 r1 r2 r3 r4 2) (6 + j))) 23 (0, 0)) ∧ wq.heap[B1]? = some (.cells zArr 23 (0, 0)) ∧ wq.heap[g]? = some (.cells (lowArr (r1 * 8) 8) 5 (0, 0)) ∧ Below w.heap.size w wq) (fun v7 v8 v23 _ => 8 - (intOf v23).toNat)
      case atStart => exact ⟨0, rfl, by omega, K2.out, K1.out, KG.out, KB.out⟩
      case round =>
        obtain ⟨j, hcnt, hj, h2, h1, hg, hb⟩ := hrel
        have J2 := Lib.hid h2; have J1 := Lib.hid h1; have JG := Lib.hid hg; have JB := Lib.hid hb
        have hj' : j = 0 ∨ j = 1 ∨ j = 2 ∨ j = 3 ∨ j = 4 ∨ j = 5 ∨ j = 6 ∨ j = 7 ∨ j = 8 := by omega
        rcases hj' with rfl | rfl | rfl | rfl | rfl | rfl | rfl | rfl | rfl
        · have hcn : _ = Value.int .i64 0 := hcnt
          clear hcnt
          subst hcn
          have x0 : wr.cell? ⟨g, 0, none⟩ = some (.int .u8 (r1 * 8 / 1 % 256 : Nat)) := cell_of_blk hg 0 rfl
          have y0 : wr.cell? ⟨B2, 6, none⟩ = some (.int .u8 (mix (xv r0 r1 r2 r3 r4 1) (xv r0 r1 r2 r3 r4 2) 6 6 : Nat)) := cell_of_blk h2 6 rfl
          have yf := frozen_of_blk h2 6
          have HO := Lib.hid (kor1_0 t0 t1 t2 t3 t4)
          generalize hq : mix (xv r0 r1 r2 r3 r4 1) (xv r0 r1 r2 r3 r4 2) 6 6 = q at *
          generalize hp : r1 * 8 / 1 % 256 = p at *
          clear h2 h1 hg hb
          go_wp2
          go_roundw
          case rel => exact ⟨1, rfl, by omega, set_blk1 J2.out 6 _ (by rw [HO.out]; exact kArr_set (by omega) rfl), set_far J1.out _ _ (by omega), set_far JG.out _ _ hgne, JB.out.setCell (by simp only []; omega) _⟩
          case measure => simp [intOf]
        · have hcn : _ = Value.int .i64 1 := hcnt
          clear hcnt
          subst hcn
          have x0 : wr.cell? ⟨g, 1, none⟩ = some (.int .u8 (r1 * 8 / 256 % 256 : Nat)) := cell_of_blk hg 1 rfl
          have y0 : wr.cell? ⟨B2, 7, none⟩ = some (.int .u8 (mix (xv r0 r1 r2 r3 r4 1) (xv r0 r1 r2 r3 r4 2) 7 7 : Nat)) := cell_of_blk h2 7 rfl
          have yf := frozen_of_blk h2 7
          have HO := Lib.hid (kor1_1 t0 t1 t2 t3 t4)
          generalize hq : mix (xv r0 r1 r2 r3 r4 1) (xv r0 r1 r2 r3 r4 2) 7 7 = q at *
          generalize hp : r1 * 8 / 256 % 256 = p at *
          clear h2 h1 hg hb
          go_wp2
          go_roundw
          case rel => exact ⟨2, rfl, by omega, set_blk1 J2.out 7 _ (by rw [HO.out]; exact kArr_set (by omega) rfl), set_far J1.out _ _ (by omega), set_far JG.out _ _ hgne, JB.out.setCell (by simp only []; omega) _⟩
          case measure => simp [intOf]
        · have hcn : _ = Value.int .i64 2 := hcnt
          clear hcnt
          subst hcn
          have x0 : wr.cell? ⟨g, 2, none⟩ = some (.int .u8 (r1 * 8 / 65536 % 256 : Nat)) := cell_of_blk hg 2 rfl
          have y0 : wr.cell? ⟨B2, 8, none⟩ = some (.int .u8 (mix (xv r0 r1 r2 r3 r4 1) (xv r0 r1 r2 r3 r4 2) 8 8 : Nat)) := cell_of_blk h2 8 rfl
          have yf := frozen_of_blk h2 8
          have HO := Lib.hid (kor1_2 t0 t1 t2 t3 t4)
          generalize hq : mix (xv r0 r1 r2 r3 r4 1) (xv r0 r1 r2 r3 r4 2) 8 8 = q at *
          generalize hp : r1 * 8 / 65536 % 256 = p at *
          clear h2 h1 hg hb
          go_wp2
          go_roundw
          case rel => exact ⟨3, rfl, by omega, set_blk1 J2.out 8 _ (by rw [HO.out]; exact kArr_set (by omega) rfl), set_far J1.out _ _ (by omega), set_far JG.out _ _ hgne, JB.out.setCell (by simp only []; omega) _⟩
          case measure => simp [intOf]
        · have hcn : _ = Value.int .i64 3 := hcnt
          clear hcnt
          subst hcn
          have x0 : wr.cell? ⟨g, 3, none⟩ = some (.int .u8 (r1 * 8 / 16777216 % 256 : Nat)) := cell_of_blk hg 3 rfl
          have y0 : wr.cell? ⟨B2, 9, none⟩ = some (.int .u8 (mix (xv r0 r1 r2 r3 r4 1) (xv r0 r1 r2 r3 r4 2) 9 9 : Nat)) := cell_of_blk h2 9 rfl
          have yf := frozen_of_blk h2 9
          have HO := Lib.hid (kor1_3 t0 t1 t2 t3 t4)
          generalize hq : mix (xv r0 r1 r2 r3 r4 1) (xv r0 r1 r2 r3 r4 2) 9 9 = q at *
          generalize hp : r1 * 8 / 16777216 % 256 = p at *
          clear h2 h1 hg hb
          go_wp2
          go_roundw
          case rel => exact ⟨4, rfl, by omega, set_blk1 J2.out 9 _ (by rw [HO.out]; exact kArr_set (by omega) rfl), set_far J1.out _ _ (by omega), set_far JG.out _ _ hgne, JB.out.setCell (by simp only []; omega) _⟩
          case measure => simp [intOf]
        · have hcn : _ = Value.int .i64 4 := hcnt
          clear hcnt
          subst hcn
          have x0 : wr.cell? ⟨g, 4, none⟩ = some (.int .u8 (r1 * 8 / 4294967296 % 256 : Nat)) := cell_of_blk hg 4 rfl
          have y0 : wr.cell? ⟨B2, 10, none⟩ = some (.int .u8 (mix (xv r0 r1 r2 r3 r4 1) (xv r0 r1 r2 r3 r4 2) 10 10 : Nat)) := cell_of_blk h2 10 rfl
          have yf := frozen_of_blk h2 10
          have HO := Lib.hid (kor1_4 t0 t1 t2 t3 t4)
          generalize hq : mix (xv r0 r1 r2 r3 r4 1) (xv r0 r1 r2 r3 r4 2) 10 10 = q at *
          generalize hp : r1 * 8 / 4294967296 % 256 = p at *
          clear h2 h1 hg hb
          go_wp2
          go_roundw
          case rel => exact ⟨5, rfl, by omega, set_blk1 J2.out 10 _ (by rw [HO.out]; exact kArr_set (by omega) rfl), set_far J1.out _ _ (by omega), set_far JG.out _ _ hgne, JB.out.setCell (by simp only []; omega) _⟩
          case measure => simp [intOf]
        · have hcn : _ = Value.int .i64 5 := hcnt
          clear hcnt
          subst hcn
          have x0 : wr.cell? ⟨g, 5, none⟩ = some (.int .u8 (r1 * 8 / 1099511627776 % 256 : Nat)) := cell_of_blk hg 5 rfl
          have y0 : wr.cell? ⟨B2, 11, none⟩ = some (.int .u8 (mix (xv r0 r1 r2 r3 r4 1) (xv r0 r1 r2 r3 r4 2) 11 11 : Nat)) := cell_of_blk h2 11 rfl
          have yf := frozen_of_blk h2 11
          have HO := Lib.hid (kor1_5 t0 t1 t2 t3 t4)
          generalize hq : mix (xv r0 r1 r2 r3 r4 1) (xv r0 r1 r2 r3 r4 2) 11 11 = q at *
          generalize hp : r1 * 8 / 1099511627776 % 256 = p at *
          clear h2 h1 hg hb
          go_wp2
          go_roundw
          case rel => exact ⟨6, rfl, by omega, set_blk1 J2.out 11 _ (by rw [HO.out]; exact kArr_set (by omega) rfl), set_far J1.out _ _ (by omega), set_far JG.out _ _ hgne, JB.out.setCell (by simp only []; omega) _⟩
          case measure => simp [intOf]
        · have hcn : _ = Value.int .i64 6 := hcnt
          clear hcnt
          subst hcn
          have x0 : wr.cell? ⟨g, 6, none⟩ = some (.int .u8 (r1 * 8 / 281474976710656 % 256 : Nat)) := cell_of_blk hg 6 rfl
          have y0 : wr.cell? ⟨B2, 12, none⟩ = some (.int .u8 (mix (xv r0 r1 r2 r3 r4 1) (xv r0 r1 r2 r3 r4 2) 12 12 : Nat)) := cell_of_blk h2 12 rfl
          have yf := frozen_of_blk h2 12
          have HO := Lib.hid (kor1_6 t0 t1 t2 t3 t4)
          generalize hq : mix (xv r0 r1 r2 r3 r4 1) (xv r0 r1 r2 r3 r4 2) 12 12 = q at *
          generalize hp : r1 * 8 / 281474976710656 % 256 = p at *
          clear h2 h1 hg hb
          go_wp2
          go_roundw
          case rel => exact ⟨7, rfl, by omega, set_blk1 J2.out 12 _ (by rw [HO.out]; exact kArr_set (by omega) rfl), set_far J1.out _ _ (by omega), set_far JG.out _ _ hgne, JB.out.setCell (by simp only []; omega) _⟩
          case measure => simp [intOf]
        · have hcn : _ = Value.int .i64 7 := hcnt
          clear hcnt
          subst hcn
          have x0 : wr.cell? ⟨g, 7, none⟩ = some (.int .u8 (r1 * 8 / 72057594037927936 % 256 : Nat)) := cell_of_blk hg 7 rfl
          have y0 : wr.cell? ⟨B2, 13, none⟩ = some (.int .u8 (mix (xv r0 r1 r2 r3 r4 1) (xv r0 r1 r2 r3 r4 2) 13 13 : Nat)) := cell_of_blk h2 13 rfl
          have yf := frozen_of_blk h2 13
          have HO := Lib.hid (kor1_7 t0 t1 t2 t3 t4)
          generalize hq : mix (xv r0 r1 r2 r3 r4 1) (xv r0 r1 r2 r3 r4 2) 13 13 = q at *
          generalize hp : r1 * 8 / 72057594037927936 % 256 = p at *
          clear h2 h1 hg hb
          go_wp2
          go_roundw
          case rel => exact ⟨8, rfl, by omega, set_blk1 J2.out 13 _ (by rw [HO.out]; exact kArr_set (by omega) rfl), set_far J1.out _ _ (by omega), set_far JG.out _ _ hgne, JB.out.setCell (by simp only []; omega) _⟩
          case measure => simp [intOf]
        · have hcn : _ = Value.int .i64 8 := hcnt
          clear hcnt
          subst hcn
          clear h2 h1 hg hb
          go_wp2
          go_roundw
          case rel => exact ⟨2, rfl, by omega, J2.out.trans (congrArg (fun a => some (Obj.cells a 23 (0, 0))) (kend1 t0 t1 t2 t3 t4)), J1.out, JB.out⟩
          case measure => simp [intOf]
    · have hcn : _ = Value.int .i64 2 := hcnt
      clear hcnt
      subst hcn
      have hI := index31_2 (.int .u64 r0) (.int .u64 r1) (.int .u64 r2) (.int .u64 r3) (.int .u64 r4) wr
      have HL := Lib.hid (low_any (r2 * 64) (by omega) wr)
      have hlw2 := heap_lt h2
      have hlw1 := heap_lt h1
      rw [kstart2] at H2
      clear h2 h1 hb
      go_wp2_with fail
      clear hI
      have hc : ((r2 : Int) * 64) = ((r2 * 64 : Nat) : Int) := by omega
      rw [hc]
      refine HL.out.mono ?_
      rintro e w2 ⟨⟨g, rfl, hg⟩, hb2⟩
      have K2 := Lib.hid ((hb2.block B2 hlw2).trans H2.out)
      have K1 := Lib.hid ((hb2.block B1 hlw1).trans H1.out)
      have KB := Lib.hid (HB.out.trans (hb2.mono HB.out.size))
      have KG := Lib.hid hg
      have hgne : g ≠ B2 := by
        rintro rfl
        rw [K2.out] at hg
        simp at hg
      clear hg hb2 hc
      go_wp2
      go_loopw [7, 8, 23] (fun v7 v8 v23 wq => ∃ j : Nat, v23 = .int .i64 j ∧ j ≤ 8 ∧ wq.heap[B2]? = some (.cells (kArr (mix (xv r0 r1 r2 r3 r4 2) (xv r0 r1 r2 r3 r4 3) (12 + j))) 23 (0, 0)) ∧ wq.heap[B1]? = some (.cells zArr 23 (0, 0)) ∧ wq.heap[g]? = some (.cells (lowArr (r2 * 64) 8) 5 (0, 0)) ∧ Below w.heap.size w wq) (fun v7 v8 v23 _ => 8 - (intOf v23).toNat)
      case atStart => exact ⟨0, rfl, by omega, K2.out, K1.out, KG.out, KB.out⟩
      case round =>
        obtain ⟨j, hcnt, hj, h2, h1, hg, hb⟩ := hrel
        have J2 := Lib.hid h2; have J1 := Lib.hid h1; have JG := Lib.hid hg; have JB := Lib.hid hb
        have hj' : j = 0 ∨ j = 1 ∨ j = 2 ∨ j = 3 ∨ j = 4 ∨ j = 5 ∨ j = 6 ∨ j = 7 ∨ j = 8 := by omega
        rcases hj' with rfl | rfl | rfl | rfl | rfl | rfl | rfl | rfl | rfl
        · have hcn : _ = Value.int .i64 0 := hcnt
          clear hcnt
          subst hcn
          have x0 : wr.cell? ⟨g, 0, none⟩ = some (.int .u8 (r2 * 64 / 1 % 256 : Nat)) := cell_of_blk hg 0 rfl
          have y0 : wr.cell? ⟨B2, 12, none⟩ = some (.int .u8 (mix (xv r0 r1 r2 r3 r4 2) (xv r0 r1 r2 r3 r4 3) 12 12 : Nat)) := cell_of_blk h2 12 rfl
          have yf := frozen_of_blk h2 12
          have HO := Lib.hid (kor2_0 t0 t1 t2 t3 t4)
          generalize hq : mix (xv r0 r1 r2 r3 r4 2) (xv r0 r1 r2 r3 r4 3) 12 12 = q at *
          generalize hp : r2 * 64 / 1 % 256 = p at *
          clear h2 h1 hg hb
          go_wp2
          go_roundw
          case rel => exact ⟨1, rfl, by omega, set_blk1 J2.out 12 _ (by rw [HO.out]; exact kArr_set (by omega) rfl), set_far J1.out _ _ (by omega), set_far JG.out _ _ hgne, JB.out.setCell (by simp only []; omega) _⟩
          case measure => simp [intOf]
        · have hcn : _ = Value.int .i64 1 := hcnt
          clear hcnt
          subst hcn
          have x0 : wr.cell? ⟨g, 1, none⟩ = some (.int .u8 (r2 * 64 / 256 % 256 : Nat)) := cell_of_blk hg 1 rfl
          have y0 : wr.cell? ⟨B2, 13, none⟩ = some (.int .u8 (mix (xv r0 r1 r2 r3 r4 2) (xv r0 r1 r2 r3 r4 3) 13 13 : Nat)) := cell_of_blk h2 13 rfl
          have yf := frozen_of_blk h2 13
          have HO := Lib.hid (kor2_1 t0 t1 t2 t3 t4)
          generalize hq : mix (xv r0 r1 r2 r3 r4 2) (xv r0 r1 r2 r3 r4 3) 13 13 = q at *
          generalize hp : r2 * 64 / 256 % 256 = p at *
          clear h2 h1 hg hb
          go_wp2
          go_roundw
          case rel => exact ⟨2, rfl, by omega, set_blk1 J2.out 13 _ (by rw [HO.out]; exact kArr_set (by omega) rfl), set_far J1.out _ _ (by omega), set_far JG.out _ _ hgne, JB.out.setCell (by simp only []; omega) _⟩
          case measure => simp [intOf]
        · have hcn : _ = Value.int .i64 2 := hcnt
          clear hcnt
          subst hcn
          have x0 : wr.cell? ⟨g, 2, none⟩ = some (.int .u8 (r2 * 64 / 65536 % 256 : Nat)) := cell_of_blk hg 2 rfl
          have y0 : wr.cell? ⟨B2, 14, none⟩ = some (.int .u8 (mix (xv r0 r1 r2 r3 r4 2) (xv r0 r1 r2 r3 r4 3) 14 14 : Nat)) := cell_of_blk h2 14 rfl
          have yf := frozen_of_blk h2 14
          have HO := Lib.hid (kor2_2 t0 t1 t2 t3 t4)
          generalize hq : mix (xv r0 r1 r2 r3 r4 2) (xv r0 r1 r2 r3 r4 3) 14 14 = q at *
          generalize hp : r2 * 64 / 65536 % 256 = p at *
          clear h2 h1 hg hb
          go_wp2
          go_roundw
          case rel => exact ⟨3, rfl, by omega, set_blk1 J2.out 14 _ (by rw [HO.out]; exact kArr_set (by omega) rfl), set_far J1.out _ _ (by omega), set_far JG.out _ _ hgne, JB.out.setCell (by simp only []; omega) _⟩
          case measure => simp [intOf]
        · have hcn : _ = Value.int .i64 3 := hcnt
          clear hcnt
          subst hcn
          have x0 : wr.cell? ⟨g, 3, none⟩ = some (.int .u8 (r2 * 64 / 16777216 % 256 : Nat)) := cell_of_blk hg 3 rfl
          have y0 : wr.cell? ⟨B2, 15, none⟩ = some (.int .u8 (mix (xv r0 r1 r2 r3 r4 2) (xv r0 r1 r2 r3 r4 3) 15 15 : Nat)) := cell_of_blk h2 15 rfl
          have yf := frozen_of_blk h2 15
          have HO := Lib.hid (kor2_3 t0 t1 t2 t3 t4)
          generalize hq : mix (xv r0 r1 r2 r3 r4 2) (xv r0 r1 r2 r3 r4 3) 15 15 = q at *
          generalize hp : r2 * 64 / 16777216 % 256 = p at *
          clear h2 h1 hg hb
          go_wp2
          go_roundw
          case rel => exact ⟨4, rfl, by omega, set_blk1 J2.out 15 _ (by rw [HO.out]; exact kArr_set (by omega) rfl), set_far J1.out _ _ (by omega), set_far JG.out _ _ hgne, JB.out.setCell (by simp only []; omega) _⟩
          case measure => simp [intOf]
        · have hcn : _ = Value.int .i64 4 := hcnt
          clear hcnt
          subst hcn
          have x0 : wr.cell? ⟨g, 4, none⟩ = some (.int .u8 (r2 * 64 / 4294967296 % 256 : Nat)) := cell_of_blk hg 4 rfl
          have y0 : wr.cell? ⟨B2, 16, none⟩ = some (.int .u8 (mix (xv r0 r1 r2 r3 r4 2) (xv r0 r1 r2 r3 r4 3) 16 16 : Nat)) := cell_of_blk h2 16 rfl
          have yf := frozen_of_blk h2 16
          have HO := Lib.hid (kor2_4 t0 t1 t2 t3 t4)
          generalize hq : mix (xv r0 r1 r2 r3 r4 2) (xv r0 r1 r2 r3 r4 3) 16 16 = q at *
          generalize hp : r2 * 64 / 4294967296 % 256 = p at *
          clear h2 h1 hg hb
          go_wp2
          go_roundw
          case rel => exact ⟨5, rfl, by omega, set_blk1 J2.out 16 _ (by rw [HO.out]; exact kArr_set (by omega) rfl), set_far J1.out _ _ (by omega), set_far JG.out _ _ hgne, JB.out.setCell (by simp only []; omega) _⟩
          case measure => simp [intOf]
        · have hcn : _ = Value.int .i64 5 := hcnt
          clear hcnt
          subst hcn
          have x0 : wr.cell? ⟨g, 5, none⟩ = some (.int .u8 (r2 * 64 / 1099511627776 % 256 : Nat)) := cell_of_blk hg 5 rfl
          have y0 : wr.cell? ⟨B2, 17, none⟩ = some (.int .u8 (mix (xv r0 r1 r2 r3 r4 2) (xv r0 r1 r2 r3 r4 3) 17 17 : Nat)) := cell_of_blk h2 17 rfl
          have yf := frozen_of_blk h2 17
          have HO := Lib.hid (kor2_5 t0 t1 t2 t3 t4)
          generalize hq : mix (xv r0 r1 r2 r3 r4 2) (xv r0 r1 r2 r3 r4 3) 17 17 = q at *
          generalize hp : r2 * 64 / 1099511627776 % 256 = p at *
          clear h2 h1 hg hb
          go_wp2
          go_roundw
          case rel => exact ⟨6, rfl, by omega, set_blk1 J2.out 17 _ (by rw [HO.out]; exact kArr_set (by omega) rfl), set_far J1.out _ _ (by omega), set_far JG.out _ _ hgne, JB.out.setCell (by simp only []; omega) _⟩
          case measure => simp [intOf]
        · have hcn : _ = Value.int .i64 6 := hcnt
          clear hcnt
          subst hcn
          have x0 : wr.cell? ⟨g, 6, none⟩ = some (.int .u8 (r2 * 64 / 281474976710656 % 256 : Nat)) := cell_of_blk hg 6 rfl
          have y0 : wr.cell? ⟨B2, 18, none⟩ = some (.int .u8 (mix (xv r0 r1 r2 r3 r4 2) (xv r0 r1 r2 r3 r4 3) 18 18 : Nat)) := cell_of_blk h2 18 rfl
          have yf := frozen_of_blk h2 18
          have HO := Lib.hid (kor2_6 t0 t1 t2 t3 t4)
          generalize hq : mix (xv r0 r1 r2 r3 r4 2) (xv r0 r1 r2 r3 r4 3) 18 18 = q at *
          generalize hp : r2 * 64 / 281474976710656 % 256 = p at *
          clear h2 h1 hg hb
          go_wp2
          go_roundw
          case rel => exact ⟨7, rfl, by omega, set_blk1 J2.out 18 _ (by rw [HO.out]; exact kArr_set (by omega) rfl), set_far J1.out _ _ (by omega), set_far JG.out _ _ hgne, JB.out.setCell (by simp only []; omega) _⟩
          case measure => simp [intOf]
        · have hcn : _ = Value.int .i64 7 := hcnt
          clear hcnt
          subst hcn
          have x0 : wr.cell? ⟨g, 7, none⟩ = some (.int .u8 (r2 * 64 / 72057594037927936 % 256 : Nat)) := cell_of_blk hg 7 rfl
          have y0 : wr.cell? ⟨B2, 19, none⟩ = some (.int .u8 (mix (xv r0 r1 r2 r3 r4 2) (xv r0 r1 r2 r3 r4 3) 19 19 : Nat)) := cell_of_blk h2 19 rfl
          have yf := frozen_of_blk h2 19
          have HO := Lib.hid (kor2_7 t0 t1 t2 t3 t4)
          generalize hq : mix (xv r0 r1 r2 r3 r4 2) (xv r0 r1 r2 r3 r4 3) 19 19 = q at *
          generalize hp : r2 * 64 / 72057594037927936 % 256 = p at *
          clear h2 h1 hg hb
          go_wp2
          go_roundw
          case rel => exact ⟨8, rfl, by omega, set_blk1 J2.out 19 _ (by rw [HO.out]; exact kArr_set (by omega) rfl), set_far J1.out _ _ (by omega), set_far JG.out _ _ hgne, JB.out.setCell (by simp only []; omega) _⟩
          case measure => simp [intOf]
        · have hcn : _ = Value.int .i64 8 := hcnt
          clear hcnt
          subst hcn
          clear h2 h1 hg hb
          go_wp2
          go_roundw
          case rel => exact ⟨3, rfl, by omega, J2.out.trans (congrArg (fun a => some (Obj.cells a 23 (0, 0))) (kend2 t0 t1 t2 t3 t4)), J1.out, JB.out⟩
          case measure => simp [intOf]
    · have hcn : _ = Value.int .i64 3 := hcnt
      clear hcnt
      subst hcn
      have hI := index31_3 (.int .u64 r0) (.int .u64 r1) (.int .u64 r2) (.int .u64 r3) (.int .u64 r4) wr
      have HL := Lib.hid (low_any (r3 * 2) (by omega) wr)
      have hlw2 := heap_lt h2
      have hlw1 := heap_lt h1
      rw [kstart3] at H2
      clear h2 h1 hb
      go_wp2_with fail
      clear hI
      have hc : ((r3 : Int) * 2) = ((r3 * 2 : Nat) : Int) := by omega
      rw [hc]
      refine HL.out.mono ?_
      rintro e w2 ⟨⟨g, rfl, hg⟩, hb2⟩
      have K2 := Lib.hid ((hb2.block B2 hlw2).trans H2.out)
      have K1 := Lib.hid ((hb2.block B1 hlw1).trans H1.out)
      have KB := Lib.hid (HB.out.trans (hb2.mono HB.out.size))
      have KG := Lib.hid hg
      have hgne : g ≠ B2 := by
        rintro rfl
        rw [K2.out] at hg
        simp at hg
      clear hg hb2 hc
      go_wp2
      go_loopw [7, 8, 23] (fun v7 v8 v23 wq => ∃ j : Nat, v23 = .int .i64 j ∧ j ≤ 8 ∧ wq.heap[B2]? = some (.cells (kArr (mix (xv r0 r1 r2 r3 r4 3) (xv r0 r1 r2 r3 r4 4) (19 + j))) 23 (0, 0)) ∧ wq.heap[B1]? = some (.cells zArr 23 (0, 0)) ∧ wq.heap[g]? = some (.cells (lowArr (r3 * 2) 8) 5 (0, 0)) ∧ Below w.heap.size w wq) (fun v7 v8 v23 _ => 8 - (intOf v23).toNat)
      case atStart => exact ⟨0, rfl, by omega, K2.out, K1.out, KG.out, KB.out⟩
      case round =>
        obtain ⟨j, hcnt, hj, h2, h1, hg, hb⟩ := hrel
        have J2 := Lib.hid h2; have J1 := Lib.hid h1; have JG := Lib.hid hg; have JB := Lib.hid hb
        have hj' : j = 0 ∨ j = 1 ∨ j = 2 ∨ j = 3 ∨ j = 4 ∨ j = 5 ∨ j = 6 ∨ j = 7 ∨ j = 8 := by omega
        rcases hj' with rfl | rfl | rfl | rfl | rfl | rfl | rfl | rfl | rfl
        · have hcn : _ = Value.int .i64 0 := hcnt
          clear hcnt
          subst hcn
          have x0 : wr.cell? ⟨g, 0, none⟩ = some (.int .u8 (r3 * 2 / 1 % 256 : Nat)) := cell_of_blk hg 0 rfl
          have y0 : wr.cell? ⟨B2, 19, none⟩ = some (.int .u8 (mix (xv r0 r1 r2 r3 r4 3) (xv r0 r1 r2 r3 r4 4) 19 19 : Nat)) := cell_of_blk h2 19 rfl
          have yf := frozen_of_blk h2 19
          have HO := Lib.hid (kor3_0 t0 t1 t2 t3 t4)
          generalize hq : mix (xv r0 r1 r2 r3 r4 3) (xv r0 r1 r2 r3 r4 4) 19 19 = q at *
          generalize hp : r3 * 2 / 1 % 256 = p at *
          clear h2 h1 hg hb
          go_wp2
          go_roundw
          case rel => exact ⟨1, rfl, by omega, set_blk1 J2.out 19 _ (by rw [HO.out]; exact kArr_set (by omega) rfl), set_far J1.out _ _ (by omega), set_far JG.out _ _ hgne, JB.out.setCell (by simp only []; omega) _⟩
          case measure => simp [intOf]
        · have hcn : _ = Value.int .i64 1 := hcnt
          clear hcnt
          subst hcn
          have x0 : wr.cell? ⟨g, 1, none⟩ = some (.int .u8 (r3 * 2 / 256 % 256 : Nat)) := cell_of_blk hg 1 rfl
          have y0 : wr.cell? ⟨B2, 20, none⟩ = some (.int .u8 (mix (xv r0 r1 r2 r3 r4 3) (xv r0 r1 r2 r3 r4 4) 20 20 : Nat)) := cell_of_blk h2 20 rfl
          have yf := frozen_of_blk h2 20
          have HO := Lib.hid (kor3_1 t0 t1 t2 t3 t4)
          generalize hq : mix (xv r0 r1 r2 r3 r4 3) (xv r0 r1 r2 r3 r4 4) 20 20 = q at *
          generalize hp : r3 * 2 / 256 % 256 = p at *
          clear h2 h1 hg hb
          go_wp2
          go_roundw
          case rel => exact ⟨2, rfl, by omega, set_blk1 J2.out 20 _ (by rw [HO.out]; exact kArr_set (by omega) rfl), set_far J1.out _ _ (by omega), set_far JG.out _ _ hgne, JB.out.setCell (by simp only []; omega) _⟩
          case measure => simp [intOf]
        · have hcn : _ = Value.int .i64 2 := hcnt
          clear hcnt
          subst hcn
          have x0 : wr.cell? ⟨g, 2, none⟩ = some (.int .u8 (r3 * 2 / 65536 % 256 : Nat)) := cell_of_blk hg 2 rfl
          have y0 : wr.cell? ⟨B2, 21, none⟩ = some (.int .u8 (mix (xv r0 r1 r2 r3 r4 3) (xv r0 r1 r2 r3 r4 4) 21 21 : Nat)) := cell_of_blk h2 21 rfl
          have yf := frozen_of_blk h2 21
          have HO := Lib.hid (kor3_2 t0 t1 t2 t3 t4)
          generalize hq : mix (xv r0 r1 r2 r3 r4 3) (xv r0 r1 r2 r3 r4 4) 21 21 = q at *
          generalize hp : r3 * 2 / 65536 % 256 = p at *
          clear h2 h1 hg hb
          go_wp2
          go_roundw
          case rel => exact ⟨3, rfl, by omega, set_blk1 J2.out 21 _ (by rw [HO.out]; exact kArr_set (by omega) rfl), set_far J1.out _ _ (by omega), set_far JG.out _ _ hgne, JB.out.setCell (by simp only []; omega) _⟩
          case measure => simp [intOf]
        · have hcn : _ = Value.int .i64 3 := hcnt
          clear hcnt
          subst hcn
          have x0 : wr.cell? ⟨g, 3, none⟩ = some (.int .u8 (r3 * 2 / 16777216 % 256 : Nat)) := cell_of_blk hg 3 rfl
          have y0 : wr.cell? ⟨B2, 22, none⟩ = some (.int .u8 (mix (xv r0 r1 r2 r3 r4 3) (xv r0 r1 r2 r3 r4 4) 22 22 : Nat)) := cell_of_blk h2 22 rfl
          have yf := frozen_of_blk h2 22
          have HO := Lib.hid (kor3_3 t0 t1 t2 t3 t4)
          generalize hq : mix (xv r0 r1 r2 r3 r4 3) (xv r0 r1 r2 r3 r4 4) 22 22 = q at *
          generalize hp : r3 * 2 / 16777216 % 256 = p at *
          clear h2 h1 hg hb
          go_wp2
          go_roundw
          case rel => exact ⟨4, rfl, by omega, set_blk1 J2.out 22 _ (by rw [HO.out]; exact kArr_set (by omega) rfl), set_far J1.out _ _ (by omega), set_far JG.out _ _ hgne, JB.out.setCell (by simp only []; omega) _⟩
          case measure => simp [intOf]
        · have hcn : _ = Value.int .i64 4 := hcnt
          clear hcnt
          subst hcn
          have x0 : wr.cell? ⟨g, 4, none⟩ = some (.int .u8 (r3 * 2 / 4294967296 % 256 : Nat)) := cell_of_blk hg 4 rfl
          have y0 : wr.cell? ⟨B2, 23, none⟩ = some (.int .u8 (mix (xv r0 r1 r2 r3 r4 3) (xv r0 r1 r2 r3 r4 4) 23 23 : Nat)) := cell_of_blk h2 23 rfl
          have yf := frozen_of_blk h2 23
          have HO := Lib.hid (kor3_4 t0 t1 t2 t3 t4)
          generalize hq : mix (xv r0 r1 r2 r3 r4 3) (xv r0 r1 r2 r3 r4 4) 23 23 = q at *
          generalize hp : r3 * 2 / 4294967296 % 256 = p at *
          clear h2 h1 hg hb
          go_wp2
          go_roundw
          case rel => exact ⟨5, rfl, by omega, set_blk1 J2.out 23 _ (by rw [HO.out]; exact kArr_set (by omega) rfl), set_far J1.out _ _ (by omega), set_far JG.out _ _ hgne, JB.out.setCell (by simp only []; omega) _⟩
          case measure => simp [intOf]
        · have hcn : _ = Value.int .i64 5 := hcnt
          clear hcnt
          subst hcn
          have x0 : wr.cell? ⟨g, 5, none⟩ = some (.int .u8 (r3 * 2 / 1099511627776 % 256 : Nat)) := cell_of_blk hg 5 rfl
          have y0 : wr.cell? ⟨B2, 24, none⟩ = some (.int .u8 (mix (xv r0 r1 r2 r3 r4 3) (xv r0 r1 r2 r3 r4 4) 24 24 : Nat)) := cell_of_blk h2 24 rfl
          have yf := frozen_of_blk h2 24
          have HO := Lib.hid (kor3_5 t0 t1 t2 t3 t4)
          generalize hq : mix (xv r0 r1 r2 r3 r4 3) (xv r0 r1 r2 r3 r4 4) 24 24 = q at *
          generalize hp : r3 * 2 / 1099511627776 % 256 = p at *
          clear h2 h1 hg hb
          go_wp2
          go_roundw
          case rel => exact ⟨6, rfl, by omega, set_blk1 J2.out 24 _ (by rw [HO.out]; exact kArr_set (by omega) rfl), set_far J1.out _ _ (by omega), set_far JG.out _ _ hgne, JB.out.setCell (by simp only []; omega) _⟩
          case measure => simp [intOf]
        · have hcn : _ = Value.int .i64 6 := hcnt
          clear hcnt
          subst hcn
          have x0 : wr.cell? ⟨g, 6, none⟩ = some (.int .u8 (r3 * 2 / 281474976710656 % 256 : Nat)) := cell_of_blk hg 6 rfl
          have y0 : wr.cell? ⟨B2, 25, none⟩ = some (.int .u8 (mix (xv r0 r1 r2 r3 r4 3) (xv r0 r1 r2 r3 r4 4) 25 25 : Nat)) := cell_of_blk h2 25 rfl
          have yf := frozen_of_blk h2 25
          have HO := Lib.hid (kor3_6 t0 t1 t2 t3 t4)
          generalize hq : mix (xv r0 r1 r2 r3 r4 3) (xv r0 r1 r2 r3 r4 4) 25 25 = q at *
          generalize hp : r3 * 2 / 281474976710656 % 256 = p at *
          clear h2 h1 hg hb
          go_wp2
          go_roundw
          case rel => exact ⟨7, rfl, by omega, set_blk1 J2.out 25 _ (by rw [HO.out]; exact kArr_set (by omega) rfl), set_far J1.out _ _ (by omega), set_far JG.out _ _ hgne, JB.out.setCell (by simp only []; omega) _⟩
          case measure => simp [intOf]
        · have hcn : _ = Value.int .i64 7 := hcnt
          clear hcnt
          subst hcn
          have x0 : wr.cell? ⟨g, 7, none⟩ = some (.int .u8 (r3 * 2 / 72057594037927936 % 256 : Nat)) := cell_of_blk hg 7 rfl
          have y0 : wr.cell? ⟨B2, 26, none⟩ = some (.int .u8 (mix (xv r0 r1 r2 r3 r4 3) (xv r0 r1 r2 r3 r4 4) 26 26 : Nat)) := cell_of_blk h2 26 rfl
          have yf := frozen_of_blk h2 26
          have HO := Lib.hid (kor3_7 t0 t1 t2 t3 t4)
          generalize hq : mix (xv r0 r1 r2 r3 r4 3) (xv r0 r1 r2 r3 r4 4) 26 26 = q at *
          generalize hp : r3 * 2 / 72057594037927936 % 256 = p at *
          clear h2 h1 hg hb
          go_wp2
          go_roundw
          case rel => exact ⟨8, rfl, by omega, set_blk1 J2.out 26 _ (by rw [HO.out]; exact kArr_set (by omega) rfl), set_far J1.out _ _ (by omega), set_far JG.out _ _ hgne, JB.out.setCell (by simp only []; omega) _⟩
          case measure => simp [intOf]
        · have hcn : _ = Value.int .i64 8 := hcnt
          clear hcnt
          subst hcn
          clear h2 h1 hg hb
          go_wp2
          go_roundw
          case rel => exact ⟨4, rfl, by omega, J2.out.trans (congrArg (fun a => some (Obj.cells a 23 (0, 0))) (kend3 t0 t1 t2 t3 t4)), J1.out, JB.out⟩
          case measure => simp [intOf]
    · have hcn : _ = Value.int .i64 4 := hcnt
      clear hcnt
      subst hcn
      have hI := index31_4 (.int .u64 r0) (.int .u64 r1) (.int .u64 r2) (.int .u64 r3) (.int .u64 r4) wr
      have HL := Lib.hid (low_any (r4 * 16) (by omega) wr)
      have hlw2 := heap_lt h2
      have hlw1 := heap_lt h1
      rw [kstart4] at H2
      clear h2 h1 hb
      go_wp2_with fail
      clear hI
      have hc : ((r4 : Int) * 16) = ((r4 * 16 : Nat) : Int) := by omega
      rw [hc]
      refine HL.out.mono ?_
      rintro e w2 ⟨⟨g, rfl, hg⟩, hb2⟩
      have K2 := Lib.hid ((hb2.block B2 hlw2).trans H2.out)
      have K1 := Lib.hid ((hb2.block B1 hlw1).trans H1.out)
      have KB := Lib.hid (HB.out.trans (hb2.mono HB.out.size))
      have KG := Lib.hid hg
      have hgne : g ≠ B2 := by
        rintro rfl
        rw [K2.out] at hg
        simp at hg
      clear hg hb2 hc
      go_wp2
      go_loopw [7, 8, 23] (fun v7 v8 v23 wq => ∃ j : Nat, v23 = .int .i64 j ∧ j ≤ 8 ∧ wq.heap[B2]? = some (.cells (kArr (mix (xv r0 r1 r2 r3 r4 4) (xv r0 r1 r2 r3 r4 5) (25 + j))) 23 (0, 0)) ∧ wq.heap[B1]? = some (.cells zArr 23 (0, 0)) ∧ wq.heap[g]? = some (.cells (lowArr (r4 * 16) 8) 5 (0, 0)) ∧ Below w.heap.size w wq) (fun v7 v8 v23 _ => 8 - (intOf v23).toNat)
      case atStart => exact ⟨0, rfl, by omega, K2.out, K1.out, KG.out, KB.out⟩
      case round =>
        obtain ⟨j, hcnt, hj, h2, h1, hg, hb⟩ := hrel
        have J2 := Lib.hid h2; have J1 := Lib.hid h1; have JG := Lib.hid hg; have JB := Lib.hid hb
        have hj' : j = 0 ∨ j = 1 ∨ j = 2 ∨ j = 3 ∨ j = 4 ∨ j = 5 ∨ j = 6 ∨ j = 7 ∨ j = 8 := by omega
        rcases hj' with rfl | rfl | rfl | rfl | rfl | rfl | rfl | rfl | rfl
        · have hcn : _ = Value.int .i64 0 := hcnt
          clear hcnt
          subst hcn
          have x0 : wr.cell? ⟨g, 0, none⟩ = some (.int .u8 (r4 * 16 / 1 % 256 : Nat)) := cell_of_blk hg 0 rfl
          have y0 : wr.cell? ⟨B2, 25, none⟩ = some (.int .u8 (mix (xv r0 r1 r2 r3 r4 4) (xv r0 r1 r2 r3 r4 5) 25 25 : Nat)) := cell_of_blk h2 25 rfl
          have yf := frozen_of_blk h2 25
          have HO := Lib.hid (kor4_0 t0 t1 t2 t3 t4)
          generalize hq : mix (xv r0 r1 r2 r3 r4 4) (xv r0 r1 r2 r3 r4 5) 25 25 = q at *
          generalize hp : r4 * 16 / 1 % 256 = p at *
          clear h2 h1 hg hb
          go_wp2
          go_roundw
          case rel => exact ⟨1, rfl, by omega, set_blk1 J2.out 25 _ (by rw [HO.out]; exact kArr_set (by omega) rfl), set_far J1.out _ _ (by omega), set_far JG.out _ _ hgne, JB.out.setCell (by simp only []; omega) _⟩
          case measure => simp [intOf]
        · have hcn : _ = Value.int .i64 1 := hcnt
          clear hcnt
          subst hcn
          have x0 : wr.cell? ⟨g, 1, none⟩ = some (.int .u8 (r4 * 16 / 256 % 256 : Nat)) := cell_of_blk hg 1 rfl
          have y0 : wr.cell? ⟨B2, 26, none⟩ = some (.int .u8 (mix (xv r0 r1 r2 r3 r4 4) (xv r0 r1 r2 r3 r4 5) 26 26 : Nat)) := cell_of_blk h2 26 rfl
          have yf := frozen_of_blk h2 26
          have HO := Lib.hid (kor4_1 t0 t1 t2 t3 t4)
          generalize hq : mix (xv r0 r1 r2 r3 r4 4) (xv r0 r1 r2 r3 r4 5) 26 26 = q at *
          generalize hp : r4 * 16 / 256 % 256 = p at *
          clear h2 h1 hg hb
          go_wp2
          go_roundw
          case rel => exact ⟨2, rfl, by omega, set_blk1 J2.out 26 _ (by rw [HO.out]; exact kArr_set (by omega) rfl), set_far J1.out _ _ (by omega), set_far JG.out _ _ hgne, JB.out.setCell (by simp only []; omega) _⟩
          case measure => simp [intOf]
        · have hcn : _ = Value.int .i64 2 := hcnt
          clear hcnt
          subst hcn
          have x0 : wr.cell? ⟨g, 2, none⟩ = some (.int .u8 (r4 * 16 / 65536 % 256 : Nat)) := cell_of_blk hg 2 rfl
          have y0 : wr.cell? ⟨B2, 27, none⟩ = some (.int .u8 (mix (xv r0 r1 r2 r3 r4 4) (xv r0 r1 r2 r3 r4 5) 27 27 : Nat)) := cell_of_blk h2 27 rfl
          have yf := frozen_of_blk h2 27
          have HO := Lib.hid (kor4_2 t0 t1 t2 t3 t4)
          generalize hq : mix (xv r0 r1 r2 r3 r4 4) (xv r0 r1 r2 r3 r4 5) 27 27 = q at *
          generalize hp : r4 * 16 / 65536 % 256 = p at *
          clear h2 h1 hg hb
          go_wp2
          go_roundw
          case rel => exact ⟨3, rfl, by omega, set_blk1 J2.out 27 _ (by rw [HO.out]; exact kArr_set (by omega) rfl), set_far J1.out _ _ (by omega), set_far JG.out _ _ hgne, JB.out.setCell (by simp only []; omega) _⟩
          case measure => simp [intOf]
        · have hcn : _ = Value.int .i64 3 := hcnt
          clear hcnt
          subst hcn
          have x0 : wr.cell? ⟨g, 3, none⟩ = some (.int .u8 (r4 * 16 / 16777216 % 256 : Nat)) := cell_of_blk hg 3 rfl
          have y0 : wr.cell? ⟨B2, 28, none⟩ = some (.int .u8 (mix (xv r0 r1 r2 r3 r4 4) (xv r0 r1 r2 r3 r4 5) 28 28 : Nat)) := cell_of_blk h2 28 rfl
          have yf := frozen_of_blk h2 28
          have HO := Lib.hid (kor4_3 t0 t1 t2 t3 t4)
          generalize hq : mix (xv r0 r1 r2 r3 r4 4) (xv r0 r1 r2 r3 r4 5) 28 28 = q at *
          generalize hp : r4 * 16 / 16777216 % 256 = p at *
          clear h2 h1 hg hb
          go_wp2
          go_roundw
          case rel => exact ⟨4, rfl, by omega, set_blk1 J2.out 28 _ (by rw [HO.out]; exact kArr_set (by omega) rfl), set_far J1.out _ _ (by omega), set_far JG.out _ _ hgne, JB.out.setCell (by simp only []; omega) _⟩
          case measure => simp [intOf]
        · have hcn : _ = Value.int .i64 4 := hcnt
          clear hcnt
          subst hcn
          have x0 : wr.cell? ⟨g, 4, none⟩ = some (.int .u8 (r4 * 16 / 4294967296 % 256 : Nat)) := cell_of_blk hg 4 rfl
          have y0 : wr.cell? ⟨B2, 29, none⟩ = some (.int .u8 (mix (xv r0 r1 r2 r3 r4 4) (xv r0 r1 r2 r3 r4 5) 29 29 : Nat)) := cell_of_blk h2 29 rfl
          have yf := frozen_of_blk h2 29
          have HO := Lib.hid (kor4_4 t0 t1 t2 t3 t4)
          generalize hq : mix (xv r0 r1 r2 r3 r4 4) (xv r0 r1 r2 r3 r4 5) 29 29 = q at *
          generalize hp : r4 * 16 / 4294967296 % 256 = p at *
          clear h2 h1 hg hb
          go_wp2
          go_roundw
          case rel => exact ⟨5, rfl, by omega, set_blk1 J2.out 29 _ (by rw [HO.out]; exact kArr_set (by omega) rfl), set_far J1.out _ _ (by omega), set_far JG.out _ _ hgne, JB.out.setCell (by simp only []; omega) _⟩
          case measure => simp [intOf]
        · have hcn : _ = Value.int .i64 5 := hcnt
          clear hcnt
          subst hcn
          have x0 : wr.cell? ⟨g, 5, none⟩ = some (.int .u8 (r4 * 16 / 1099511627776 % 256 : Nat)) := cell_of_blk hg 5 rfl
          have y0 : wr.cell? ⟨B2, 30, none⟩ = some (.int .u8 (mix (xv r0 r1 r2 r3 r4 4) (xv r0 r1 r2 r3 r4 5) 30 30 : Nat)) := cell_of_blk h2 30 rfl
          have yf := frozen_of_blk h2 30
          have HO := Lib.hid (kor4_5 t0 t1 t2 t3 t4)
          generalize hq : mix (xv r0 r1 r2 r3 r4 4) (xv r0 r1 r2 r3 r4 5) 30 30 = q at *
          generalize hp : r4 * 16 / 1099511627776 % 256 = p at *
          clear h2 h1 hg hb
          go_wp2
          go_roundw
          case rel => exact ⟨6, rfl, by omega, set_blk1 J2.out 30 _ (by rw [HO.out]; exact kArr_set (by omega) rfl), set_far J1.out _ _ (by omega), set_far JG.out _ _ hgne, JB.out.setCell (by simp only []; omega) _⟩
          case measure => simp [intOf]
        · have hcn : _ = Value.int .i64 6 := hcnt
          clear hcnt
          subst hcn
          have x0 : wr.cell? ⟨g, 6, none⟩ = some (.int .u8 (r4 * 16 / 281474976710656 % 256 : Nat)) := cell_of_blk hg 6 rfl
          have y0 : wr.cell? ⟨B2, 31, none⟩ = some (.int .u8 (mix (xv r0 r1 r2 r3 r4 4) (xv r0 r1 r2 r3 r4 5) 31 31 : Nat)) := cell_of_blk h2 31 rfl
          have yf := frozen_of_blk h2 31
          have HO := Lib.hid (kor4_6 t0 t1 t2 t3 t4)
          generalize hq : mix (xv r0 r1 r2 r3 r4 4) (xv r0 r1 r2 r3 r4 5) 31 31 = q at *
          generalize hp : r4 * 16 / 281474976710656 % 256 = p at *
          clear h2 h1 hg hb
          go_wp2
          go_roundw
          case rel => exact ⟨7, rfl, by omega, set_blk1 J2.out 31 _ (by rw [HO.out]; exact kArr_set (by omega) rfl), set_far J1.out _ _ (by omega), set_far JG.out _ _ hgne, JB.out.setCell (by simp only []; omega) _⟩
          case measure => simp [intOf]
        · have hcn : _ = Value.int .i64 7 := hcnt
          clear hcnt
          subst hcn
          have x0 : wr.cell? ⟨g, 7, none⟩ = some (.int .u8 (r4 * 16 / 72057594037927936 % 256 : Nat)) := cell_of_blk hg 7 rfl
          generalize hp : r4 * 16 / 72057594037927936 % 256 = p at *
          clear h2 h1 hg hb
          go_wp2
          go_roundw
          case rel => exact ⟨8, rfl, by omega, J2.out.trans (congrArg (fun a => some (Obj.cells a 23 (0, 0))) (kArr_congr fun b hb => by rw [mix_lt (by omega), mix_lt (by omega)])), J1.out, JG.out, JB.out⟩
          case measure => simp [intOf]
        · have hcn : _ = Value.int .i64 8 := hcnt
          clear hcnt
          subst hcn
          clear h2 h1 hg hb
          go_wp2
          go_roundw
          case rel => exact ⟨5, rfl, by omega, J2.out.trans (congrArg (fun a => some (Obj.cells a 23 (0, 0))) (kend4 t0 t1 t2 t3 t4)), J1.out, JB.out⟩
          case measure => simp [intOf]
    · have hcn : _ = Value.int .i64 5 := hcnt
      clear hcnt
      subst hcn
      rw [HKE.out] at H2
      have hwB : w.heap.size ≤ B1 := by omega
      clear h2 h1 hb
      go_wp2_with (first | (refine wpList_load_row rfl 23 (.tmp 3) rfl B2 rfl 23 _ (0, 0) _ H2.out Tryd.underlying23 rfl info23 ?_) | (refine wpList_store_row rfl 23 (.tmp 2) (.tmp 44) rfl B1 (kArr (byteOf x)) rfl rfl 23 zArr H1.out info23 rfl (kArr_one _) ?_))
      try simp only [Exit.inBlock, Exit.then]
      refine bodyPost_ret (results_cell_row rfl _ _ B1 23 (kArr (byteOf x)) (0, 0) _ rfl (heap_setRow H1.out _) Tryd.underlying23 rfl info23) rfl ?_
      exact ⟨rfl, below_setRow HB.out hwB _⟩

end Go.Proofs.YtdmioipdmdmkhaaDoor
