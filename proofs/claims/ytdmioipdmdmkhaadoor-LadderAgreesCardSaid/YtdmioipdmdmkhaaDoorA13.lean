/- Of of package field, a key below 2^255. -/
import Derived.Test.YtdmioipdmdmkhaaDoorA12
set_option linter.unusedVariables false
set_option linter.unusedSimpArgs false
namespace Go.Proofs.YtdmioipdmdmkhaaDoor
open Go.RowKit

set_option maxRecDepth 100000 in
set_option maxHeartbeats 16000000 in
theorem fof_lo (f : Nat → Nat) (hf : ∀ b, b < 32 → f b < 256) (hside : f 31 < 128) (w : World) :
    Calls Tryd.prog 26 #[.agg (kArr f)] w fun r w' => r = .returned (.tuple #[(ofL f).v, .bool (decide (kVal f < pr))]) ∧ Below w.heap.size w w' := by
  obtain ⟨hX, h33⟩ := kNum_clr f hf
  have hfl := clr_lt hf
  have h31 := hf 31 (by omega)
  obtain ⟨m31, hm31⟩ : ∃ m, m = f 31 % 128 := ⟨_, rfl⟩
  have HA := Lib.hid ((and127 (f 31) h31).trans (by rw [← hm31]))
  have HM := Lib.hid hm31
  clear hm31
  obtain ⟨B1, hB1⟩ : ∃ B, w.heap.size + 1 = B := ⟨_, rfl⟩
  obtain ⟨B2, hB2⟩ : ∃ B, B1 + 1 = B := ⟨_, rfl⟩
  have HS := Lib.hid (start_of w (kArr (clr f)) (c5 0 0 0 0 0) (c5 0 0 0 0 0) hB1 hB2)
  have HB1 := Lib.hid hB1; have HB2 := Lib.hid hB2
  clear hB1 hB2
  go_enter Tryd.func26, Tryd.ntmps26
  go_wp2
  rw [HA.out]
  try simp only [HB1.out, HB2.out]
  have h01 : w.heap.size < B1 := by have := HB1.out; omega
  have h12 : B1 < B2 := by have := HB2.out; omega
  obtain ⟨X, hXX⟩ : ∃ X, X = kNum (clr f) 32 := ⟨_, rfl⟩
  obtain ⟨i0, hi0, hz0, hz1, hz2⟩ := info_parts info5
  have HL8 := Lib.hid (fun a ha => le8 (clr f) hfl a h33 ha)
  rw [← hXX] at HL8 hX
  have HX := Lib.hid hX
  have HXX := Lib.hid hXX
  have HFL := Lib.hid hfl
  clear hX h33 hXX hfl
  go_loopw [6, 7, 8, 16] (fun v6 v7 v8 v16 wr => ∃ i : Nat, v16 = .int .i64 i ∧ i ≤ 5 ∧ wr.heap[w.heap.size]? = some (.cells (kArr (clr f)) 23 (0, 0)) ∧ wr.heap[B2]? = some (.cells (lArr X i) 31 (0, 0)) ∧ wr.heap[B1]? = some (.cells (c5 0 0 0 0 0) 33 (0, 0)) ∧ Below w.heap.size w wr) (fun v6 v7 v8 v16 _ => 5 - (intOf v16).toNat)
  case atStart =>
    rw [HM.out]
    exact ⟨0, rfl, by omega, HS.out.1, HS.out.2.2.1, HS.out.2.1, HS.out.2.2.2⟩
  case round =>
    obtain ⟨i, hcnt, hi, h0, h2, h1, hb⟩ := hrel
    have H0 := Lib.hid h0; have H2 := Lib.hid h2; have H1 := Lib.hid h1; have HB := Lib.hid hb
    have hi' : i = 0 ∨ i = 1 ∨ i = 2 ∨ i = 3 ∨ i = 4 ∨ i = 5 := by omega
    rcases hi' with rfl | rfl | rfl | rfl | rfl | rfl
    · have hcn : _ = Value.int .i64 0 := hcnt
      clear hcnt
      subst hcn
      have hgr : Below wr.heap.size wr (wr.alloc (.cells #[.int .u8 0, .int .u8 0] 5)) := alloc_only _ _
      have HOLD := Lib.hid (World.rangeAt_of_block ((hgr.block _ (heap_lt h0)).trans h0) 0 32)
      have HNEW := Lib.hid (World.news_of_block (heap_alloc_new wr (.cells #[.int .u8 0, .int .u8 0] 5)))
      clear h0 h2 h1 hb
      go_wp2_with (at_builtin; refine wpList_append_grows _ rfl (.tmp 23) (.tmp 24) 69 rfl 5 i0 (.int .u8 0) 1 1 Tryd.underlying69 hi0 hz0 hz1 hz2 rfl (by decide) (some ⟨w.heap.size, 0, none⟩) 32 32 ((kArr (clr f)).extract 0 (0 + 32)).toList rfl (by simp) (by kernel_rfl) (fun b' e j u hj => by cases e; rw [Addr.add_mid]; exact HOLD.out j u hj) ⟨wr.heap.size, 0, none⟩ 2 2 [.int .u8 0, .int .u8 0] rfl rfl HNEW.out (by simp [Value.oneCell']) (by omega) (by unfold maxLen; omega) (by omega) ?_; intro v' w2 hown hgrow)
      rw [ext0] at hown
      have hbw : Below wr.heap.size wr w2 := hgr.grown hgrow (by simp) (by simp)
      obtain ⟨g, cc, rfl, hcc, hg, hx⟩ := own_cell hown (by omega)
      have HOF := Lib.hid (ofLow_any g 0 (32 + 2) cc (fun j => clr f (0 + j)) (fun b _ => HFL.out (0 + b)) (by omega) hcc (by omega) w2 (by
        intro b hb
        rw [Nat.zero_add]
        have hb' : b = 0 ∨ b = 1 ∨ b = 2 ∨ b = 3 ∨ b = 4 ∨ b = 5 ∨ b = 6 ∨ b = 7 := by omega
        rcases hb' with rfl | rfl | rfl | rfl | rfl | rfl | rfl | rfl
        all_goals exact hx _ _ rfl))
      have hN := HL8.out 0 (by omega)
      generalize kNum (fun j => clr f (0 + j)) 8 = N at HOF hN
      have hNl : N < 18446744073709551616 := by rw [hN]; exact Nat.mod_lt _ (by omega)
      have E := Lib.hid (show bits .and .u64 ((N : Int)) 2251799813685247 = ((lof X 0 : Nat) : Int) by
        rw [mask_of _ (N) (by omega) (by omega)]
        congr 1
        have := limb_of0 X
        rw [← hN] at this
        unfold lof
        rw [← this, Nat.div_one])
      have K0 := Lib.hid ((hbw.block _ (heap_lt H0.out)).trans H0.out)
      have K2 := Lib.hid ((hbw.block _ (heap_lt H2.out)).trans H2.out)
      have K1 := Lib.hid ((hbw.block _ (heap_lt H1.out)).trans H1.out)
      have KB := Lib.hid (HB.out.trans (hbw.mono HB.out.size))
      have y := cell_of_blk K2.out 0 (v := .int .u64 0) rfl
      have yf := frozen_of_blk K2.out 0
      clear hown hgrow hbw hx hN hgr hg
      go_wp2_with fail
      refine HOF.out.mono ?_
      rintro e w3 ⟨rfl, rfl⟩
      go_wp2
      go_roundw
      case rel => exact ⟨1, rfl, by omega, set_far K0.out _ _ (by omega), set_blk1 K2.out 0 _ (by rw [E.out]; rfl), set_far K1.out _ _ (by omega), KB.out.setCell (by simp only []; omega) _⟩
      case measure => simp [intOf]
    · have hcn : _ = Value.int .i64 1 := hcnt
      clear hcnt
      subst hcn
      have hgr : Below wr.heap.size wr (wr.alloc (.cells #[.int .u8 0, .int .u8 0] 5)) := alloc_only _ _
      have HOLD := Lib.hid (World.rangeAt_of_block ((hgr.block _ (heap_lt h0)).trans h0) 6 26)
      have HNEW := Lib.hid (World.news_of_block (heap_alloc_new wr (.cells #[.int .u8 0, .int .u8 0] 5)))
      clear h0 h2 h1 hb
      go_wp2_with (at_builtin; refine wpList_append_grows _ rfl (.tmp 23) (.tmp 24) 69 rfl 5 i0 (.int .u8 0) 1 1 Tryd.underlying69 hi0 hz0 hz1 hz2 rfl (by decide) (some ⟨w.heap.size, 6, none⟩) 26 26 ((kArr (clr f)).extract 6 (6 + 26)).toList rfl (by simp) (by kernel_rfl) (fun b' e j u hj => by cases e; rw [Addr.add_mid]; exact HOLD.out j u hj) ⟨wr.heap.size, 0, none⟩ 2 2 [.int .u8 0, .int .u8 0] rfl rfl HNEW.out (by simp [Value.oneCell']) (by omega) (by unfold maxLen; omega) (by omega) ?_; intro v' w2 hown hgrow)
      rw [ext1] at hown
      have hbw : Below wr.heap.size wr w2 := hgr.grown hgrow (by simp) (by simp)
      obtain ⟨g, cc, rfl, hcc, hg, hx⟩ := own_cell hown (by omega)
      have HOF := Lib.hid (ofLow_any g 0 (26 + 2) cc (fun j => clr f (6 + j)) (fun b _ => HFL.out (6 + b)) (by omega) hcc (by omega) w2 (by
        intro b hb
        rw [Nat.zero_add]
        have hb' : b = 0 ∨ b = 1 ∨ b = 2 ∨ b = 3 ∨ b = 4 ∨ b = 5 ∨ b = 6 ∨ b = 7 := by omega
        rcases hb' with rfl | rfl | rfl | rfl | rfl | rfl | rfl | rfl
        all_goals exact hx _ _ rfl))
      have hN := HL8.out 6 (by omega)
      generalize kNum (fun j => clr f (6 + j)) 8 = N at HOF hN
      have hNl : N < 18446744073709551616 := by rw [hN]; exact Nat.mod_lt _ (by omega)
      have E := Lib.hid (show bits .and .u64 ((N : Int) / 8) 2251799813685247 = ((lof X 1 : Nat) : Int) by
        rw [mask_of _ (N / 8) (by omega) (by omega)]
        congr 1
        have := limb_of1 X
        rw [← hN] at this
        unfold lof
        rw [← this])
      have K0 := Lib.hid ((hbw.block _ (heap_lt H0.out)).trans H0.out)
      have K2 := Lib.hid ((hbw.block _ (heap_lt H2.out)).trans H2.out)
      have K1 := Lib.hid ((hbw.block _ (heap_lt H1.out)).trans H1.out)
      have KB := Lib.hid (HB.out.trans (hbw.mono HB.out.size))
      have y := cell_of_blk K2.out 1 (v := .int .u64 0) rfl
      have yf := frozen_of_blk K2.out 1
      clear hown hgrow hbw hx hN hgr hg
      go_wp2_with fail
      refine HOF.out.mono ?_
      rintro e w3 ⟨rfl, rfl⟩
      go_wp2
      go_roundw
      case rel => exact ⟨2, rfl, by omega, set_far K0.out _ _ (by omega), set_blk1 K2.out 1 _ (by rw [E.out]; rfl), set_far K1.out _ _ (by omega), KB.out.setCell (by simp only []; omega) _⟩
      case measure => simp [intOf]
    · have hcn : _ = Value.int .i64 2 := hcnt
      clear hcnt
      subst hcn
      have hgr : Below wr.heap.size wr (wr.alloc (.cells #[.int .u8 0, .int .u8 0] 5)) := alloc_only _ _
      have HOLD := Lib.hid (World.rangeAt_of_block ((hgr.block _ (heap_lt h0)).trans h0) 12 20)
      have HNEW := Lib.hid (World.news_of_block (heap_alloc_new wr (.cells #[.int .u8 0, .int .u8 0] 5)))
      clear h0 h2 h1 hb
      go_wp2_with (at_builtin; refine wpList_append_grows _ rfl (.tmp 23) (.tmp 24) 69 rfl 5 i0 (.int .u8 0) 1 1 Tryd.underlying69 hi0 hz0 hz1 hz2 rfl (by decide) (some ⟨w.heap.size, 12, none⟩) 20 20 ((kArr (clr f)).extract 12 (12 + 20)).toList rfl (by simp) (by kernel_rfl) (fun b' e j u hj => by cases e; rw [Addr.add_mid]; exact HOLD.out j u hj) ⟨wr.heap.size, 0, none⟩ 2 2 [.int .u8 0, .int .u8 0] rfl rfl HNEW.out (by simp [Value.oneCell']) (by omega) (by unfold maxLen; omega) (by omega) ?_; intro v' w2 hown hgrow)
      rw [ext2] at hown
      have hbw : Below wr.heap.size wr w2 := hgr.grown hgrow (by simp) (by simp)
      obtain ⟨g, cc, rfl, hcc, hg, hx⟩ := own_cell hown (by omega)
      have HOF := Lib.hid (ofLow_any g 0 (20 + 2) cc (fun j => clr f (12 + j)) (fun b _ => HFL.out (12 + b)) (by omega) hcc (by omega) w2 (by
        intro b hb
        rw [Nat.zero_add]
        have hb' : b = 0 ∨ b = 1 ∨ b = 2 ∨ b = 3 ∨ b = 4 ∨ b = 5 ∨ b = 6 ∨ b = 7 := by omega
        rcases hb' with rfl | rfl | rfl | rfl | rfl | rfl | rfl | rfl
        all_goals exact hx _ _ rfl))
      have hN := HL8.out 12 (by omega)
      generalize kNum (fun j => clr f (12 + j)) 8 = N at HOF hN
      have hNl : N < 18446744073709551616 := by rw [hN]; exact Nat.mod_lt _ (by omega)
      have E := Lib.hid (show bits .and .u64 ((N : Int) / 64) 2251799813685247 = ((lof X 2 : Nat) : Int) by
        rw [mask_of _ (N / 64) (by omega) (by omega)]
        congr 1
        have := limb_of2 X
        rw [← hN] at this
        unfold lof
        rw [← this])
      have K0 := Lib.hid ((hbw.block _ (heap_lt H0.out)).trans H0.out)
      have K2 := Lib.hid ((hbw.block _ (heap_lt H2.out)).trans H2.out)
      have K1 := Lib.hid ((hbw.block _ (heap_lt H1.out)).trans H1.out)
      have KB := Lib.hid (HB.out.trans (hbw.mono HB.out.size))
      have y := cell_of_blk K2.out 2 (v := .int .u64 0) rfl
      have yf := frozen_of_blk K2.out 2
      clear hown hgrow hbw hx hN hgr hg
      go_wp2_with fail
      refine HOF.out.mono ?_
      rintro e w3 ⟨rfl, rfl⟩
      go_wp2
      go_roundw
      case rel => exact ⟨3, rfl, by omega, set_far K0.out _ _ (by omega), set_blk1 K2.out 2 _ (by rw [E.out]; rfl), set_far K1.out _ _ (by omega), KB.out.setCell (by simp only []; omega) _⟩
      case measure => simp [intOf]
    · have hcn : _ = Value.int .i64 3 := hcnt
      clear hcnt
      subst hcn
      have hgr : Below wr.heap.size wr (wr.alloc (.cells #[.int .u8 0, .int .u8 0] 5)) := alloc_only _ _
      have HOLD := Lib.hid (World.rangeAt_of_block ((hgr.block _ (heap_lt h0)).trans h0) 19 13)
      have HNEW := Lib.hid (World.news_of_block (heap_alloc_new wr (.cells #[.int .u8 0, .int .u8 0] 5)))
      clear h0 h2 h1 hb
      go_wp2_with (at_builtin; refine wpList_append_grows _ rfl (.tmp 23) (.tmp 24) 69 rfl 5 i0 (.int .u8 0) 1 1 Tryd.underlying69 hi0 hz0 hz1 hz2 rfl (by decide) (some ⟨w.heap.size, 19, none⟩) 13 13 ((kArr (clr f)).extract 19 (19 + 13)).toList rfl (by simp) (by kernel_rfl) (fun b' e j u hj => by cases e; rw [Addr.add_mid]; exact HOLD.out j u hj) ⟨wr.heap.size, 0, none⟩ 2 2 [.int .u8 0, .int .u8 0] rfl rfl HNEW.out (by simp [Value.oneCell']) (by omega) (by unfold maxLen; omega) (by omega) ?_; intro v' w2 hown hgrow)
      rw [ext3] at hown
      have hbw : Below wr.heap.size wr w2 := hgr.grown hgrow (by simp) (by simp)
      obtain ⟨g, cc, rfl, hcc, hg, hx⟩ := own_cell hown (by omega)
      have HOF := Lib.hid (ofLow_any g 0 (13 + 2) cc (fun j => clr f (19 + j)) (fun b _ => HFL.out (19 + b)) (by omega) hcc (by omega) w2 (by
        intro b hb
        rw [Nat.zero_add]
        have hb' : b = 0 ∨ b = 1 ∨ b = 2 ∨ b = 3 ∨ b = 4 ∨ b = 5 ∨ b = 6 ∨ b = 7 := by omega
        rcases hb' with rfl | rfl | rfl | rfl | rfl | rfl | rfl | rfl
        all_goals exact hx _ _ rfl))
      have hN := HL8.out 19 (by omega)
      generalize kNum (fun j => clr f (19 + j)) 8 = N at HOF hN
      have hNl : N < 18446744073709551616 := by rw [hN]; exact Nat.mod_lt _ (by omega)
      have E := Lib.hid (show bits .and .u64 ((N : Int) / 2) 2251799813685247 = ((lof X 3 : Nat) : Int) by
        rw [mask_of _ (N / 2) (by omega) (by omega)]
        congr 1
        have := limb_of3 X
        rw [← hN] at this
        unfold lof
        rw [← this])
      have K0 := Lib.hid ((hbw.block _ (heap_lt H0.out)).trans H0.out)
      have K2 := Lib.hid ((hbw.block _ (heap_lt H2.out)).trans H2.out)
      have K1 := Lib.hid ((hbw.block _ (heap_lt H1.out)).trans H1.out)
      have KB := Lib.hid (HB.out.trans (hbw.mono HB.out.size))
      have y := cell_of_blk K2.out 3 (v := .int .u64 0) rfl
      have yf := frozen_of_blk K2.out 3
      clear hown hgrow hbw hx hN hgr hg
      go_wp2_with fail
      refine HOF.out.mono ?_
      rintro e w3 ⟨rfl, rfl⟩
      go_wp2
      go_roundw
      case rel => exact ⟨4, rfl, by omega, set_far K0.out _ _ (by omega), set_blk1 K2.out 3 _ (by rw [E.out]; rfl), set_far K1.out _ _ (by omega), KB.out.setCell (by simp only []; omega) _⟩
      case measure => simp [intOf]
    · have hcn : _ = Value.int .i64 4 := hcnt
      clear hcnt
      subst hcn
      have hgr : Below wr.heap.size wr (wr.alloc (.cells #[.int .u8 0, .int .u8 0] 5)) := alloc_only _ _
      have HOLD := Lib.hid (World.rangeAt_of_block ((hgr.block _ (heap_lt h0)).trans h0) 25 7)
      have HNEW := Lib.hid (World.news_of_block (heap_alloc_new wr (.cells #[.int .u8 0, .int .u8 0] 5)))
      clear h0 h2 h1 hb
      go_wp2_with (at_builtin; refine wpList_append_grows _ rfl (.tmp 23) (.tmp 24) 69 rfl 5 i0 (.int .u8 0) 1 1 Tryd.underlying69 hi0 hz0 hz1 hz2 rfl (by decide) (some ⟨w.heap.size, 25, none⟩) 7 7 ((kArr (clr f)).extract 25 (25 + 7)).toList rfl (by simp) (by kernel_rfl) (fun b' e j u hj => by cases e; rw [Addr.add_mid]; exact HOLD.out j u hj) ⟨wr.heap.size, 0, none⟩ 2 2 [.int .u8 0, .int .u8 0] rfl rfl HNEW.out (by simp [Value.oneCell']) (by omega) (by unfold maxLen; omega) (by omega) ?_; intro v' w2 hown hgrow)
      rw [ext4] at hown
      have hbw : Below wr.heap.size wr w2 := hgr.grown hgrow (by simp) (by simp)
      obtain ⟨g, cc, rfl, hcc, hg, hx⟩ := own_cell hown (by omega)
      have HOF := Lib.hid (ofLow_any g 0 (7 + 2) cc (fun j => clr f (25 + j)) (fun b _ => HFL.out (25 + b)) (by omega) hcc (by omega) w2 (by
        intro b hb
        rw [Nat.zero_add]
        have hb' : b = 0 ∨ b = 1 ∨ b = 2 ∨ b = 3 ∨ b = 4 ∨ b = 5 ∨ b = 6 ∨ b = 7 := by omega
        rcases hb' with rfl | rfl | rfl | rfl | rfl | rfl | rfl | rfl
        all_goals exact hx _ _ rfl))
      have hN := HL8.out 25 (by omega)
      generalize kNum (fun j => clr f (25 + j)) 8 = N at HOF hN
      have hNl : N < 18446744073709551616 := by rw [hN]; exact Nat.mod_lt _ (by omega)
      have E := Lib.hid (show bits .and .u64 ((N : Int) / 16) 2251799813685247 = ((lof X 4 : Nat) : Int) by
        rw [mask_of _ (N / 16) (by omega) (by omega)]
        congr 1
        have := limb_of4 X
        rw [← hN] at this
        unfold lof
        rw [← this])
      have K0 := Lib.hid ((hbw.block _ (heap_lt H0.out)).trans H0.out)
      have K2 := Lib.hid ((hbw.block _ (heap_lt H2.out)).trans H2.out)
      have K1 := Lib.hid ((hbw.block _ (heap_lt H1.out)).trans H1.out)
      have KB := Lib.hid (HB.out.trans (hbw.mono HB.out.size))
      have y := cell_of_blk K2.out 4 (v := .int .u64 0) rfl
      have yf := frozen_of_blk K2.out 4
      clear hown hgrow hbw hx hN hgr hg
      go_wp2_with fail
      refine HOF.out.mono ?_
      rintro e w3 ⟨rfl, rfl⟩
      go_wp2
      go_roundw
      case rel => exact ⟨5, rfl, by omega, set_far K0.out _ _ (by omega), set_blk1 K2.out 4 _ (by rw [E.out]; rfl), set_far K1.out _ _ (by omega), KB.out.setCell (by simp only []; omega) _⟩
      case measure => simp [intOf]
    · have hcn : _ = Value.int .i64 5 := hcnt
      clear hcnt
      subst hcn
      have h2' : wr.heap[B2]? = some (.cells (c5 (lof X 0) (lof X 1) (lof X 2) (lof X 3) (lof X 4)) 31 (0, 0)) := h2
      obtain ⟨⟨x0, x1, x2, x3, x4⟩, _, _, _, _, _⟩ := facts5 h2'
      have l0 := lof_lt X 0
      have l1 := lof_lt X 1
      have l2 := lof_lt X 2
      have l3 := lof_lt X 3
      have l4 := lof_lt X 4
      have hXlt : X < 57896044618658097711785492504343953926634992332820282019728792003956564819968 := by rw [HX.out]; exact Nat.mod_lt _ (by omega)
      have HOL := Lib.hid (show ofL f = crd (lof X 0) (lof X 1) (lof X 2) (lof X 3) (lof X 4) by rw [ofL, ← HXX.out])
      have HE0 := Lib.hid (show El (crd (lof X 0) (lof X 1) (lof X 2) (lof X 3) (lof X 4)).v (X % pr) from El.crd (by omega) (by omega) (by omega) (by omega) (by omega) (congrArg (· % pr) (limbs_val X hXlt)))
      generalize lof X 0 = d0 at *
      generalize lof X 1 = d1 at *
      generalize lof X 2 = d2 at *
      generalize lof X 3 = d3 at *
      generalize lof X 4 = d4 at *
      have HC := Lib.hid (fun w => carried_any d0 d1 d2 d3 d4 w (by omega) (by omega) (by omega) (by omega) (by omega))
      clear h0 h2 h2' h1 hb
      go_wp2_with fail
      refine (HC.out _).mono ?_
      rintro e w1 ⟨rfl, hbw⟩
      generalize crd d0 d1 d2 d3 d4 = cv at *
      obtain ⟨c0, c1, c2, c3, c4⟩ := cv
      have HE := Lib.hid (show El (limbsV c0 c1 c2 c3 c4) (X % pr) from HE0.out)
      have KB := Lib.hid (HB.out.trans (hbw.mono HB.out.size))
      have K0 := Lib.hid ((hbw.block _ (heap_lt H0.out)).trans H0.out)
      have K1 := Lib.hid ((hbw.block _ (heap_lt H1.out)).trans H1.out)
      clear x0 x1 x2 x3 x4 hbw HC
      obtain ⟨⟨y0, y1, y2, y3, y4⟩, f0, f1, f2, f3, f4⟩ := facts5 K1.out
      dsimp only [L5.v, limbsV]
      have hTop : (decide (kVal f < pr) = false ∧ ((f 31 : Int) / 128 == 0) = false) ∨ (((f 31 : Int) / 128 == 0) = true ∧ ∀ w, (Op.equalIn 10000 23 (.agg (kArr (byteOf (X % pr)))) (.agg (kArr (clr f)))).run Tryd.prog w = .ok (decide (kVal f < pr)) w) := whole_cases hf HX.out HXX.out
      have HXE := Lib.hid HX.out
      go_wp2
      obtain ⟨W, hW⟩ : ∃ W, W = ((((w1.setCell ⟨B1, 0, none⟩ (.int .u64 c0)).setCell ⟨B1, 1, none⟩ (.int .u64 c1)).setCell ⟨B1, 2, none⟩ (.int .u64 c2)).setCell ⟨B1, 3, none⟩ (.int .u64 c3)).setCell ⟨B1, 4, none⟩ (.int .u64 c4) := ⟨_, rfl⟩
      have HBW := Lib.hid (show Below w.heap.size w W from by rw [hW]; exact below_all KB.out (by omega) _ _ _ _ _)
      have W1 := Lib.hid (show W.heap[B1]? = some (.cells (c5 c0 c1 c2 c3 c4) 33 (0, 0)) from by rw [hW]; exact set_all K1.out _ _ _ _ _)
      have W0 := Lib.hid (show W.heap[w.heap.size]? = some (.cells (kArr (clr f)) 23 (0, 0)) from by rw [hW]; exact set_all_far K0.out (by omega) _ _ _ _ _)
      rw [← hW]
      have HSK := Lib.hid (fun (w' : World) (hb : Below W.heap.size W w') => (show (w'.cell? ⟨B1, 0, none⟩ = some (.int .u64 c0) ∧ w'.cell? ⟨B1, 1, none⟩ = some (.int .u64 c1) ∧ w'.cell? ⟨B1, 2, none⟩ = some (.int .u64 c2) ∧ w'.cell? ⟨B1, 3, none⟩ = some (.int .u64 c3) ∧ w'.cell? ⟨B1, 4, none⟩ = some (.int .u64 c4)) ∧ w'.rangeAt w.heap.size 0 (kArr (clr f)).toList from
        ⟨(facts5 ((hb.block _ (heap_lt W1.out)).trans W1.out)).1, fun j v hv => by rw [Nat.zero_add]; exact cell_of_blk ((hb.block _ (heap_lt W0.out)).trans W0.out) j (by simpa using hv)⟩))
      have HSS := Lib.hid (fun (w' : World) (hb : Below W.heap.size W w') =>
        have e1 := set_all ((hb.block _ (heap_lt W1.out)).trans W1.out) (.int .u64 c0) (.int .u64 c1) (.int .u64 c2) (.int .u64 c3) (.int .u64 c4)
        have e0 := set_all_far ((hb.block _ (heap_lt W0.out)).trans W0.out) (show w.heap.size ≠ B1 by omega) (.int .u64 c0) (.int .u64 c1) (.int .u64 c2) (.int .u64 c3) (.int .u64 c4)
        And.intro (facts5 e1).1 (fun (j : Nat) (v : Value) (hv : (kArr (clr f)).toList[j]? = some v) => (cell_of_blk e0 (0 + j) (by rw [Nat.zero_add]; simpa using hv))))
      have HWF := Lib.hid (fun (w' : World) (hb : Below W.heap.size W w') => facts5 ((hb.block _ (heap_lt W1.out)).trans W1.out))
      have HK := Lib.hid (fun (w1 : World) (hb : Below W.heap.size W w1) => (key_any HE.out w1).mono (fun e w2 ⟨h, hb2⟩ => (show e = Ending.returned (.agg (kArr (byteOf (X % pr)))) ∧ Below W.heap.size W w2 from ⟨h, hb.trans (hb2.mono hb.size)⟩)))
      unfold limbsV at HK
      clear y0 y1 y2 y3 y4 f0 f1 f2 f3 f4 hW
      obtain ⟨⟨y0, y1, y2, y3, y4⟩, f0, f1, f2, f3, f4⟩ := facts5 W1.out
      have hrange := (HSK.out W (Below.refl _ _)).2
      have hu := Tryd.underlying23
      have hin : (Tryd.prog.info? 23).map (·.size) = some (kArr (clr f)).toList.length := by rw [info23]; rfl
      have n10 : B1 ≠ w.heap.size := by omega
      rcases hTop with ⟨hd, ht⟩ | ⟨ht, hq⟩
      · exfalso
        have h0 : (f 31 : Int) / 128 = 0 := by omega
        rw [h0] at ht
        exact absurd ht (by decide)
      · have hq2 : ∀ w, (Op.equalIn 10000 23 (.agg (kArr (byteOf (X % pr)))) (.agg (kArr (clr f)).toList.toArray)).run Tryd.prog w = .ok (decide (kVal f < pr)) w := hq
        go_region_held3 (fun w' => (w'.cell? ⟨B1, 0, none⟩ = some (.int .u64 c0) ∧ w'.cell? ⟨B1, 1, none⟩ = some (.int .u64 c1) ∧ w'.cell? ⟨B1, 2, none⟩ = some (.int .u64 c2) ∧ w'.cell? ⟨B1, 3, none⟩ = some (.int .u64 c3) ∧ w'.cell? ⟨B1, 4, none⟩ = some (.int .u64 c4)) ∧ w'.rangeAt w.heap.size 0 (kArr (clr f)).toList)
          (first | exact HSK.out _ (by first | assumption | exact (Below.refl _ _).drew) | exact HSS.out _ (by first | assumption | exact (Below.refl _ _).drew) | go_keep)
          (first | (go_at_call 22; refine (HK.out _ (by first | assumption | exact (Below.refl _ _).drew)).mono ?_; rintro e w3 ⟨rfl, hb3⟩; obtain ⟨⟨q0, q1, q2, q3, q4⟩, g0, g1, g2, g3, g4⟩ := HWF.out _ hb3))
        have E1 := Lib.hid (set_all ((hb3.block _ (heap_lt W1.out)).trans W1.out) (.int .u64 c0) (.int .u64 c1) (.int .u64 c2) (.int .u64 c3) (.int .u64 c4))
        have EB := Lib.hid (below_all (HBW.out.trans (hb3.mono HBW.out.size)) (show w.heap.size ≤ B1 by omega) (.int .u64 c0) (.int .u64 c1) (.int .u64 c2) (.int .u64 c3) (.int .u64 c4))
        clear hb3
        go_wp2
        try simp only [Exit.inBlock, Exit.then]
        refine bodyPost_ret (results_two rfl _ _ B1 33 (c5 c0 c1 c2 c3 c4) (0, 0) _ rfl E1.out Tryd.underlying33 rfl info33) rfl ?_
        exact ⟨by rw [HOL.out]; rfl, EB.out⟩

end Go.Proofs.YtdmioipdmdmkhaaDoor
