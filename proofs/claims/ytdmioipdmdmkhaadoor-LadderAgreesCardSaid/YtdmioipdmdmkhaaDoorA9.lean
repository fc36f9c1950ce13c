/- Low and OfLow of package octets, of eight bytes. -/
import Derived.Test.YtdmioipdmdmkhaaDoorA7
set_option linter.unusedVariables false
set_option linter.unusedSimpArgs false
namespace Go.Proofs.YtdmioipdmdmkhaaDoor
open Go.RowKit

def lowArr (n i : Nat) : Array Value := #[.int .u8 ((if 0 < i then n / 1 % 256 else 0 : Nat) : Int), .int .u8 ((if 1 < i then n / 256 % 256 else 0 : Nat) : Int), .int .u8 ((if 2 < i then n / 65536 % 256 else 0 : Nat) : Int), .int .u8 ((if 3 < i then n / 16777216 % 256 else 0 : Nat) : Int), .int .u8 ((if 4 < i then n / 4294967296 % 256 else 0 : Nat) : Int), .int .u8 ((if 5 < i then n / 1099511627776 % 256 else 0 : Nat) : Int), .int .u8 ((if 6 < i then n / 281474976710656 % 256 else 0 : Nat) : Int), .int .u8 ((if 7 < i then n / 72057594037927936 % 256 else 0 : Nat) : Int)]
/-- The number of the first n bytes. -/
def kNum (f : Nat → Nat) : Nat → Nat
  | 0 => 0
  | n + 1 => kNum f n + f n * 256 ^ n
theorem kNum_lt {f : Nat → Nat} : ∀ n, (∀ b, b < n → f b < 256) → kNum f n < 256 ^ n
  | 0, _ => by simp [kNum]
  | n + 1, h => by
    have := kNum_lt n (fun b hb => h b (by omega))
    have h2 := h n (by omega)
    have h3 : f n * 256 ^ n ≤ 255 * 256 ^ n := Nat.mul_le_mul_right _ (by omega)
    rw [kNum, Nat.pow_succ]
    omega
theorem info5 : (Tryd.prog.info? 5).map (fun i => (i.zero, i.size, i.bytes)) = some (some (.int .u8 0), 1, 1) := by kernel_rfl
theorem info_parts {P : Program} {e : TypeId} {z : Option Value} {s b : Nat} (h : (P.info? e).map (fun i => (i.zero, i.size, i.bytes)) = some (z, s, b)) : ∃ i, P.info? e = some i ∧ i.zero = z ∧ i.size = s ∧ i.bytes = b := by
  cases hi : P.info? e with
  | none => simp [hi] at h
  | some i => simp [hi] at h; exact ⟨i, rfl, h.1, h.2.1, h.2.2⟩
theorem made8 : (madeCells (Value.int .u8 0).cells (8 * 1)).toList = [.int .u8 0, .int .u8 0, .int .u8 0, .int .u8 0, .int .u8 0, .int .u8 0, .int .u8 0, .int .u8 0] := by kernel_rfl
theorem low_start {w w1 : World} {n g : Nat} {c : Nat} (ho : w1.ownsRow w.heap.size 5 1 (.slice (some ⟨g, 0, none⟩) 8 8) 8 (madeCells (Value.int .u8 0).cells (8 * 1)).toList) : w1.heap[g]? = some (.cells (lowArr n 0) 5 (0, 0)) ∧ w.heap.size ≤ g := by
  rcases ho.2 with ⟨h, _⟩ | ⟨g', cap, cur, he, hb, hg, _, _, hs, ht⟩
  · simp at h
  · simp only [Value.slice.injEq, Option.some.injEq, Addr.mk.injEq, and_true, true_and] at he
    obtain ⟨rfl, rfl⟩ := he
    refine ⟨?_, hb⟩
    rw [hg]
    have hc : cur = lowArr n 0 := by
      apply Array.toList_inj.1
      rw [made8] at ht
      rw [List.take_of_length_le (by simpa using Nat.le_of_eq hs)] at ht
      rw [ht]; rfl
    rw [hc]
theorem u8_of (x : Int) (a : Nat) (hx : x = a) : IntKind.u8.wrap x = ((a % 256 : Nat) : Int) := by
  subst hx; simp [IntKind.wrap, IntKind.bits, IntKind.signed]

set_option maxRecDepth 100000 in
set_option maxHeartbeats 4000000 in
theorem low_any (n : Nat) (hn : n < 18446744073709551616) (w : World) :
    Calls Tryd.prog 54 #[.int .u64 n, .int .i64 8] w fun r w' => (∃ g, r = .returned (.slice (some ⟨g, 0, none⟩) 8 8) ∧ w'.heap[g]? = some (.cells (lowArr n 8) 5 (0, 0))) ∧ Below w.heap.size w w' := by
  obtain ⟨i0, hi0, hz0, hz1, hz2⟩ := info_parts info5
  go_enter Tryd.func54, Tryd.ntmps54
  go_wp2_with (with_reducible refine wpList_make_full _ rfl (.tmp 13) (.tmp 13) 69 rfl w.heap.size 5 i0 (.int .u8 0) 1 Tryd.underlying69 hi0 hz0 hz1 .i64 .i64 _ _ 8 rfl rfl rfl rfl (by rw [hz2]; omega) (by unfold maxLen; omega) (Nat.le_refl _) ?_; intro w1 hown hgrow; have HNEW := Lib.hid (And.intro (low_start (n := n) (c := 0) hown) ((Below.refl w.heap.size w).grown hgrow (Nat.le_refl _) (by simp))); clear hown hgrow)
  go_loopw [6, 16] (fun v6 v16 wr => ∃ i : Nat, v16 = .int .i64 i ∧ i ≤ 8 ∧ wr.heap[w.heap.size]? = some (.cells (lowArr n i) 5 (0, 0)) ∧ Below w.heap.size w wr) (fun v6 v16 _ => 8 - (intOf v16).toNat)
  case atStart => exact ⟨0, rfl, by omega, HNEW.out.1.1, HNEW.out.2⟩
  case round =>
    obtain ⟨i, hcnt, hi, hh, hb⟩ := hrel
    have HH := Lib.hid hh; have HB := Lib.hid hb
    have hi' : i = 0 ∨ i = 1 ∨ i = 2 ∨ i = 3 ∨ i = 4 ∨ i = 5 ∨ i = 6 ∨ i = 7 ∨ i = 8 := by omega
    rcases hi' with rfl | rfl | rfl | rfl | rfl | rfl | rfl | rfl | rfl
    · have hcn : _ = Value.int .i64 0 := hcnt
      clear hcnt
      subst hcn
      have x : wr.cell? ⟨w.heap.size, 0, none⟩ = some (.int .u8 0) := cell_of_blk hh 0 rfl
      have f := frozen_of_blk hh 0
      clear hh hb
      go_wp2
      go_roundw
      case rel => exact ⟨1, rfl, by omega, set_blk1 HH.out 0 _ (by rw [show ((n : Int) % 256 : Int) = ((n / 1 % 256 : Nat) : Int) from by omega]; rfl), HB.out.setCell (Nat.le_refl _) _⟩
      case measure => simp [intOf]
    · have hcn : _ = Value.int .i64 1 := hcnt
      clear hcnt
      subst hcn
      have x : wr.cell? ⟨w.heap.size, 1, none⟩ = some (.int .u8 0) := cell_of_blk hh 1 rfl
      have f := frozen_of_blk hh 1
      clear hh hb
      go_wp2
      go_roundw
      case rel => exact ⟨2, rfl, by omega, set_blk1 HH.out 1 _ (by rw [show ((n : Int) / 256 % 256 : Int) = ((n / 256 % 256 : Nat) : Int) from by omega]; rfl), HB.out.setCell (Nat.le_refl _) _⟩
      case measure => simp [intOf]
    · have hcn : _ = Value.int .i64 2 := hcnt
      clear hcnt
      subst hcn
      have x : wr.cell? ⟨w.heap.size, 2, none⟩ = some (.int .u8 0) := cell_of_blk hh 2 rfl
      have f := frozen_of_blk hh 2
      clear hh hb
      go_wp2
      go_roundw
      case rel => exact ⟨3, rfl, by omega, set_blk1 HH.out 2 _ (by rw [show ((n : Int) / 65536 % 256 : Int) = ((n / 65536 % 256 : Nat) : Int) from by omega]; rfl), HB.out.setCell (Nat.le_refl _) _⟩
      case measure => simp [intOf]
    · have hcn : _ = Value.int .i64 3 := hcnt
      clear hcnt
      subst hcn
      have x : wr.cell? ⟨w.heap.size, 3, none⟩ = some (.int .u8 0) := cell_of_blk hh 3 rfl
      have f := frozen_of_blk hh 3
      clear hh hb
      go_wp2
      go_roundw
      case rel => exact ⟨4, rfl, by omega, set_blk1 HH.out 3 _ (by rw [show ((n : Int) / 16777216 % 256 : Int) = ((n / 16777216 % 256 : Nat) : Int) from by omega]; rfl), HB.out.setCell (Nat.le_refl _) _⟩
      case measure => simp [intOf]
    · have hcn : _ = Value.int .i64 4 := hcnt
      clear hcnt
      subst hcn
      have x : wr.cell? ⟨w.heap.size, 4, none⟩ = some (.int .u8 0) := cell_of_blk hh 4 rfl
      have f := frozen_of_blk hh 4
      clear hh hb
      go_wp2
      go_roundw
      case rel => exact ⟨5, rfl, by omega, set_blk1 HH.out 4 _ (by rw [show ((n : Int) / 4294967296 % 256 : Int) = ((n / 4294967296 % 256 : Nat) : Int) from by omega]; rfl), HB.out.setCell (Nat.le_refl _) _⟩
      case measure => simp [intOf]
    · have hcn : _ = Value.int .i64 5 := hcnt
      clear hcnt
      subst hcn
      have x : wr.cell? ⟨w.heap.size, 5, none⟩ = some (.int .u8 0) := cell_of_blk hh 5 rfl
      have f := frozen_of_blk hh 5
      clear hh hb
      go_wp2
      go_roundw
      case rel => exact ⟨6, rfl, by omega, set_blk1 HH.out 5 _ (by rw [show ((n : Int) / 1099511627776 % 256 : Int) = ((n / 1099511627776 % 256 : Nat) : Int) from by omega]; rfl), HB.out.setCell (Nat.le_refl _) _⟩
      case measure => simp [intOf]
    · have hcn : _ = Value.int .i64 6 := hcnt
      clear hcnt
      subst hcn
      have x : wr.cell? ⟨w.heap.size, 6, none⟩ = some (.int .u8 0) := cell_of_blk hh 6 rfl
      have f := frozen_of_blk hh 6
      clear hh hb
      go_wp2
      go_roundw
      case rel => exact ⟨7, rfl, by omega, set_blk1 HH.out 6 _ (by rw [show ((n : Int) / 281474976710656 % 256 : Int) = ((n / 281474976710656 % 256 : Nat) : Int) from by omega]; rfl), HB.out.setCell (Nat.le_refl _) _⟩
      case measure => simp [intOf]
    · have hcn : _ = Value.int .i64 7 := hcnt
      clear hcnt
      subst hcn
      have x : wr.cell? ⟨w.heap.size, 7, none⟩ = some (.int .u8 0) := cell_of_blk hh 7 rfl
      have f := frozen_of_blk hh 7
      clear hh hb
      go_wp2
      go_roundw
      case rel => exact ⟨8, rfl, by omega, set_blk1 HH.out 7 _ (by rw [show ((n : Int) / 72057594037927936 : Int) = ((n / 72057594037927936 % 256 : Nat) : Int) from by omega]; rfl), HB.out.setCell (Nat.le_refl _) _⟩
      case measure => simp [intOf]
    · have hcn : _ = Value.int .i64 8 := hcnt
      clear hcnt
      subst hcn
      clear hh hb
      go_wp2
      go_ret
      exact ⟨⟨_, rfl, HH.out⟩, HB.out⟩

/-! ### OfLow -/
theorem or_low0 (a c : Nat) (ha : a < 1) (hc : c < 256) : bits .or .u64 (a : Int) ((c : Int)) = ((a + c : Nat) : Int) := by
  rw [show (c : Int) = ((c : Nat) : Int) from by omega, bits_or_u64_nat _ _ (by omega) (by omega)]
  have := Nat.two_pow_add_eq_or_of_lt (i := 0) (b := a) (by omega) c
  rw [show 2 ^ 0 * c = c by omega, Nat.or_comm] at this
  rw [← this, Nat.add_comm]
theorem or_low1 (a c : Nat) (ha : a < 256) (hc : c < 256) : bits .or .u64 (a : Int) ((c : Int) * 256) = ((a + c * 256 : Nat) : Int) := by
  rw [show (c : Int) * 256 = ((c * 256 : Nat) : Int) from by omega, bits_or_u64_nat _ _ (by omega) (by omega)]
  have := Nat.two_pow_add_eq_or_of_lt (i := 8) (b := a) (by omega) c
  rw [show 2 ^ 8 * c = c * 256 by omega, Nat.or_comm] at this
  rw [← this, Nat.add_comm]
theorem or_low2 (a c : Nat) (ha : a < 65536) (hc : c < 256) : bits .or .u64 (a : Int) ((c : Int) * 65536) = ((a + c * 65536 : Nat) : Int) := by
  rw [show (c : Int) * 65536 = ((c * 65536 : Nat) : Int) from by omega, bits_or_u64_nat _ _ (by omega) (by omega)]
  have := Nat.two_pow_add_eq_or_of_lt (i := 16) (b := a) (by omega) c
  rw [show 2 ^ 16 * c = c * 65536 by omega, Nat.or_comm] at this
  rw [← this, Nat.add_comm]
theorem or_low3 (a c : Nat) (ha : a < 16777216) (hc : c < 256) : bits .or .u64 (a : Int) ((c : Int) * 16777216) = ((a + c * 16777216 : Nat) : Int) := by
  rw [show (c : Int) * 16777216 = ((c * 16777216 : Nat) : Int) from by omega, bits_or_u64_nat _ _ (by omega) (by omega)]
  have := Nat.two_pow_add_eq_or_of_lt (i := 24) (b := a) (by omega) c
  rw [show 2 ^ 24 * c = c * 16777216 by omega, Nat.or_comm] at this
  rw [← this, Nat.add_comm]
theorem or_low4 (a c : Nat) (ha : a < 4294967296) (hc : c < 256) : bits .or .u64 (a : Int) ((c : Int) * 4294967296) = ((a + c * 4294967296 : Nat) : Int) := by
  rw [show (c : Int) * 4294967296 = ((c * 4294967296 : Nat) : Int) from by omega, bits_or_u64_nat _ _ (by omega) (by omega)]
  have := Nat.two_pow_add_eq_or_of_lt (i := 32) (b := a) (by omega) c
  rw [show 2 ^ 32 * c = c * 4294967296 by omega, Nat.or_comm] at this
  rw [← this, Nat.add_comm]
theorem or_low5 (a c : Nat) (ha : a < 1099511627776) (hc : c < 256) : bits .or .u64 (a : Int) ((c : Int) * 1099511627776) = ((a + c * 1099511627776 : Nat) : Int) := by
  rw [show (c : Int) * 1099511627776 = ((c * 1099511627776 : Nat) : Int) from by omega, bits_or_u64_nat _ _ (by omega) (by omega)]
  have := Nat.two_pow_add_eq_or_of_lt (i := 40) (b := a) (by omega) c
  rw [show 2 ^ 40 * c = c * 1099511627776 by omega, Nat.or_comm] at this
  rw [← this, Nat.add_comm]
theorem or_low6 (a c : Nat) (ha : a < 281474976710656) (hc : c < 256) : bits .or .u64 (a : Int) ((c : Int) * 281474976710656) = ((a + c * 281474976710656 : Nat) : Int) := by
  rw [show (c : Int) * 281474976710656 = ((c * 281474976710656 : Nat) : Int) from by omega, bits_or_u64_nat _ _ (by omega) (by omega)]
  have := Nat.two_pow_add_eq_or_of_lt (i := 48) (b := a) (by omega) c
  rw [show 2 ^ 48 * c = c * 281474976710656 by omega, Nat.or_comm] at this
  rw [← this, Nat.add_comm]
theorem or_low7 (a c : Nat) (ha : a < 72057594037927936) (hc : c < 256) : bits .or .u64 (a : Int) ((c : Int) * 72057594037927936) = ((a + c * 72057594037927936 : Nat) : Int) := by
  rw [show (c : Int) * 72057594037927936 = ((c * 72057594037927936 : Nat) : Int) from by omega, bits_or_u64_nat _ _ (by omega) (by omega)]
  have := Nat.two_pow_add_eq_or_of_lt (i := 56) (b := a) (by omega) c
  rw [show 2 ^ 56 * c = c * 72057594037927936 by omega, Nat.or_comm] at this
  rw [← this, Nat.add_comm]
set_option maxRecDepth 100000 in
set_option maxHeartbeats 4000000 in
theorem ofLow_any (g off n c : Nat) (f : Nat → Nat) (hf : ∀ b, b < 8 → f b < 256) (hn : 8 < n) (hc : n ≤ c) (hm : n ≤ 10000) (w : World) (hx : ∀ b, b < 8 → w.cell? ⟨g, off + b, none⟩ = some (.int .u8 (f b))) :
    Calls Tryd.prog 55 #[.slice (some ⟨g, off, none⟩) n c] w fun r w' => r = .returned (.int .u64 (kNum f 8)) ∧ w' = w := by
  have HX := Lib.hid hx; have HF := Lib.hid hf
  have hlt : (8 : Int) < (n : Int) := by omega
  clear hx hf
  go_enter Tryd.func55, Tryd.ntmps55
  go_wp2
  all_goals try (exfalso; omega)
  go_loopw [3, 4, 5, 12] (fun v3 v4 v5 v12 wr => ∃ i : Nat, v12 = .int .i64 i ∧ i ≤ 8 ∧ v3 = .int .u64 (kNum f i) ∧ wr = w) (fun v3 v4 v5 v12 _ => 8 - (intOf v12).toNat)
  case atStart => exact ⟨0, rfl, by omega, rfl, rfl⟩
  case round =>
    obtain ⟨i, hcnt, hi, rfl, rfl⟩ := hrel
    have hi' : i = 0 ∨ i = 1 ∨ i = 2 ∨ i = 3 ∨ i = 4 ∨ i = 5 ∨ i = 6 ∨ i = 7 ∨ i = 8 := by omega
    rcases hi' with rfl | rfl | rfl | rfl | rfl | rfl | rfl | rfl | rfl
    · have hcn : _ = Value.int .i64 0 := hcnt
      clear hcnt
      subst hcn
      have x : wr.cell? ⟨g, off, none⟩ = _ := HX.out 0 (by omega)
      have HE := Lib.hid (or_low0 (kNum f 0) (f 0) (kNum_lt 0 (fun b hb => HF.out b (by omega))) (HF.out 0 (by omega)))
      have hb := HF.out 0 (by omega)
      generalize hk : kNum f 0 = a at *
      generalize hq : f 0 = q at *
      go_wp2
      go_roundw
      case rel => exact ⟨1, rfl, by omega, by rw [show kNum f 1 = a + q from (by rw [kNum, hk, hq, Nat.pow_zero, Nat.mul_one]), ← HE.out], by first | trivial | rfl⟩
      case measure => simp [intOf]
    · have hcn : _ = Value.int .i64 1 := hcnt
      clear hcnt
      subst hcn
      have x : _ = _ := HX.out 1 (by omega)
      have HE := Lib.hid (or_low1 (kNum f 1) (f 1) (kNum_lt 1 (fun b hb => HF.out b (by omega))) (HF.out 1 (by omega)))
      have hb := HF.out 1 (by omega)
      generalize hk : kNum f 1 = a at *
      generalize hq : f 1 = q at *
      go_wp2
      go_roundw
      case rel => exact ⟨2, rfl, by omega, by rw [show kNum f 2 = a + q * 256 from (by rw [kNum, hk, hq]), ← HE.out], by first | trivial | rfl⟩
      case measure => simp [intOf]
    · have hcn : _ = Value.int .i64 2 := hcnt
      clear hcnt
      subst hcn
      have x : _ = _ := HX.out 2 (by omega)
      have HE := Lib.hid (or_low2 (kNum f 2) (f 2) (kNum_lt 2 (fun b hb => HF.out b (by omega))) (HF.out 2 (by omega)))
      have hb := HF.out 2 (by omega)
      generalize hk : kNum f 2 = a at *
      generalize hq : f 2 = q at *
      go_wp2
      go_roundw
      case rel => exact ⟨3, rfl, by omega, by rw [show kNum f 3 = a + q * 65536 from (by rw [kNum, hk, hq]), ← HE.out], by first | trivial | rfl⟩
      case measure => simp [intOf]
    · have hcn : _ = Value.int .i64 3 := hcnt
      clear hcnt
      subst hcn
      have x : _ = _ := HX.out 3 (by omega)
      have HE := Lib.hid (or_low3 (kNum f 3) (f 3) (kNum_lt 3 (fun b hb => HF.out b (by omega))) (HF.out 3 (by omega)))
      have hb := HF.out 3 (by omega)
      generalize hk : kNum f 3 = a at *
      generalize hq : f 3 = q at *
      go_wp2
      go_roundw
      case rel => exact ⟨4, rfl, by omega, by rw [show kNum f 4 = a + q * 16777216 from (by rw [kNum, hk, hq]), ← HE.out], by first | trivial | rfl⟩
      case measure => simp [intOf]
    · have hcn : _ = Value.int .i64 4 := hcnt
      clear hcnt
      subst hcn
      have x : _ = _ := HX.out 4 (by omega)
      have HE := Lib.hid (or_low4 (kNum f 4) (f 4) (kNum_lt 4 (fun b hb => HF.out b (by omega))) (HF.out 4 (by omega)))
      have hb := HF.out 4 (by omega)
      generalize hk : kNum f 4 = a at *
      generalize hq : f 4 = q at *
      go_wp2
      go_roundw
      case rel => exact ⟨5, rfl, by omega, by rw [show kNum f 5 = a + q * 4294967296 from (by rw [kNum, hk, hq]), ← HE.out], by first | trivial | rfl⟩
      case measure => simp [intOf]
    · have hcn : _ = Value.int .i64 5 := hcnt
      clear hcnt
      subst hcn
      have x : _ = _ := HX.out 5 (by omega)
      have HE := Lib.hid (or_low5 (kNum f 5) (f 5) (kNum_lt 5 (fun b hb => HF.out b (by omega))) (HF.out 5 (by omega)))
      have hb := HF.out 5 (by omega)
      generalize hk : kNum f 5 = a at *
      generalize hq : f 5 = q at *
      go_wp2
      go_roundw
      case rel => exact ⟨6, rfl, by omega, by rw [show kNum f 6 = a + q * 1099511627776 from (by rw [kNum, hk, hq]), ← HE.out], by first | trivial | rfl⟩
      case measure => simp [intOf]
    · have hcn : _ = Value.int .i64 6 := hcnt
      clear hcnt
      subst hcn
      have x : _ = _ := HX.out 6 (by omega)
      have HE := Lib.hid (or_low6 (kNum f 6) (f 6) (kNum_lt 6 (fun b hb => HF.out b (by omega))) (HF.out 6 (by omega)))
      have hb := HF.out 6 (by omega)
      generalize hk : kNum f 6 = a at *
      generalize hq : f 6 = q at *
      go_wp2
      go_roundw
      case rel => exact ⟨7, rfl, by omega, by rw [show kNum f 7 = a + q * 281474976710656 from (by rw [kNum, hk, hq]), ← HE.out], by first | trivial | rfl⟩
      case measure => simp [intOf]
    · have hcn : _ = Value.int .i64 7 := hcnt
      clear hcnt
      subst hcn
      have x : _ = _ := HX.out 7 (by omega)
      have HE := Lib.hid (or_low7 (kNum f 7) (f 7) (kNum_lt 7 (fun b hb => HF.out b (by omega))) (HF.out 7 (by omega)))
      have hb := HF.out 7 (by omega)
      generalize hk : kNum f 7 = a at *
      generalize hq : f 7 = q at *
      go_wp2
      go_roundw
      case rel => exact ⟨8, rfl, by omega, by rw [show kNum f 8 = a + q * 72057594037927936 from (by rw [kNum, hk, hq]), ← HE.out], by first | trivial | rfl⟩
      case measure => simp [intOf]
    · have hcn : _ = Value.int .i64 8 := hcnt
      clear hcnt
      subst hcn
      go_wp2
      go_ret
      exact ⟨rfl, rfl⟩

end Go.Proofs.YtdmioipdmdmkhaaDoor
