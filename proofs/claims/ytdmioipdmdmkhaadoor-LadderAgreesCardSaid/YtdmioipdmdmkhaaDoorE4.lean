/- Choose of package field. -/
import Derived.Test.YtdmioipdmdmkhaaDoorE0
import Derived.Laws.Bits64
import Derived.Laws.Bits64b
set_option linter.unusedVariables false
set_option linter.unusedSimpArgs false
namespace Go.Proofs.YtdmioipdmdmkhaaDoor
open Go.RowKit

abbrev cArr (f : Nat → Nat) : Array Value := #[.int .u64 (f 0 : Nat), .int .u64 (f 1 : Nat), .int .u64 (f 2 : Nat), .int .u64 (f 3 : Nat), .int .u64 (f 4 : Nat)]
theorem cArr_at (f : Nat → Nat) {i : Nat} (h : i < 5) : (cArr f)[i]? = some (.int .u64 (f i : Nat)) := by
  have h' : i = 0 ∨ i = 1 ∨ i = 2 ∨ i = 3 ∨ i = 4 := by omega
  rcases h' with rfl | rfl | rfl | rfl | rfl <;> rfl
theorem cArr_set (f : Nat → Nat) {i : Nat} (h : i < 5) (v : Nat) : (cArr f).setIfInBounds i (.int .u64 (v : Nat)) = cArr (upd f i v) := by
  have h' : i = 0 ∨ i = 1 ∨ i = 2 ∨ i = 3 ∨ i = 4 := by omega
  rcases h' with rfl | rfl | rfl | rfl | rfl <;> rfl
theorem cArr_one (f : Nat → Nat) : (cArr f).all (·.oneCell') = true := by kernel_rfl
theorem cArr_congr {f g : Nat → Nat} (h : ∀ i, i < 5 → f i = g i) : cArr f = cArr g := by
  unfold cArr; rw [h 0 (by omega), h 1 (by omega), h 2 (by omega), h 3 (by omega), h 4 (by omega)]

/-- Five limbs as a function. -/
def sel (a0 a1 a2 a3 a4 i : Nat) : Nat := if i = 0 then a0 else if i = 1 then a1 else if i = 2 then a2 else if i = 3 then a3 else a4
theorem sel_arr (a0 a1 a2 a3 a4 : Nat) : cArr (sel a0 a1 a2 a3 a4) = c5 a0 a1 a2 a3 a4 := rfl
/-- The first m of F, the others of G. -/
def blend (F G : Nat → Nat) (m i : Nat) : Nat := if i < m then F i else G i
theorem blend_upd (F G : Nat → Nat) (m : Nat) : upd (blend F G m) m (F m) = blend F G (m + 1) := by
  funext i
  unfold upd blend
  by_cases e : i = m
  · subst e; rw [if_pos rfl, if_pos (by omega)]
  · rw [if_neg e]
    by_cases h : i < m
    · rw [if_pos h, if_pos (by omega)]
    · rw [if_neg h, if_neg (by omega)]
theorem blend_at (F G : Nat → Nat) (m : Nat) : blend F G m m = G m := if_neg (by omega)
theorem and_ones (a : Nat) (h : a < 18446744073709551616) : bits .and .u64 18446744073709551615 (a : Int) = (a : Int) := by
  have := bits_and_u64_nat 18446744073709551615 a (by omega) h
  rw [Nat.and_comm] at this
  have e : a &&& 18446744073709551615 = a % 18446744073709551616 := Nat.and_two_pow_sub_one_eq_mod a 64
  rw [e, Nat.mod_eq_of_lt h] at this
  exact this
theorem and_none (a : Nat) (h : a < 18446744073709551616) : bits .and .u64 0 (a : Int) = 0 := by
  have := bits_and_u64_nat 0 a (by omega) h
  rw [Nat.zero_and] at this
  exact this
theorem xor_lt64 {a b : Nat} (ha : a < 18446744073709551616) (hb : b < 18446744073709551616) : a ^^^ b < 18446744073709551616 := Nat.xor_lt_two_pow (n := 64) ha hb
theorem xor_back (a b : Nat) (ha : a < 18446744073709551616) (hb : b < 18446744073709551616) : bits .xor .u64 (b : Int) ((a ^^^ b : Nat) : Int) = (a : Int) := by
  rw [bits_xor_u64_nat b (a ^^^ b) hb (xor_lt64 ha hb)]
  rw [Nat.xor_comm a b, ← Nat.xor_assoc, Nat.xor_self, Nat.zero_xor]
theorem xor_none (b : Nat) (hb : b < 18446744073709551616) : bits .xor .u64 (b : Int) 0 = (b : Int) := by
  have := bits_xor_u64_nat b 0 hb (by omega)
  rw [Nat.xor_zero] at this
  exact this

set_option maxRecDepth 100000 in
set_option maxHeartbeats 8000000 in
theorem choose_fn (t : Bool) (F G : Nat → Nat) (hF : ∀ i, i < 5 → F i < 18446744073709551616) (hG : ∀ i, i < 5 → G i < 18446744073709551616) (w : World) :
    Calls Tryd.prog 37 #[.bool t, .agg (cArr F), .agg (cArr G)] w fun r w' => r = .returned (.agg (cArr (if t then F else G))) ∧ Below w.heap.size w w' := by
  have HF := Lib.hid hF; have HG := Lib.hid hG
  clear hF hG
  obtain ⟨H, hH⟩ : ∃ H : Nat → Nat, H = if t then F else G := ⟨_, rfl⟩
  have HH := Lib.hid hH
  rw [← hH]
  clear hH
  obtain ⟨B1, hB1⟩ : ∃ B, w.heap.size + 1 = B := ⟨_, rfl⟩
  obtain ⟨B2, hB2⟩ : ∃ B, B1 + 1 = B := ⟨_, rfl⟩
  have HS := Lib.hid (start_rk w (cArr F) (cArr (blend H G 0)) (cArr (fun _ => 0)) hB1 hB2 33 33 33)
  have HB1 := Lib.hid hB1; have HB2 := Lib.hid hB2
  clear hB1 hB2
  cases t
  all_goals
    have em : IntKind.u64.wrap (-1) = 18446744073709551615 := by rw [IntKind.wrap_u64]; rfl
    go_enter Tryd.func37, Tryd.ntmps37
    go_wp2
    try simp only [HB1.out, HB2.out]
    go_loopw [8, 12] (fun v8 v12 wr => ∃ i, v12 = .int .i64 (i : Nat) ∧ i ≤ 5 ∧
      wr.heap[w.heap.size]? = some (.cells (cArr F) 33 (0, 0)) ∧ wr.heap[B1]? = some (.cells (cArr (blend H G i)) 33 (0, 0)) ∧ wr.heap[B2]? = some (.cells (cArr (fun _ => 0)) 33 (0, 0)) ∧ Below w.heap.size w wr) (fun v8 v12 _ => 5 - (intOf v12).toNat)
    case atStart => exact ⟨0, rfl, by omega, HS.out.1, HS.out.2.1, HS.out.2.2.1, HS.out.2.2.2⟩
    case round =>
      obtain ⟨i, hcnt, hi, h0, h1, h2, hb⟩ := hrel
      have H0 := Lib.hid h0; have H1 := Lib.hid h1; have H2 := Lib.hid h2; have HB := Lib.hid hb
      have h01 : w.heap.size < B1 := by have := HB1.out; omega
      have h12 : B1 < B2 := by have := HB2.out; omega
      by_cases hlt : i < 5
      · subst hcnt
        have x0 : wr.cell? ⟨w.heap.size, i, none⟩ = some (.int .u64 (F i : Nat)) := cell_of_blk h0 i (cArr_at _ (by omega))
        have y0 : wr.cell? ⟨B1, i, none⟩ = some (.int .u64 (G i : Nat)) := by have := cell_of_blk h1 i (cArr_at (blend H G i) (show i < 5 by omega)); rwa [blend_at] at this
        have yf := frozen_of_blk h1 i
        have la := HF.out i hlt
        have lb := HG.out i hlt
        first | (have HE := Lib.hid (show H i = F i from by rw [HH.out]; rfl)) | (have HE := Lib.hid (show H i = G i from by rw [HH.out]; rfl))
        clear h0 h1 h2 hb
        generalize F i = a at *
        generalize G i = b at *
        have bj0 : 0 ≤ (i : Int) := by omega
        have bj1 : (i : Int) < 5 := by omega
        have e1 := bits_xor_u64_nat a b la lb
        have lc := xor_lt64 la lb
        have e2 := and_ones _ lc
        have e2' := and_none _ lc
        have e3 := xor_back a b la lb
        have e3' := xor_none b lb
        generalize a ^^^ b = c at *
        go_wp2
        go_region_law (fail)
        all_goals
          clear e1 e2 e2' e3 e3' bj0 bj1
          go_wp2
          go_roundw
          case rel =>
            have HG2 := set_blk1 H1.out i (.int .u64 ((H i : Nat) : Int)) (cArr_set _ (by omega) _)
            rw [blend_upd, HE.out] at HG2
            exact ⟨i + 1, by go_num, by omega, set_far H0.out _ _ (by omega), HG2, set_far H2.out _ _ (by omega), HB.out.drew.setCell (by simp only []; omega) _⟩
          case measure => simp [intOf]; omega
      · obtain rfl : i = 5 := by omega
        have hcn : _ = Value.int .i64 5 := hcnt
        clear hcnt
        subst hcn
        have HC := Lib.hid (show cArr (blend H G 5) = cArr H from cArr_congr fun i hi => if_pos hi)
        clear h0 h1 h2 hb
        go_wp2_with (first | (refine wpList_load_row rfl 33 (.tmp 5) rfl B1 rfl 33 (cArr (blend H G 5)) (0, 0) _ H1.out Tryd.underlying33 rfl info33 ?_) | (refine wpList_store_row rfl 33 (.tmp 6) (.tmp 34) rfl B2 (cArr (blend H G 5)) rfl rfl 33 (cArr (fun _ => 0)) H2.out info33 rfl (cArr_one _) ?_))
        try simp only [Exit.inBlock, Exit.then]
        refine bodyPost_ret (results_cell_row rfl _ _ B2 33 (cArr (blend H G 5)) (0, 0) _ rfl (heap_setRow H2.out _) Tryd.underlying33 rfl info33) rfl ?_
        exact ⟨by rw [HC.out], below_setRow HB.out (by omega) _⟩
theorem choose_any (t : Bool) {v u : Value} {x y : Nat} (hv : El v x) (hu : El u y) : Det 37 #[.bool t, v, u] (if t then v else u) := by
  intro w
  obtain ⟨a0, a1, a2, a3, a4, rfl, ha0, ha1, ha2, ha3, ha4, _⟩ := hv
  obtain ⟨b0, b1, b2, b3, b4, rfl, hb0, hb1, hb2, hb3, hb4, _⟩ := hu
  have h := choose_fn t (sel a0 a1 a2 a3 a4) (sel b0 b1 b2 b3 b4) (fun i hi => by unfold sel; repeat (first | omega | split)) (fun i hi => by unfold sel; repeat (first | omega | split)) w
  refine h.mono fun e w' ⟨h1, h2⟩ => ⟨h1.trans ?_, h2⟩
  cases t <;> rfl

end Go.Proofs.YtdmioipdmdmkhaaDoor
