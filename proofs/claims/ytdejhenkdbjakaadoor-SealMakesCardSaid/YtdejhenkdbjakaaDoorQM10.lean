/- W1 -/
import Derived.Test.YtdejhenkdbjakaaDoorChecked
import Derived.Test.YtdejhenkdbjakaaDoorQM09
set_option linter.unusedVariables false
set_option linter.unusedSimpArgs false
set_option maxRecDepth 100000
set_option maxHeartbeats 4000000
namespace Go.Proofs.YtdejhenkdbjakaaDoor
open Go Go.RowKit
theorem negu64 {n : Nat} (h1 : 1 ≤ n) (h2 : n ≤ 31) : IntKind.u64.wrap (-(n : Int)) = ((18446744073709551616 - n : Nat) : Int) := by
  rw [show IntKind.u64.wrap (-(n : Int)) = (-(n : Int)) % 18446744073709551616 by first | exact IntKind.wrap_u64 | rfl]; omega
theorem and31 {n : Nat} (h1 : 1 ≤ n) (h2 : n ≤ 31) : intRes .and .u64 ((18446744073709551616 - n : Nat) : Int) ((31 : Nat) : Int) = some (.int .u64 (32 - n : Nat)) := by
  have h : (BitVec.ofInt 64 ((18446744073709551616 - n : Nat) : Int) &&& BitVec.ofInt 64 ((31 : Nat) : Int)).toNat = 32 - n := by
    rw [BitVec.toNat_and, bv64 _ (by omega), bv64 _ (by omega)]
    have e : (31 : Nat) = 2 ^ 5 - 1 := rfl
    rw [e, Nat.and_two_pow_sub_one_eq_mod]
    omega
  show some (Value.int .u64 (IntKind.u64.wrap ((BitVec.ofInt 64 ((18446744073709551616 - n : Nat) : Int) &&& BitVec.ofInt 64 ((31 : Nat) : Int)).toNat : Int))) = _
  rw [h, wru64 (by omega)]
theorem sub32n {n : Nat} (h2 : n ≤ 31) : intRes .sub .u64 32 ((32 - n : Nat) : Int) = some (.int .u64 (n : Nat)) := by
  have h : (32 : Int) - ((32 - n : Nat) : Int) = ((n : Nat) : Int) := by omega
  simp only [intRes]
  rw [h, wru64 (by omega)]

theorem rotl_any (x n : Nat) (hx : x < 4294967296) (h1 : 1 ≤ n) (h2 : n ≤ 31) (w : World) : Calls Tryd.prog 126 #[.int .u32 (x : Nat), .int .i64 (-((n : Nat) : Int))] w fun e w' => e = .returned (.int .u32 (rotr x n : Nat)) ∧ Kept [] w w' := by
  refine C_enter Tryd.func126 rfl 17 Tryd.ntmps126 (Nat.le_of_ble_eq_true rfl) (fun a F => ?_)
  have H := Hp.start [] w
  replace F : Fm 17 [] [(0, nw x), (1, .int .i64 (-((n : Nat) : Int)))] a := F.weak _ (subL_of kr);refine C_seqK fun K1 hK1 => C_region ?_;refine T_k F H (nw 0) ?_;clear F; intro a F;refine wpList_nil (hK1 _ _ ?_);clear hK1;refine C_seqK fun K2 hK2 => C_region ?_;refine T_k F H (.int .i64 (-((n : Nat) : Int))) ?_;clear F; intro a F;refine T_val F H kr (nu (18446744073709551616 - n)) (fun w _ => R_conv rfl (k0 := .i64) kr kr (k := .i64) (a := (-((n : Nat) : Int))) kr (negu64 h1 h2) w) ?_;clear F; intro a F;refine T_val F H kr (nu (32 - n)) (fun w _ => R_bin rfl (k := .u64) (a := ((18446744073709551616 - n) : Nat)) (b := (31 : Nat)) kr kr (and31 h1 h2) w) ?_;clear F; intro a F;refine T_k F H (nu (32 - n)) ?_;clear F; intro a F;refine wpList_nil (hK2 _ _ ?_);clear hK2;refine C_seqK fun K3 hK3 => C_region ?_;refine T_k F H (nw x) ?_;clear F; intro a F;refine T_k F H (nu (32 - n)) ?_;clear F; intro a F;refine T_val F H kr (nw (((x) <<< ((32 - n))) % 4294967296)) (fun w _ => R_shl rfl (k := .u32) (yk := .u64) (a := (x : Nat)) (b := ((32 - n) : Nat)) kr kr (Int.natCast_nonneg _) (shl32_val (by omega)) w) ?_;clear F; intro a F;refine T_k F H (nw x) ?_;clear F; intro a F;refine T_k F H (nu (32 - n)) ?_;clear F; intro a F;refine T_val F H kr (nu n) (fun w _ => R_bin rfl (k := .u64) (a := 32) (b := ((32 - n) : Nat)) kr kr (sub32n h2) w) ?_;clear F; intro a F;refine T_val F H kr (nw ((x) >>> (n))) (fun w _ => R_shr rfl (k := .u32) (yk := .u64) (a := (x : Nat)) (b := (n : Nat)) kr kr (Int.natCast_nonneg _) (shr_val (k := .u32) (by show _ ≤ 32; omega)) w) ?_;clear F; intro a F;refine T_val F H kr (nw (((((x) <<< ((32 - n))) % 4294967296)) ||| (((x) >>> (n))))) (fun w _ => R_bin rfl (k := .u32) (a := ((((x) <<< ((32 - n))) % 4294967296) : Nat)) (b := (((x) >>> (n)) : Nat)) kr kr (i_or32 (a := (((x) <<< ((32 - n))) % 4294967296)) (b := ((x) >>> (n))) (Nat.mod_lt _ (by decide)) (shr32 hx)) w) ?_;clear F; intro a F;refine T_k F H (nw (((((x) <<< ((32 - n))) % 4294967296)) ||| (((x) >>> (n))))) ?_;clear F; intro a F;refine wpList_nil (hK3 _ _ ?_);clear hK3;refine wp_ret ?_
  exact C_ret F H (rs := [.tmp 4]) rfl (vs := [nw (((((x) <<< ((32 - n))) % 4294967296)) ||| (((x) >>> (n))))]) (.tmp rfl .nil) (nw (((((x) <<< ((32 - n))) % 4294967296)) ||| (((x) >>> (n))))) rfl ⟨rfl, H.kept⟩

theorem right_any (x n : Nat) (hx : x < 4294967296) (h1 : 1 ≤ n) (h2 : n ≤ 31) (w : World) : Calls Tryd.prog 110 #[.int .u32 (x : Nat), .int .i64 (n : Nat)] w fun e w' => e = .returned (.int .u32 (rotr x n : Nat)) ∧ Kept [] w w' := by
  refine C_enter Tryd.func110 rfl 9 Tryd.ntmps110 (Nat.le_of_ble_eq_true rfl) (fun a F => ?_)
  have H := Hp.start [] w
  replace F : Fm 9 [] [(0, nw x), (1, ni n)] a := F.weak _ (subL_of kr);refine C_seqK fun K1 hK1 => C_region ?_;refine T_k F H (nw 0) ?_;clear F; intro a F;refine wpList_nil (hK1 _ _ ?_);clear hK1;refine C_seqK fun K2 hK2 => C_region ?_;refine T_k F H (nw x) ?_;clear F; intro a F;refine T_k F H (ni n) ?_;clear F; intro a F;refine T_val F H kr (.int .i64 (-((n : Nat) : Int))) (fun w _ => R_neg64 rfl (a := n) kr (by omega) w) ?_;clear F; intro a F;refine T_call F H kr 126 #[nw x, .int .i64 (-((n : Nat) : Int))] (nw (rotr x n)) (fun w => kr) (rotl_any x n hx h1 h2 _) ?_;clear F H; intro a v F H;refine T_k F H (nw (rotr x n)) ?_;clear F; intro a F;refine wpList_nil (hK2 _ _ ?_);clear hK2;refine wp_ret ?_
  exact C_ret F H (rs := [.tmp 4]) rfl (vs := [nw (rotr x n)]) (.tmp rfl .nil) (nw (rotr x n)) rfl ⟨rfl, H.kept⟩

theorem low_any (n sz : Nat) (h1 : 1 ≤ sz) (h2 : sz ≤ 8) (w : World) : Calls Tryd.prog 79 #[.int .u64 (n : Nat), .int .i64 (sz : Nat)] w (MadeS [] 5 1 sz (oct (lowL n sz)) w) := by
  refine C_enter Tryd.func79 rfl 29 Tryd.ntmps79 (Nat.le_of_ble_eq_true rfl) (fun a F => ?_)
  have H := Hp.start [] w
  replace F : Fm 29 [] [(0, nu n), (1, ni sz)] a := F.weak _ (subL_of kr);refine C_seqK fun K1 hK1 => C_region ?_;refine T_k F H (.slice none 0 0) ?_;clear F; intro a F;refine wpList_nil (hK1 _ _ ?_);clear hK1;refine C_seqK (fun K2 hK2 => ?_);refine C_seqK fun K3 hK3 => C_region ?_;refine T_k F H (ni sz) ?_;clear F; intro a F;refine T_val F H kr (.bool false) (fun w _ => R_bin rfl (k := .i64) (a := (sz : Nat)) (b := (1 : Nat)) kr kr (i_nlt (by omega)) w) ?_;clear F; intro a F;refine T_k F H (.bool false) ?_;clear F; intro a F;refine T_k F H (ni sz) ?_;clear F; intro a F;refine T_val F H kr (.bool false) (fun w _ => R_bin rfl (k := .i64) (a := (sz : Nat)) (b := (8 : Nat)) kr kr (i_ngtn (by omega)) w) ?_;clear F; intro a F;refine T_k F H (.bool false) ?_;clear F; intro a F;refine wpList_nil (hK3 _ _ ?_);clear hK3;refine C_if F false rfl rfl ?_;refine wp_skip ?_;refine hK2 _ _ ?_;clear hK2;refine C_seqK fun K4 hK4 => C_region ?_;refine T_k F H (ni sz) ?_;clear F; intro a F;refine T_new F H kr (fun ad => sc ad 0 (sz) (sz)) (ce (sl (ints .u8 (List.replicate (sz) 0)) []) 5) (fun w => R_makeI rfl Tryd.underlying54 (m := sz) (k := .i64) (k' := .i64) kr kr .u8 (bytes := 1) kr kr (by omega) (by simp only [maxLen]; omega) w) ?_;clear F H; intro aq5 a v F H;refine T_k F H (sc aq5 0 sz sz) ?_;clear F; intro a F;refine wpList_nil ?_
  rw [← lowP_zero n] at H
  replace H : Hp [] w [bk aq5 (sl (ints .u8 (lowP n sz 0)) []) 5] v := H;refine hK4 _ _ ?_;clear hK4;refine C_seqK (fun K6 hK6 => ?_);refine C_seqK fun K7 hK7 => C_region ?_;refine T_k F H (ni sz) ?_;clear F; intro a F;refine T_k F H (ni 0) ?_;clear F; intro a F;refine wpList_nil ?_;replace F : Fm 29 [] [(16, ni 0), (15, ni sz), (0, nu n), (5, sc aq5 0 sz sz)] a := F.weak _ (subL_of kr);refine hK7 _ _ ?_;clear hK7;refine wp_block ?_;refine C_loop (fun m a v => ∃ k, k + m = sz ∧ Fm 29 [] [(16, ni k), (15, ni sz), (0, nu n), (5, sc aq5 0 sz sz)] a ∧ Hp [] w [bk aq5 (sl (ints .u8 (lowP n sz (k))) []) 5] v) (sz) ⟨0, Nat.zero_add _, F, H⟩ ?_;clear F H;intro m a v ⟨k, hk, F, H⟩
  rcases m with _ | m
  rotate_left
  · skip
    refine C_seqK fun K8 hK8 => C_region ?_;refine T_val F H kr (.bool true) (fun w _ => R_bin rfl (k := .i64) (a := (k : Nat)) (b := (sz : Nat)) kr kr (i_lt (by omega)) w) ?_;clear F; intro a F;refine wpList_nil (hK8 _ _ ?_);clear hK8;refine C_seqK (fun K9 hK9 => ?_);refine C_if F true rfl rfl ?_;refine wp_skip ?_;refine hK9 _ _ ?_;clear hK9;refine C_seqK (fun K10 hK10 => ?_);refine wp_block ?_;refine C_seqK fun K11 hK11 => C_region ?_;refine T_k F H (ni k) ?_;clear F; intro a F;refine T_k F H (ni k) ?_;clear F; intro a F;refine wpList_nil (hK11 _ _ ?_);clear hK11;refine C_region ?_;refine T_k F H (sc aq5 0 sz sz) ?_;clear F; intro a F;refine T_k F H (ni k) ?_;clear F; intro a F;refine T_k F H (nu n) ?_;clear F; intro a F;refine T_k F H (ni k) ?_;clear F; intro a F;refine T_val F H kr (ni (8 * k)) (fun w _ => R_bin rfl (k := .i64) (a := (8 : Nat)) (b := (k : Nat)) kr kr (i_muln64 (a := 8) (b := k) (by omega)) w) ?_;clear F; intro a F;refine T_val F H kr (nu ((n) >>> ((8 * k)))) (fun w _ => R_shr rfl (k := .u64) (yk := .i64) (a := (n : Nat)) (b := ((8 * k) : Nat)) kr kr (Int.natCast_nonneg _) (shr_val (k := .u64) (by show _ ≤ 64; omega)) w) ?_;clear F; intro a F;refine T_val F H kr (nb ((n >>> (8 * k)) % 256)) (fun w _ => R_conv rfl (k0 := .u64) kr kr (k := .u64) (a := ((n >>> (8 * k)) : Nat)) kr (wr8m (a := n >>> (8 * k))) w) ?_;clear F; intro a F;refine T_val F H kr (pt aq5 (0 + (k) * 1)) (fun w _ => R_indexS (k := .i64) (g := aq5) (off := 0) (len := sz) (cap := sz) rfl Tryd.underlying54 kr (k) kr (by omega) (sz := 1) kr w) ?_;clear F; intro a F;refine T_set F H kr rfl 0 rfl _ (S_cell 0 rfl 5 (.tmp 26) (.tmp 25) rfl (0 + k * 1) kr (nb ((n >>> (8 * k)) % 256)) kr rfl (by rw [sl_size, ints_len, lowP_len]; simp; omega) _ Tryd.underlying5 rfl kr) [bk aq5 (sl (ints .u8 (lowP n sz (k + 1))) []) 5] (by rw [show 0 + k * 1 = k by omega, sl_set (by rw [ints_len, lowP_len]; omega), ints_set, lowP_set _ _ _ (by omega)]; rfl) ?_;clear F H; intro a v F H;refine wpList_nil (hK10 _ _ ?_);clear hK10;refine C_region ?_;refine T_val F H kr (ni (k + 1)) (fun w _ => R_bin rfl (k := .i64) (a := (k : Nat)) (b := (1 : Nat)) kr kr (i_addn64 (a := k) (b := 1) (by omega)) w) ?_;clear F; intro a F;refine T_k F H (ni (k + 1)) ?_;clear F; intro a F;refine wpList_nil ?_;replace F : Fm 29 [] [(16, ni (k + 1)), (15, ni sz), (0, nu n), (5, sc aq5 0 sz sz)] a := F.weak _ (subL_of kr);replace H : Hp [] w [bk aq5 (sl (ints .u8 (lowP n sz (k + 1))) []) 5] v := H
    exact ⟨m, Nat.lt_succ_self m, k + 1, by omega, F, H⟩
  have hkt : k = sz := by omega
  try rw [hkt] at F
  try rw [hkt] at H
  clear hk;refine C_seqK fun K12 hK12 => C_region ?_;refine T_val F H kr (.bool false) (fun w _ => R_bin rfl (k := .i64) (a := (sz : Nat)) (b := (sz : Nat)) kr kr (i_nlt (by omega)) w) ?_;clear F; intro a F;refine wpList_nil (hK12 _ _ ?_);clear hK12;refine C_seqK (fun K13 hK13 => ?_);refine C_if F false rfl rfl ?_;refine wp_exit ?_;refine hK6 _ _ ?_;clear hK6;refine C_seqK (fun K14 hK14 => ?_)
  rw [lowP_all] at H
  refine C_region ?_;refine T_k F H (sc aq5 0 sz sz) ?_;clear F; intro a F;refine T_k F H (sc aq5 0 sz sz) ?_;clear F; intro a F;refine wpList_nil (hK14 _ _ ?_);clear hK14;refine wp_ret ?_
  exact C_ret F H (rs := [.tmp 4]) rfl (vs := [sc aq5 0 sz sz]) (.tmp rfl .nil) (sc aq5 0 sz sz) rfl (made_ret H (k := 0) rfl (own_all (by rw [ints_len, lowL_len]) (by simp only [maxLen]; omega)))

end Go.Proofs.YtdejhenkdbjakaaDoor
