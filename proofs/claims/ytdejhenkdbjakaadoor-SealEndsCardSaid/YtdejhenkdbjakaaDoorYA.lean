/- Walks: quarter rounds. -/
import Derived.Test.YtdejhenkdbjakaaDoorW5
import Derived.Test.YtdejhenkdbjakaaDoorZ0
set_option linter.unusedVariables false
set_option linter.unusedSimpArgs false
namespace Go.Proofs.YtdejhenkdbjakaaDoor
open Go Go.RowKit
theorem rl_cv {n : Nat} (h2 : n ≤ 31) : IntKind.u64.wrap ((n : Nat) : Int) = ((n : Nat) : Int) := wru64 (by omega)
theorem rl_and {n : Nat} (h2 : n ≤ 31) : intRes .and .u64 ((n : Nat) : Int) ((31 : Nat) : Int) = some (.int .u64 ((n : Nat) : Int)) := by
  have h : (BitVec.ofInt 64 ((n : Nat) : Int) &&& BitVec.ofInt 64 ((31 : Nat) : Int)).toNat = n := by
    rw [BitVec.toNat_and, bv64 _ (by omega), bv64 _ (by omega)]
    have e : (31 : Nat) = 2 ^ 5 - 1 := rfl
    rw [e, Nat.and_two_pow_sub_one_eq_mod]
    omega
  show some (Value.int .u64 (IntKind.u64.wrap ((BitVec.ofInt 64 ((n : Nat) : Int) &&& BitVec.ofInt 64 ((31 : Nat) : Int)).toNat : Int))) = _
  rw [h, wru64 (by omega)]
theorem rl_sub {n : Nat} (h2 : n ≤ 31) : intRes .sub .u64 ((32 : Nat) : Int) ((n : Nat) : Int) = some (.int .u64 ((32 - n : Nat) : Int)) := by
  have h : ((32 : Nat) : Int) - ((n : Nat) : Int) = ((32 - n : Nat) : Int) := by omega
  simp only [intRes]
  rw [h, wru64 (by omega)]
theorem i_and15 {a : Nat} (h : a < 16) : intRes .and .i64 ((a : Nat) : Int) ((15 : Nat) : Int) = some (.int .i64 ((a : Nat) : Int)) := by
  have h2 : (BitVec.ofInt 64 ((a : Nat) : Int) &&& BitVec.ofInt 64 ((15 : Nat) : Int)).toNat = a := by
    rw [BitVec.toNat_and, bv64 _ (by omega), bv64 _ (by omega)]
    have e : (15 : Nat) = 2 ^ 4 - 1 := rfl
    rw [e, Nat.and_two_pow_sub_one_eq_mod]
    omega
  show some (Value.int .i64 (IntKind.i64.wrap ((BitVec.ofInt 64 ((a : Nat) : Int) &&& BitVec.ofInt 64 ((15 : Nat) : Int)).toNat : Int))) = _
  rw [h2, wrn64 (by omega)]

set_option maxRecDepth 100000 in
set_option maxHeartbeats 4000000 in
theorem rolp_any (x n : Nat) (hx : x < 4294967296) (h1 : 1 ≤ n) (h2 : n ≤ 31) (w : World) : Calls Tryd.prog 126 #[.int .u32 ((x : Nat) : Int), .int .i64 ((n : Nat) : Int)] w fun e w' => e = .returned (.int .u32 ((rol x n : Nat) : Int)) ∧ Kept [] w w' := by
  refine C_enter Tryd.func126 rfl 17 Tryd.ntmps126 (Nat.le_of_ble_eq_true rfl) (fun a F => ?_)
  have H := Hp.start [] w
  replace F : Fm 17 [] [(0, nw x), (1, ni n)] a := F.weak _ (subL_of kr)
  refine C_seqK (fun K1 hK1 => ?_)
  refine C_region ?_
  refine T_k F H (nw 0) ?_
  clear F; intro a F
  refine wpList_nil ?_
  refine hK1 _ _ ?_
  clear hK1
  try clear K1
  refine C_seqK (fun K2 hK2 => ?_)
  refine C_region ?_
  refine T_k F H (ni n) ?_
  clear F; intro a F
  refine T_val F H kr (nu n) (fun w _ => R_conv (x := (.tmp 6)) rfl (k0 := .i64) kr kr (k := .i64) (a := ((n : Nat) : Int)) kr (wru64 (a := n) (by omega)) w) ?_
  clear F; intro a F
  refine T_val F H kr (nu n) (fun w _ => R_bin (x := (.tmp 7)) (y := (.const (.int .u64 31))) rfl (k := .u64) (a := ((n : Nat) : Int)) (b := ((31 : Nat) : Int)) kr kr (rl_and h2) w) ?_
  clear F; intro a F
  refine T_k F H (nu n) ?_
  clear F; intro a F
  refine wpList_nil ?_
  refine hK2 _ _ ?_
  clear hK2
  try clear K2
  refine C_seqK (fun K3 hK3 => ?_)
  refine C_region ?_
  refine T_k F H (nw x) ?_
  clear F; intro a F
  refine T_k F H (nu n) ?_
  clear F; intro a F
  refine T_val F H kr (nw (((x) <<< (n)) % 4294967296)) (fun w _ => R_shl (x := (.tmp 9)) (y := (.tmp 10)) rfl (k := .u32) (yk := .u64) (a := ((x : Nat) : Int)) (b := ((n : Nat) : Int)) kr kr (Int.natCast_nonneg _) (shl32_val (by omega)) w) ?_
  clear F; intro a F
  refine T_k F H (nw x) ?_
  clear F; intro a F
  refine T_k F H (nu n) ?_
  clear F; intro a F
  refine T_val F H kr (nu (32 - n)) (fun w _ => R_bin (x := (.const (.int .u64 32))) (y := (.tmp 13)) rfl (k := .u64) (a := ((32 : Nat) : Int)) (b := ((n : Nat) : Int)) kr kr (rl_sub h2) w) ?_
  clear F; intro a F
  refine T_val F H kr (nw ((x) >>> ((32 - n)))) (fun w _ => R_shr (x := (.tmp 12)) (y := (.tmp 14)) rfl (k := .u32) (yk := .u64) (a := ((x : Nat) : Int)) (b := (((32 - n) : Nat) : Int)) kr kr (Int.natCast_nonneg _) (shr_val (k := .u32) (by show _ ≤ 32; omega)) w) ?_
  clear F; intro a F
  refine T_val F H kr (nw (((((x) <<< (n)) % 4294967296)) ||| (((x) >>> ((32 - n)))))) (fun w _ => R_bin (x := (.tmp 11)) (y := (.tmp 15)) rfl (k := .u32) (a := (((((x) <<< (n)) % 4294967296) : Nat) : Int)) (b := ((((x) >>> ((32 - n))) : Nat) : Int)) kr kr (i_or32 (a := (((x) <<< (n)) % 4294967296)) (b := ((x) >>> ((32 - n)))) (Nat.mod_lt _ (by decide)) (shr32 hx)) w) ?_
  clear F; intro a F
  refine T_k F H (nw (((((x) <<< (n)) % 4294967296)) ||| (((x) >>> ((32 - n)))))) ?_
  clear F; intro a F
  refine wpList_nil ?_
  refine hK3 _ _ ?_
  clear hK3
  try clear K3
  refine wp_ret ?_
  exact C_ret F H (rs := [.tmp 4]) rfl (vs := [nw (((((x) <<< (n)) % 4294967296)) ||| (((x) >>> ((32 - n)))))]) (.tmp rfl .nil) (nw (((((x) <<< (n)) % 4294967296)) ||| (((x) >>> ((32 - n)))))) rfl ⟨rfl, H.kept⟩

set_option maxRecDepth 100000 in
set_option maxHeartbeats 4000000 in
theorem left_any (x n : Nat) (hx : x < 4294967296) (h1 : 1 ≤ n) (h2 : n ≤ 31) (w : World) : Calls Tryd.prog 124 #[.int .u32 ((x : Nat) : Int), .int .i64 ((n : Nat) : Int)] w fun e w' => e = .returned (.int .u32 ((rol x n : Nat) : Int)) ∧ Kept [] w w' := by
  refine C_enter Tryd.func124 rfl 13 Tryd.ntmps124 (Nat.le_of_ble_eq_true rfl) (fun a F => ?_)
  have H := Hp.start [] w
  replace F : Fm 13 [] [(0, nw x), (1, ni n)] a := F.weak _ (subL_of kr)
  refine C_seqK (fun K1 hK1 => ?_)
  refine C_region ?_
  refine T_k F H (nw 0) ?_
  clear F; intro a F
  refine wpList_nil ?_
  refine hK1 _ _ ?_
  clear hK1
  try clear K1
  refine C_seqK (fun K2 hK2 => ?_)
  refine E_region F H (fun β => [(5, nw x), (6, ni n), (7, nw (((x) <<< (n)) % 4294967296)), (8, nw x), (9, ni n), (10, ni (32 - n)), (11, nw ((x) >>> ((32 - n)))), (12, nw (((((x) <<< (n)) % 4294967296)) ||| (((x) >>> ((32 - n)))))), (4, nw (((((x) <<< (n)) % 4294967296)) ||| (((x) >>> ((32 - n))))))]) [5, 6, 7, 8, 9, 10, 11, 12, 4] [] [] [] 2 [] kr kr kr (fun β => rfl) trivial ⟨?_, ?_, ?_, ?_, ?_, ?_, ?_, ?_, ?_, trivial⟩ ?_
  · exact E_k 13 (fun β => nw x) 5 2
  · exact E_k 13 (fun β => ni n) 6 2
  · exact E_v 13 (fun β => nw (((x) <<< (n)) % 4294967296)) 7 2 [] (fun β w hk hl hq => R_shl (x := (.tmp 5)) (y := (.tmp 6)) rfl (k := .u32) (yk := .i64) (a := ((x : Nat) : Int)) (b := ((n : Nat) : Int)) kr kr (Int.natCast_nonneg _) (shl32_val (by omega)) w)
  · exact E_k 13 (fun β => nw x) 8 2
  · exact E_k 13 (fun β => ni n) 9 2
  · exact E_v 13 (fun β => ni (32 - n)) 10 2 [] (fun β w hk hl hq => R_bin (x := (.const (.int .i64 32))) (y := (.tmp 9)) rfl (k := .i64) (a := ((32 : Nat) : Int)) (b := ((n : Nat) : Int)) kr kr (i_subn64 (a := 32) (b := n) (by omega) (by omega)) w)
  · exact E_v 13 (fun β => nw ((x) >>> ((32 - n)))) 11 2 [] (fun β w hk hl hq => R_shr (x := (.tmp 8)) (y := (.tmp 10)) rfl (k := .u32) (yk := .i64) (a := ((x : Nat) : Int)) (b := (((32 - n) : Nat) : Int)) kr kr (Int.natCast_nonneg _) (shr_val (k := .u32) (by show _ ≤ 32; omega)) w)
  · exact E_v 13 (fun β => nw (((((x) <<< (n)) % 4294967296)) ||| (((x) >>> ((32 - n)))))) 12 2 [] (fun β w hk hl hq => R_bin (x := (.tmp 7)) (y := (.tmp 11)) rfl (k := .u32) (a := (((((x) <<< (n)) % 4294967296) : Nat) : Int)) (b := ((((x) >>> ((32 - n))) : Nat) : Int)) kr kr (i_or32 (a := (((x) <<< (n)) % 4294967296)) (b := ((x) >>> ((32 - n)))) (Nat.mod_lt _ (by decide)) (shr32 hx)) w)
  · exact E_k 13 (fun β => nw (((((x) <<< (n)) % 4294967296)) ||| (((x) >>> ((32 - n)))))) 4 2
  clear F H; intro β a v Q F H
  replace H : Hp [] w [] v := H
  replace F : Fm 13 [] [(4, nw (((((x) <<< (n)) % 4294967296)) ||| (((x) >>> ((32 - n)))))), (12, nw (((((x) <<< (n)) % 4294967296)) ||| (((x) >>> ((32 - n)))))), (11, nw ((x) >>> ((32 - n)))), (10, ni (32 - n)), (9, ni n), (8, nw x), (7, nw (((x) <<< (n)) % 4294967296)), (6, ni n), (5, nw x), (0, nw x), (1, ni n)] a := F.weak _ (subL_of kr)
  clear Q
  refine ?_
  refine hK2 _ _ ?_
  clear hK2
  try clear K2
  refine wp_ret ?_
  exact C_ret F H (rs := [.tmp 4]) rfl (vs := [nw (((((x) <<< (n)) % 4294967296)) ||| (((x) >>> ((32 - n)))))]) (.tmp rfl .nil) (nw (((((x) <<< (n)) % 4294967296)) ||| (((x) >>> ((32 - n)))))) rfl ⟨rfl, H.kept⟩

set_option maxRecDepth 100000 in
set_option maxHeartbeats 4000000 in
theorem lquarter_any (w_ : Nat → Nat) (hw : ∀ i, w_ i < 4294967296) (xa xb xc xd : Nat) (ha : xa < 16) (hb : xb < 16) (hc : xc < 16) (hd : xd < 16) (w : World) : Calls Tryd.prog 108 #[.agg (arrF .u32 16 w_), .int .i64 ((xa : Nat) : Int), .int .i64 ((xb : Nat) : Int), .int .i64 ((xc : Nat) : Int), .int .i64 ((xd : Nat) : Int)] w fun e w' => e = .returned (.agg (arrF .u32 16 (qs w_ xa xb xc xd 2))) ∧ Kept [] w w' := by
  refine C_enter Tryd.func108 rfl 96 Tryd.ntmps108 (Nat.le_of_ble_eq_true rfl) (fun a F => ?_)
  have H := Hp.start [] w
  replace F : Fm 96 [] [(0, .agg (arrF .u32 16 w_)), (1, ni xa), (2, ni xb), (3, ni xc), (4, ni xd)] a := F.weak _ (subL_of kr)
  refine C_seqK (fun K1 hK1 => ?_)
  refine C_region ?_
  refine T_new F H kr (fun ad => pt ad 0) (ce (arrF .u32 16 w_) 156) (fun w => kr) ?_
  clear F H; intro aq2 a v F H
  refine T_new F H kr (fun ad => pt ad 0) (ce #[.int .u32 0, .int .u32 0, .int .u32 0, .int .u32 0, .int .u32 0, .int .u32 0, .int .u32 0, .int .u32 0, .int .u32 0, .int .u32 0, .int .u32 0, .int .u32 0, .int .u32 0, .int .u32 0, .int .u32 0, .int .u32 0] 156) (fun w => kr) ?_
  clear F H; intro aq3 a v F H
  refine wpList_nil ?_
  refine hK1 _ _ ?_
  clear hK1
  try clear K1
  refine C_seqK (fun K4 hK4 => ?_)
  refine C_region ?_
  refine T_k F H (ni xa) ?_
  clear F; intro a F
  refine T_val F H kr (ni xa) (fun w _ => R_bin (x := (.tmp 11)) (y := (.const (.int .i64 15))) rfl (k := .i64) (a := ((xa : Nat) : Int)) (b := ((15 : Nat) : Int)) kr kr (i_and15 ha) w) ?_
  clear F; intro a F
  refine T_k F H (ni xa) ?_
  clear F; intro a F
  refine wpList_nil ?_
  refine hK4 _ _ ?_
  clear hK4
  try clear K4
  refine C_seqK (fun K5 hK5 => ?_)
  refine C_region ?_
  refine T_k F H (ni xb) ?_
  clear F; intro a F
  refine T_val F H kr (ni xb) (fun w _ => R_bin (x := (.tmp 13)) (y := (.const (.int .i64 15))) rfl (k := .i64) (a := ((xb : Nat) : Int)) (b := ((15 : Nat) : Int)) kr kr (i_and15 hb) w) ?_
  clear F; intro a F
  refine T_k F H (ni xb) ?_
  clear F; intro a F
  refine wpList_nil ?_
  refine hK5 _ _ ?_
  clear hK5
  try clear K5
  refine C_seqK (fun K6 hK6 => ?_)
  refine C_region ?_
  refine T_k F H (ni xc) ?_
  clear F; intro a F
  refine T_val F H kr (ni xc) (fun w _ => R_bin (x := (.tmp 15)) (y := (.const (.int .i64 15))) rfl (k := .i64) (a := ((xc : Nat) : Int)) (b := ((15 : Nat) : Int)) kr kr (i_and15 hc) w) ?_
  clear F; intro a F
  refine T_k F H (ni xc) ?_
  clear F; intro a F
  refine wpList_nil ?_
  refine hK6 _ _ ?_
  clear hK6
  try clear K6
  refine C_seqK (fun K7 hK7 => ?_)
  refine C_region ?_
  refine T_k F H (ni xd) ?_
  clear F; intro a F
  refine T_val F H kr (ni xd) (fun w _ => R_bin (x := (.tmp 17)) (y := (.const (.int .i64 15))) rfl (k := .i64) (a := ((xd : Nat) : Int)) (b := ((15 : Nat) : Int)) kr kr (i_and15 hd) w) ?_
  clear F; intro a F
  refine T_k F H (ni xd) ?_
  clear F; intro a F
  refine wpList_nil ?_
  refine hK7 _ _ ?_
  clear hK7
  try clear K7
  refine C_seqK (fun K8 hK8 => ?_)
  refine E_region F H (fun β => [(19, ni xa), (20, ni xa), (21, pt aq2 (0 + (xa) * 1)), (22, nw (w_ (xa))), (23, ni xb), (24, pt aq2 (0 + (xb) * 1)), (25, nw (w_ (xb))), (26, nw (add32 (w_ (xa)) (w_ (xb)))), (27, pt aq2 (0 + (xa) * 1))]) [19, 20, 21, 22, 23, 24, 25, 26, 27] [⟨none, none, aq2, [], fun q_ => ce (arrF .u32 16 w_) 156, gT, [⟨9, [], fun q_ => ce (arrF .u32 16 (upd w_ (xa) (add32 (w_ (xa)) (w_ (xb))))) 156, gT⟩]⟩] [bk aq3 #[.int .u32 0, .int .u32 0, .int .u32 0, .int .u32 0, .int .u32 0, .int .u32 0, .int .u32 0, .int .u32 0, .int .u32 0, .int .u32 0, .int .u32 0, .int .u32 0, .int .u32 0, .int .u32 0, .int .u32 0, .int .u32 0] 156] [1, 0] 2 [] kr kr kr (fun β => rfl) ⟨fun _ _ => trivial, trivial⟩ ⟨?_, ?_, ?_, ?_, ?_, ?_, ?_, ?_, ?_, ?_, trivial⟩ ?_
  · exact E_k 96 (fun β => ni xa) 19 2
  · exact E_k 96 (fun β => ni xa) 20 2
  · exact E_v 96 (fun β => pt aq2 (0 + (xa) * 1)) 21 2 [] (fun β w hk hl hq => R_index (k := .i64) (g := aq2) (off := 0) (x := (.tmp 5)) (y := (.tmp 20)) rfl Tryd.underlying156 kr (xa) kr (by omega) (sz := 1) kr w)
  · exact E_v 96 (fun β => nw (w_ (xa))) 22 2 [(0, 0)] (fun β w hk hl hq => R_cellH hl (own := true) (g := aq2) (all := (arrF .u32 16 w_)) (t := 156) (fr := (0, 0)) 0 kr 53 (.tmp 21) rfl (0 + (xa) * 1) kr (nw (w_ (xa))) ((congrArg (fun q => ((arrF .u32 16 w_))[q]?) (show (0 + (xa) * 1) = xa by omega)).trans (arrF_get w_ (by omega))) _ Tryd.underlying53 rfl)
  · exact E_k 96 (fun β => ni xb) 23 2
  · exact E_v 96 (fun β => pt aq2 (0 + (xb) * 1)) 24 2 [] (fun β w hk hl hq => R_index (k := .i64) (g := aq2) (off := 0) (x := (.tmp 5)) (y := (.tmp 23)) rfl Tryd.underlying156 kr (xb) kr (by omega) (sz := 1) kr w)
  · exact E_v 96 (fun β => nw (w_ (xb))) 25 2 [(0, 0)] (fun β w hk hl hq => R_cellH hl (own := true) (g := aq2) (all := (arrF .u32 16 w_)) (t := 156) (fr := (0, 0)) 0 kr 53 (.tmp 24) rfl (0 + (xb) * 1) kr (nw (w_ (xb))) ((congrArg (fun q => ((arrF .u32 16 w_))[q]?) (show (0 + (xb) * 1) = xb by omega)).trans (arrF_get w_ (by omega))) _ Tryd.underlying53 rfl)
  · exact E_v 96 (fun β => nw (add32 (w_ (xa)) (w_ (xb)))) 26 2 [] (fun β w hk hl hq => R_bin (x := (.tmp 22)) (y := (.tmp 25)) rfl (k := .u32) (a := ((w_ (xa) : Nat) : Int)) (b := ((w_ (xb) : Nat) : Int)) kr kr (i_add32 (a := w_ (xa)) (b := w_ (xb))) w)
  · exact E_v 96 (fun β => pt aq2 (0 + (xa) * 1)) 27 2 [] (fun β w hk hl hq => R_index (k := .i64) (g := aq2) (off := 0) (x := (.tmp 5)) (y := (.tmp 19)) rfl Tryd.underlying156 kr (xa) kr (by omega) (sz := 1) kr w)
  · exact E_store 96 kq rfl 2 [] 0 0 _ _ rfl rfl kr rfl (fun _ => trivial) (fun β w hk hl hq hm => let ⟨w', h1, h2, h3⟩ := P_cell (off := (0 + (xa) * 1)) (old := (arrF .u32 16 w_)) (v := nw (add32 (w_ (xa)) (w_ (xb)))) (Z := ce (arrF .u32 16 w_) 156) (R := ce (arrF .u32 16 (upd w_ (xa) (add32 (w_ (xa)) (w_ (xb))))) 156) rfl (by rw [show (0 + (xa) * 1) = xa by omega, arrF_upd _ (by omega)]) (ty := 53) (x := (.tmp 27)) (y := (.tmp 26)) rfl kr kr rfl (by rw [arrF_size]; omega) Tryd.underlying53 rfl kr hm; ⟨w', h1, h2, h3⟩)
  clear F H; intro β a v Q F H
  replace H : Hp [] w [bk aq2 (arrF .u32 16 (upd w_ (xa) (add32 (w_ (xa)) (w_ (xb))))) 156, bk aq3 #[.int .u32 0, .int .u32 0, .int .u32 0, .int .u32 0, .int .u32 0, .int .u32 0, .int .u32 0, .int .u32 0, .int .u32 0, .int .u32 0, .int .u32 0, .int .u32 0, .int .u32 0, .int .u32 0, .int .u32 0, .int .u32 0] 156] v := H
  replace F : Fm 96 [] [(27, pt aq2 (0 + (xa) * 1)), (26, nw (add32 (w_ (xa)) (w_ (xb)))), (25, nw (w_ (xb))), (24, pt aq2 (0 + (xb) * 1)), (23, ni xb), (22, nw (w_ (xa))), (21, pt aq2 (0 + (xa) * 1)), (20, ni xa), (19, ni xa), (4, ni xd), (18, ni xd), (17, ni xd), (3, ni xc), (16, ni xc), (15, ni xc), (2, ni xb), (14, ni xb), (13, ni xb), (1, ni xa), (12, ni xa), (11, ni xa), (10, pt aq3 0), (5, pt aq2 0), (0, .agg (arrF .u32 16 w_))] a := F.weak _ (subL_of kr)
  clear Q
  refine ?_
  replace H : Hp [] w [bk aq2 (arrF .u32 16 (sA (w_) xa xb)) 156, bk aq3 #[.int .u32 0, .int .u32 0, .int .u32 0, .int .u32 0, .int .u32 0, .int .u32 0, .int .u32 0, .int .u32 0, .int .u32 0, .int .u32 0, .int .u32 0, .int .u32 0, .int .u32 0, .int .u32 0, .int .u32 0, .int .u32 0] 156] v := H
  refine hK8 _ _ ?_
  clear hK8
  try clear K8
  refine C_seqK (fun K9 hK9 => ?_)
  refine E_region F H (fun β => [(28, ni xd), (29, ni xd), (30, pt aq2 (0 + (xd) * 1)), (31, nw ((sA (w_) xa xb) (xd))), (32, ni xa), (33, pt aq2 (0 + (xa) * 1)), (34, nw ((sA (w_) xa xb) (xa))), (35, nw (((sA (w_) xa xb) (xd)) ^^^ ((sA (w_) xa xb) (xa)))), (36, nw (rol ((((sA (w_) xa xb) (xd)) ^^^ ((sA (w_) xa xb) (xa)))) 16)), (37, pt aq2 (0 + (xd) * 1))]) [28, 29, 30, 31, 32, 33, 34, 35, 36, 37] [⟨none, none, aq2, [], fun q_ => ce (arrF .u32 16 (sA (w_) xa xb)) 156, gT, [⟨10, [], fun q_ => ce (arrF .u32 16 (upd (sA (w_) xa xb) (xd) (rol ((((sA (w_) xa xb) (xd)) ^^^ ((sA (w_) xa xb) (xa)))) 16))) 156, gT⟩]⟩] [bk aq3 #[.int .u32 0, .int .u32 0, .int .u32 0, .int .u32 0, .int .u32 0, .int .u32 0, .int .u32 0, .int .u32 0, .int .u32 0, .int .u32 0, .int .u32 0, .int .u32 0, .int .u32 0, .int .u32 0, .int .u32 0, .int .u32 0] 156] [0, 1] 2 [] kr kr kr (fun β => rfl) ⟨fun _ _ => trivial, trivial⟩ ⟨?_, ?_, ?_, ?_, ?_, ?_, ?_, ?_, ?_, ?_, ?_, trivial⟩ ?_
  · exact E_k 96 (fun β => ni xd) 28 2
  · exact E_k 96 (fun β => ni xd) 29 2
  · exact E_v 96 (fun β => pt aq2 (0 + (xd) * 1)) 30 2 [] (fun β w hk hl hq => R_index (k := .i64) (g := aq2) (off := 0) (x := (.tmp 5)) (y := (.tmp 29)) rfl Tryd.underlying156 kr (xd) kr (by omega) (sz := 1) kr w)
  · exact E_v 96 (fun β => nw ((sA (w_) xa xb) (xd))) 31 2 [(0, 0)] (fun β w hk hl hq => R_cellH hl (own := true) (g := aq2) (all := (arrF .u32 16 (sA (w_) xa xb))) (t := 156) (fr := (0, 0)) 0 kr 53 (.tmp 30) rfl (0 + (xd) * 1) kr (nw ((sA (w_) xa xb) (xd))) ((congrArg (fun q => ((arrF .u32 16 (sA (w_) xa xb)))[q]?) (show (0 + (xd) * 1) = xd by omega)).trans (arrF_get (sA (w_) xa xb) (by omega))) _ Tryd.underlying53 rfl)
  · exact E_k 96 (fun β => ni xa) 32 2
  · exact E_v 96 (fun β => pt aq2 (0 + (xa) * 1)) 33 2 [] (fun β w hk hl hq => R_index (k := .i64) (g := aq2) (off := 0) (x := (.tmp 5)) (y := (.tmp 32)) rfl Tryd.underlying156 kr (xa) kr (by omega) (sz := 1) kr w)
  · exact E_v 96 (fun β => nw ((sA (w_) xa xb) (xa))) 34 2 [(0, 0)] (fun β w hk hl hq => R_cellH hl (own := true) (g := aq2) (all := (arrF .u32 16 (sA (w_) xa xb))) (t := 156) (fr := (0, 0)) 0 kr 53 (.tmp 33) rfl (0 + (xa) * 1) kr (nw ((sA (w_) xa xb) (xa))) ((congrArg (fun q => ((arrF .u32 16 (sA (w_) xa xb)))[q]?) (show (0 + (xa) * 1) = xa by omega)).trans (arrF_get (sA (w_) xa xb) (by omega))) _ Tryd.underlying53 rfl)
  · exact E_v 96 (fun β => nw (((sA (w_) xa xb) (xd)) ^^^ ((sA (w_) xa xb) (xa)))) 35 2 [] (fun β w hk hl hq => R_bin (x := (.tmp 31)) (y := (.tmp 34)) rfl (k := .u32) (a := (((sA (w_) xa xb) (xd) : Nat) : Int)) (b := (((sA (w_) xa xb) (xa) : Nat) : Int)) kr kr (i_xor32 (a := (sA (w_) xa xb) (xd)) (b := (sA (w_) xa xb) (xa)) (sA_lt hw xa xb (xd)) (sA_lt hw xa xb (xa))) w)
  · exact E_call 96 kq (fun β => nw (rol ((((sA (w_) xa xb) (xd)) ^^^ ((sA (w_) xa xb) (xa)))) 16)) 36 rfl kq 124 (fun β => #[nw (((sA (w_) xa xb) (xd)) ^^^ ((sA (w_) xa xb) (xa))), ni 16]) (fun β w => kr) 2 [] kr rfl (fun β w hk hl hq => left_any ((((sA (w_) xa xb) (xd)) ^^^ ((sA (w_) xa xb) (xa)))) 16 (xor32 (sA_lt hw xa xb (xd)) (sA_lt hw xa xb (xa))) (by decide) (by decide) _)
  · exact E_v 96 (fun β => pt aq2 (0 + (xd) * 1)) 37 2 [] (fun β w hk hl hq => R_index (k := .i64) (g := aq2) (off := 0) (x := (.tmp 5)) (y := (.tmp 28)) rfl Tryd.underlying156 kr (xd) kr (by omega) (sz := 1) kr w)
  · exact E_store 96 kq rfl 2 [] 0 0 _ _ rfl rfl kr rfl (fun _ => trivial) (fun β w hk hl hq hm => let ⟨w', h1, h2, h3⟩ := P_cell (off := (0 + (xd) * 1)) (old := (arrF .u32 16 (sA (w_) xa xb))) (v := nw (rol ((((sA (w_) xa xb) (xd)) ^^^ ((sA (w_) xa xb) (xa)))) 16)) (Z := ce (arrF .u32 16 (sA (w_) xa xb)) 156) (R := ce (arrF .u32 16 (upd (sA (w_) xa xb) (xd) (rol ((((sA (w_) xa xb) (xd)) ^^^ ((sA (w_) xa xb) (xa)))) 16))) 156) rfl (by rw [show (0 + (xd) * 1) = xd by omega, arrF_upd _ (by omega)]) (ty := 53) (x := (.tmp 37)) (y := (.tmp 36)) rfl kr kr rfl (by rw [arrF_size]; omega) Tryd.underlying53 rfl kr hm; ⟨w', h1, h2, h3⟩)
  clear F H; intro β a v Q F H
  replace H : Hp [] w [bk aq2 (arrF .u32 16 (upd (sA (w_) xa xb) (xd) (rol ((((sA (w_) xa xb) (xd)) ^^^ ((sA (w_) xa xb) (xa)))) 16))) 156, bk aq3 #[.int .u32 0, .int .u32 0, .int .u32 0, .int .u32 0, .int .u32 0, .int .u32 0, .int .u32 0, .int .u32 0, .int .u32 0, .int .u32 0, .int .u32 0, .int .u32 0, .int .u32 0, .int .u32 0, .int .u32 0, .int .u32 0] 156] v := H
  replace F : Fm 96 [] [(37, pt aq2 (0 + (xd) * 1)), (36, nw (rol ((((sA (w_) xa xb) (xd)) ^^^ ((sA (w_) xa xb) (xa)))) 16)), (35, nw (((sA (w_) xa xb) (xd)) ^^^ ((sA (w_) xa xb) (xa)))), (34, nw ((sA (w_) xa xb) (xa))), (33, pt aq2 (0 + (xa) * 1)), (32, ni xa), (31, nw ((sA (w_) xa xb) (xd))), (30, pt aq2 (0 + (xd) * 1)), (29, ni xd), (28, ni xd), (27, pt aq2 (0 + (xa) * 1)), (26, nw (add32 (w_ (xa)) (w_ (xb)))), (25, nw (w_ (xb))), (24, pt aq2 (0 + (xb) * 1)), (23, ni xb), (22, nw (w_ (xa))), (21, pt aq2 (0 + (xa) * 1)), (20, ni xa), (19, ni xa), (4, ni xd), (18, ni xd), (17, ni xd), (3, ni xc), (16, ni xc), (15, ni xc), (2, ni xb), (14, ni xb), (13, ni xb), (1, ni xa), (12, ni xa), (11, ni xa), (10, pt aq3 0), (5, pt aq2 0), (0, .agg (arrF .u32 16 w_))] a := F.weak _ (subL_of kr)
  clear Q
  refine ?_
  replace H : Hp [] w [bk aq2 (arrF .u32 16 (sX (sA (w_) xa xb) xd xa 16)) 156, bk aq3 #[.int .u32 0, .int .u32 0, .int .u32 0, .int .u32 0, .int .u32 0, .int .u32 0, .int .u32 0, .int .u32 0, .int .u32 0, .int .u32 0, .int .u32 0, .int .u32 0, .int .u32 0, .int .u32 0, .int .u32 0, .int .u32 0] 156] v := H
  refine hK9 _ _ ?_
  clear hK9
  try clear K9
  refine C_seqK (fun K10 hK10 => ?_)
  refine E_region F H (fun β => [(38, ni xc), (39, ni xc), (40, pt aq2 (0 + (xc) * 1)), (41, nw ((sX (sA (w_) xa xb) xd xa 16) (xc))), (42, ni xd), (43, pt aq2 (0 + (xd) * 1)), (44, nw ((sX (sA (w_) xa xb) xd xa 16) (xd))), (45, nw (add32 ((sX (sA (w_) xa xb) xd xa 16) (xc)) ((sX (sA (w_) xa xb) xd xa 16) (xd)))), (46, pt aq2 (0 + (xc) * 1))]) [38, 39, 40, 41, 42, 43, 44, 45, 46] [⟨none, none, aq2, [], fun q_ => ce (arrF .u32 16 (sX (sA (w_) xa xb) xd xa 16)) 156, gT, [⟨9, [], fun q_ => ce (arrF .u32 16 (upd (sX (sA (w_) xa xb) xd xa 16) (xc) (add32 ((sX (sA (w_) xa xb) xd xa 16) (xc)) ((sX (sA (w_) xa xb) xd xa 16) (xd))))) 156, gT⟩]⟩] [bk aq3 #[.int .u32 0, .int .u32 0, .int .u32 0, .int .u32 0, .int .u32 0, .int .u32 0, .int .u32 0, .int .u32 0, .int .u32 0, .int .u32 0, .int .u32 0, .int .u32 0, .int .u32 0, .int .u32 0, .int .u32 0, .int .u32 0] 156] [0, 1] 2 [] kr kr kr (fun β => rfl) ⟨fun _ _ => trivial, trivial⟩ ⟨?_, ?_, ?_, ?_, ?_, ?_, ?_, ?_, ?_, ?_, trivial⟩ ?_
  · exact E_k 96 (fun β => ni xc) 38 2
  · exact E_k 96 (fun β => ni xc) 39 2
  · exact E_v 96 (fun β => pt aq2 (0 + (xc) * 1)) 40 2 [] (fun β w hk hl hq => R_index (k := .i64) (g := aq2) (off := 0) (x := (.tmp 5)) (y := (.tmp 39)) rfl Tryd.underlying156 kr (xc) kr (by omega) (sz := 1) kr w)
  · exact E_v 96 (fun β => nw ((sX (sA (w_) xa xb) xd xa 16) (xc))) 41 2 [(0, 0)] (fun β w hk hl hq => R_cellH hl (own := true) (g := aq2) (all := (arrF .u32 16 (sX (sA (w_) xa xb) xd xa 16))) (t := 156) (fr := (0, 0)) 0 kr 53 (.tmp 40) rfl (0 + (xc) * 1) kr (nw ((sX (sA (w_) xa xb) xd xa 16) (xc))) ((congrArg (fun q => ((arrF .u32 16 (sX (sA (w_) xa xb) xd xa 16)))[q]?) (show (0 + (xc) * 1) = xc by omega)).trans (arrF_get (sX (sA (w_) xa xb) xd xa 16) (by omega))) _ Tryd.underlying53 rfl)
  · exact E_k 96 (fun β => ni xd) 42 2
  · exact E_v 96 (fun β => pt aq2 (0 + (xd) * 1)) 43 2 [] (fun β w hk hl hq => R_index (k := .i64) (g := aq2) (off := 0) (x := (.tmp 5)) (y := (.tmp 42)) rfl Tryd.underlying156 kr (xd) kr (by omega) (sz := 1) kr w)
  · exact E_v 96 (fun β => nw ((sX (sA (w_) xa xb) xd xa 16) (xd))) 44 2 [(0, 0)] (fun β w hk hl hq => R_cellH hl (own := true) (g := aq2) (all := (arrF .u32 16 (sX (sA (w_) xa xb) xd xa 16))) (t := 156) (fr := (0, 0)) 0 kr 53 (.tmp 43) rfl (0 + (xd) * 1) kr (nw ((sX (sA (w_) xa xb) xd xa 16) (xd))) ((congrArg (fun q => ((arrF .u32 16 (sX (sA (w_) xa xb) xd xa 16)))[q]?) (show (0 + (xd) * 1) = xd by omega)).trans (arrF_get (sX (sA (w_) xa xb) xd xa 16) (by omega))) _ Tryd.underlying53 rfl)
  · exact E_v 96 (fun β => nw (add32 ((sX (sA (w_) xa xb) xd xa 16) (xc)) ((sX (sA (w_) xa xb) xd xa 16) (xd)))) 45 2 [] (fun β w hk hl hq => R_bin (x := (.tmp 41)) (y := (.tmp 44)) rfl (k := .u32) (a := (((sX (sA (w_) xa xb) xd xa 16) (xc) : Nat) : Int)) (b := (((sX (sA (w_) xa xb) xd xa 16) (xd) : Nat) : Int)) kr kr (i_add32 (a := (sX (sA (w_) xa xb) xd xa 16) (xc)) (b := (sX (sA (w_) xa xb) xd xa 16) (xd))) w)
  · exact E_v 96 (fun β => pt aq2 (0 + (xc) * 1)) 46 2 [] (fun β w hk hl hq => R_index (k := .i64) (g := aq2) (off := 0) (x := (.tmp 5)) (y := (.tmp 38)) rfl Tryd.underlying156 kr (xc) kr (by omega) (sz := 1) kr w)
  · exact E_store 96 kq rfl 2 [] 0 0 _ _ rfl rfl kr rfl (fun _ => trivial) (fun β w hk hl hq hm => let ⟨w', h1, h2, h3⟩ := P_cell (off := (0 + (xc) * 1)) (old := (arrF .u32 16 (sX (sA (w_) xa xb) xd xa 16))) (v := nw (add32 ((sX (sA (w_) xa xb) xd xa 16) (xc)) ((sX (sA (w_) xa xb) xd xa 16) (xd)))) (Z := ce (arrF .u32 16 (sX (sA (w_) xa xb) xd xa 16)) 156) (R := ce (arrF .u32 16 (upd (sX (sA (w_) xa xb) xd xa 16) (xc) (add32 ((sX (sA (w_) xa xb) xd xa 16) (xc)) ((sX (sA (w_) xa xb) xd xa 16) (xd))))) 156) rfl (by rw [show (0 + (xc) * 1) = xc by omega, arrF_upd _ (by omega)]) (ty := 53) (x := (.tmp 46)) (y := (.tmp 45)) rfl kr kr rfl (by rw [arrF_size]; omega) Tryd.underlying53 rfl kr hm; ⟨w', h1, h2, h3⟩)
  clear F H; intro β a v Q F H
  replace H : Hp [] w [bk aq2 (arrF .u32 16 (upd (sX (sA (w_) xa xb) xd xa 16) (xc) (add32 ((sX (sA (w_) xa xb) xd xa 16) (xc)) ((sX (sA (w_) xa xb) xd xa 16) (xd))))) 156, bk aq3 #[.int .u32 0, .int .u32 0, .int .u32 0, .int .u32 0, .int .u32 0, .int .u32 0, .int .u32 0, .int .u32 0, .int .u32 0, .int .u32 0, .int .u32 0, .int .u32 0, .int .u32 0, .int .u32 0, .int .u32 0, .int .u32 0] 156] v := H
  replace F : Fm 96 [] [(46, pt aq2 (0 + (xc) * 1)), (45, nw (add32 ((sX (sA (w_) xa xb) xd xa 16) (xc)) ((sX (sA (w_) xa xb) xd xa 16) (xd)))), (44, nw ((sX (sA (w_) xa xb) xd xa 16) (xd))), (43, pt aq2 (0 + (xd) * 1)), (42, ni xd), (41, nw ((sX (sA (w_) xa xb) xd xa 16) (xc))), (40, pt aq2 (0 + (xc) * 1)), (39, ni xc), (38, ni xc), (37, pt aq2 (0 + (xd) * 1)), (36, nw (rol ((((sA (w_) xa xb) (xd)) ^^^ ((sA (w_) xa xb) (xa)))) 16)), (35, nw (((sA (w_) xa xb) (xd)) ^^^ ((sA (w_) xa xb) (xa)))), (34, nw ((sA (w_) xa xb) (xa))), (33, pt aq2 (0 + (xa) * 1)), (32, ni xa), (31, nw ((sA (w_) xa xb) (xd))), (30, pt aq2 (0 + (xd) * 1)), (29, ni xd), (28, ni xd), (27, pt aq2 (0 + (xa) * 1)), (26, nw (add32 (w_ (xa)) (w_ (xb)))), (25, nw (w_ (xb))), (24, pt aq2 (0 + (xb) * 1)), (23, ni xb), (22, nw (w_ (xa))), (21, pt aq2 (0 + (xa) * 1)), (20, ni xa), (19, ni xa), (4, ni xd), (18, ni xd), (17, ni xd), (3, ni xc), (16, ni xc), (15, ni xc), (2, ni xb), (14, ni xb), (13, ni xb), (1, ni xa), (12, ni xa), (11, ni xa), (10, pt aq3 0), (5, pt aq2 0), (0, .agg (arrF .u32 16 w_))] a := F.weak _ (subL_of kr)
  clear Q
  refine ?_
  replace H : Hp [] w [bk aq2 (arrF .u32 16 (sA (sX (sA (w_) xa xb) xd xa 16) xc xd)) 156, bk aq3 #[.int .u32 0, .int .u32 0, .int .u32 0, .int .u32 0, .int .u32 0, .int .u32 0, .int .u32 0, .int .u32 0, .int .u32 0, .int .u32 0, .int .u32 0, .int .u32 0, .int .u32 0, .int .u32 0, .int .u32 0, .int .u32 0] 156] v := H
  refine hK10 _ _ ?_
  clear hK10
  try clear K10
  refine C_seqK (fun K11 hK11 => ?_)
  refine E_region F H (fun β => [(47, ni xb), (48, ni xb), (49, pt aq2 (0 + (xb) * 1)), (50, nw ((sA (sX (sA (w_) xa xb) xd xa 16) xc xd) (xb))), (51, ni xc), (52, pt aq2 (0 + (xc) * 1)), (53, nw ((sA (sX (sA (w_) xa xb) xd xa 16) xc xd) (xc))), (54, nw (((sA (sX (sA (w_) xa xb) xd xa 16) xc xd) (xb)) ^^^ ((sA (sX (sA (w_) xa xb) xd xa 16) xc xd) (xc)))), (55, nw (rol ((((sA (sX (sA (w_) xa xb) xd xa 16) xc xd) (xb)) ^^^ ((sA (sX (sA (w_) xa xb) xd xa 16) xc xd) (xc)))) 12)), (56, pt aq2 (0 + (xb) * 1))]) [47, 48, 49, 50, 51, 52, 53, 54, 55, 56] [⟨none, none, aq2, [], fun q_ => ce (arrF .u32 16 (sA (sX (sA (w_) xa xb) xd xa 16) xc xd)) 156, gT, [⟨10, [], fun q_ => ce (arrF .u32 16 (upd (sA (sX (sA (w_) xa xb) xd xa 16) xc xd) (xb) (rol ((((sA (sX (sA (w_) xa xb) xd xa 16) xc xd) (xb)) ^^^ ((sA (sX (sA (w_) xa xb) xd xa 16) xc xd) (xc)))) 12))) 156, gT⟩]⟩] [bk aq3 #[.int .u32 0, .int .u32 0, .int .u32 0, .int .u32 0, .int .u32 0, .int .u32 0, .int .u32 0, .int .u32 0, .int .u32 0, .int .u32 0, .int .u32 0, .int .u32 0, .int .u32 0, .int .u32 0, .int .u32 0, .int .u32 0] 156] [0, 1] 2 [] kr kr kr (fun β => rfl) ⟨fun _ _ => trivial, trivial⟩ ⟨?_, ?_, ?_, ?_, ?_, ?_, ?_, ?_, ?_, ?_, ?_, trivial⟩ ?_
  · exact E_k 96 (fun β => ni xb) 47 2
  · exact E_k 96 (fun β => ni xb) 48 2
  · exact E_v 96 (fun β => pt aq2 (0 + (xb) * 1)) 49 2 [] (fun β w hk hl hq => R_index (k := .i64) (g := aq2) (off := 0) (x := (.tmp 5)) (y := (.tmp 48)) rfl Tryd.underlying156 kr (xb) kr (by omega) (sz := 1) kr w)
  · exact E_v 96 (fun β => nw ((sA (sX (sA (w_) xa xb) xd xa 16) xc xd) (xb))) 50 2 [(0, 0)] (fun β w hk hl hq => R_cellH hl (own := true) (g := aq2) (all := (arrF .u32 16 (sA (sX (sA (w_) xa xb) xd xa 16) xc xd))) (t := 156) (fr := (0, 0)) 0 kr 53 (.tmp 49) rfl (0 + (xb) * 1) kr (nw ((sA (sX (sA (w_) xa xb) xd xa 16) xc xd) (xb))) ((congrArg (fun q => ((arrF .u32 16 (sA (sX (sA (w_) xa xb) xd xa 16) xc xd)))[q]?) (show (0 + (xb) * 1) = xb by omega)).trans (arrF_get (sA (sX (sA (w_) xa xb) xd xa 16) xc xd) (by omega))) _ Tryd.underlying53 rfl)
  · exact E_k 96 (fun β => ni xc) 51 2
  · exact E_v 96 (fun β => pt aq2 (0 + (xc) * 1)) 52 2 [] (fun β w hk hl hq => R_index (k := .i64) (g := aq2) (off := 0) (x := (.tmp 5)) (y := (.tmp 51)) rfl Tryd.underlying156 kr (xc) kr (by omega) (sz := 1) kr w)
  · exact E_v 96 (fun β => nw ((sA (sX (sA (w_) xa xb) xd xa 16) xc xd) (xc))) 53 2 [(0, 0)] (fun β w hk hl hq => R_cellH hl (own := true) (g := aq2) (all := (arrF .u32 16 (sA (sX (sA (w_) xa xb) xd xa 16) xc xd))) (t := 156) (fr := (0, 0)) 0 kr 53 (.tmp 52) rfl (0 + (xc) * 1) kr (nw ((sA (sX (sA (w_) xa xb) xd xa 16) xc xd) (xc))) ((congrArg (fun q => ((arrF .u32 16 (sA (sX (sA (w_) xa xb) xd xa 16) xc xd)))[q]?) (show (0 + (xc) * 1) = xc by omega)).trans (arrF_get (sA (sX (sA (w_) xa xb) xd xa 16) xc xd) (by omega))) _ Tryd.underlying53 rfl)
  · exact E_v 96 (fun β => nw (((sA (sX (sA (w_) xa xb) xd xa 16) xc xd) (xb)) ^^^ ((sA (sX (sA (w_) xa xb) xd xa 16) xc xd) (xc)))) 54 2 [] (fun β w hk hl hq => R_bin (x := (.tmp 50)) (y := (.tmp 53)) rfl (k := .u32) (a := (((sA (sX (sA (w_) xa xb) xd xa 16) xc xd) (xb) : Nat) : Int)) (b := (((sA (sX (sA (w_) xa xb) xd xa 16) xc xd) (xc) : Nat) : Int)) kr kr (i_xor32 (a := (sA (sX (sA (w_) xa xb) xd xa 16) xc xd) (xb)) (b := (sA (sX (sA (w_) xa xb) xd xa 16) xc xd) (xc)) (sA_lt (sX_lt (sA_lt hw xa xb) xd xa 16) xc xd (xb)) (sA_lt (sX_lt (sA_lt hw xa xb) xd xa 16) xc xd (xc))) w)
  · exact E_call 96 kq (fun β => nw (rol ((((sA (sX (sA (w_) xa xb) xd xa 16) xc xd) (xb)) ^^^ ((sA (sX (sA (w_) xa xb) xd xa 16) xc xd) (xc)))) 12)) 55 rfl kq 124 (fun β => #[nw (((sA (sX (sA (w_) xa xb) xd xa 16) xc xd) (xb)) ^^^ ((sA (sX (sA (w_) xa xb) xd xa 16) xc xd) (xc))), ni 12]) (fun β w => kr) 2 [] kr rfl (fun β w hk hl hq => left_any ((((sA (sX (sA (w_) xa xb) xd xa 16) xc xd) (xb)) ^^^ ((sA (sX (sA (w_) xa xb) xd xa 16) xc xd) (xc)))) 12 (xor32 (sA_lt (sX_lt (sA_lt hw xa xb) xd xa 16) xc xd (xb)) (sA_lt (sX_lt (sA_lt hw xa xb) xd xa 16) xc xd (xc))) (by decide) (by decide) _)
  · exact E_v 96 (fun β => pt aq2 (0 + (xb) * 1)) 56 2 [] (fun β w hk hl hq => R_index (k := .i64) (g := aq2) (off := 0) (x := (.tmp 5)) (y := (.tmp 47)) rfl Tryd.underlying156 kr (xb) kr (by omega) (sz := 1) kr w)
  · exact E_store 96 kq rfl 2 [] 0 0 _ _ rfl rfl kr rfl (fun _ => trivial) (fun β w hk hl hq hm => let ⟨w', h1, h2, h3⟩ := P_cell (off := (0 + (xb) * 1)) (old := (arrF .u32 16 (sA (sX (sA (w_) xa xb) xd xa 16) xc xd))) (v := nw (rol ((((sA (sX (sA (w_) xa xb) xd xa 16) xc xd) (xb)) ^^^ ((sA (sX (sA (w_) xa xb) xd xa 16) xc xd) (xc)))) 12)) (Z := ce (arrF .u32 16 (sA (sX (sA (w_) xa xb) xd xa 16) xc xd)) 156) (R := ce (arrF .u32 16 (upd (sA (sX (sA (w_) xa xb) xd xa 16) xc xd) (xb) (rol ((((sA (sX (sA (w_) xa xb) xd xa 16) xc xd) (xb)) ^^^ ((sA (sX (sA (w_) xa xb) xd xa 16) xc xd) (xc)))) 12))) 156) rfl (by rw [show (0 + (xb) * 1) = xb by omega, arrF_upd _ (by omega)]) (ty := 53) (x := (.tmp 56)) (y := (.tmp 55)) rfl kr kr rfl (by rw [arrF_size]; omega) Tryd.underlying53 rfl kr hm; ⟨w', h1, h2, h3⟩)
  clear F H; intro β a v Q F H
  replace H : Hp [] w [bk aq2 (arrF .u32 16 (upd (sA (sX (sA (w_) xa xb) xd xa 16) xc xd) (xb) (rol ((((sA (sX (sA (w_) xa xb) xd xa 16) xc xd) (xb)) ^^^ ((sA (sX (sA (w_) xa xb) xd xa 16) xc xd) (xc)))) 12))) 156, bk aq3 #[.int .u32 0, .int .u32 0, .int .u32 0, .int .u32 0, .int .u32 0, .int .u32 0, .int .u32 0, .int .u32 0, .int .u32 0, .int .u32 0, .int .u32 0, .int .u32 0, .int .u32 0, .int .u32 0, .int .u32 0, .int .u32 0] 156] v := H
  replace F : Fm 96 [] [(56, pt aq2 (0 + (xb) * 1)), (55, nw (rol ((((sA (sX (sA (w_) xa xb) xd xa 16) xc xd) (xb)) ^^^ ((sA (sX (sA (w_) xa xb) xd xa 16) xc xd) (xc)))) 12)), (54, nw (((sA (sX (sA (w_) xa xb) xd xa 16) xc xd) (xb)) ^^^ ((sA (sX (sA (w_) xa xb) xd xa 16) xc xd) (xc)))), (53, nw ((sA (sX (sA (w_) xa xb) xd xa 16) xc xd) (xc))), (52, pt aq2 (0 + (xc) * 1)), (51, ni xc), (50, nw ((sA (sX (sA (w_) xa xb) xd xa 16) xc xd) (xb))), (49, pt aq2 (0 + (xb) * 1)), (48, ni xb), (47, ni xb), (46, pt aq2 (0 + (xc) * 1)), (45, nw (add32 ((sX (sA (w_) xa xb) xd xa 16) (xc)) ((sX (sA (w_) xa xb) xd xa 16) (xd)))), (44, nw ((sX (sA (w_) xa xb) xd xa 16) (xd))), (43, pt aq2 (0 + (xd) * 1)), (42, ni xd), (41, nw ((sX (sA (w_) xa xb) xd xa 16) (xc))), (40, pt aq2 (0 + (xc) * 1)), (39, ni xc), (38, ni xc), (37, pt aq2 (0 + (xd) * 1)), (36, nw (rol ((((sA (w_) xa xb) (xd)) ^^^ ((sA (w_) xa xb) (xa)))) 16)), (35, nw (((sA (w_) xa xb) (xd)) ^^^ ((sA (w_) xa xb) (xa)))), (34, nw ((sA (w_) xa xb) (xa))), (33, pt aq2 (0 + (xa) * 1)), (32, ni xa), (31, nw ((sA (w_) xa xb) (xd))), (30, pt aq2 (0 + (xd) * 1)), (29, ni xd), (28, ni xd), (27, pt aq2 (0 + (xa) * 1)), (26, nw (add32 (w_ (xa)) (w_ (xb)))), (25, nw (w_ (xb))), (24, pt aq2 (0 + (xb) * 1)), (23, ni xb), (22, nw (w_ (xa))), (21, pt aq2 (0 + (xa) * 1)), (20, ni xa), (19, ni xa), (4, ni xd), (18, ni xd), (17, ni xd), (3, ni xc), (16, ni xc), (15, ni xc), (2, ni xb), (14, ni xb), (13, ni xb), (1, ni xa), (12, ni xa), (11, ni xa), (10, pt aq3 0), (5, pt aq2 0), (0, .agg (arrF .u32 16 w_))] a := F.weak _ (subL_of kr)
  clear Q
  refine ?_
  replace H : Hp [] w [bk aq2 (arrF .u32 16 (sX (sA (sX (sA (w_) xa xb) xd xa 16) xc xd) xb xc 12)) 156, bk aq3 #[.int .u32 0, .int .u32 0, .int .u32 0, .int .u32 0, .int .u32 0, .int .u32 0, .int .u32 0, .int .u32 0, .int .u32 0, .int .u32 0, .int .u32 0, .int .u32 0, .int .u32 0, .int .u32 0, .int .u32 0, .int .u32 0] 156] v := H
  refine hK11 _ _ ?_
  clear hK11
  try clear K11
  refine C_seqK (fun K12 hK12 => ?_)
  refine E_region F H (fun β => [(57, ni xa), (58, ni xa), (59, pt aq2 (0 + (xa) * 1)), (60, nw ((sX (sA (sX (sA (w_) xa xb) xd xa 16) xc xd) xb xc 12) (xa))), (61, ni xb), (62, pt aq2 (0 + (xb) * 1)), (63, nw ((sX (sA (sX (sA (w_) xa xb) xd xa 16) xc xd) xb xc 12) (xb))), (64, nw (add32 ((sX (sA (sX (sA (w_) xa xb) xd xa 16) xc xd) xb xc 12) (xa)) ((sX (sA (sX (sA (w_) xa xb) xd xa 16) xc xd) xb xc 12) (xb)))), (65, pt aq2 (0 + (xa) * 1))]) [57, 58, 59, 60, 61, 62, 63, 64, 65] [⟨none, none, aq2, [], fun q_ => ce (arrF .u32 16 (sX (sA (sX (sA (w_) xa xb) xd xa 16) xc xd) xb xc 12)) 156, gT, [⟨9, [], fun q_ => ce (arrF .u32 16 (upd (sX (sA (sX (sA (w_) xa xb) xd xa 16) xc xd) xb xc 12) (xa) (add32 ((sX (sA (sX (sA (w_) xa xb) xd xa 16) xc xd) xb xc 12) (xa)) ((sX (sA (sX (sA (w_) xa xb) xd xa 16) xc xd) xb xc 12) (xb))))) 156, gT⟩]⟩] [bk aq3 #[.int .u32 0, .int .u32 0, .int .u32 0, .int .u32 0, .int .u32 0, .int .u32 0, .int .u32 0, .int .u32 0, .int .u32 0, .int .u32 0, .int .u32 0, .int .u32 0, .int .u32 0, .int .u32 0, .int .u32 0, .int .u32 0] 156] [0, 1] 2 [] kr kr kr (fun β => rfl) ⟨fun _ _ => trivial, trivial⟩ ⟨?_, ?_, ?_, ?_, ?_, ?_, ?_, ?_, ?_, ?_, trivial⟩ ?_
  · exact E_k 96 (fun β => ni xa) 57 2
  · exact E_k 96 (fun β => ni xa) 58 2
  · exact E_v 96 (fun β => pt aq2 (0 + (xa) * 1)) 59 2 [] (fun β w hk hl hq => R_index (k := .i64) (g := aq2) (off := 0) (x := (.tmp 5)) (y := (.tmp 58)) rfl Tryd.underlying156 kr (xa) kr (by omega) (sz := 1) kr w)
  · exact E_v 96 (fun β => nw ((sX (sA (sX (sA (w_) xa xb) xd xa 16) xc xd) xb xc 12) (xa))) 60 2 [(0, 0)] (fun β w hk hl hq => R_cellH hl (own := true) (g := aq2) (all := (arrF .u32 16 (sX (sA (sX (sA (w_) xa xb) xd xa 16) xc xd) xb xc 12))) (t := 156) (fr := (0, 0)) 0 kr 53 (.tmp 59) rfl (0 + (xa) * 1) kr (nw ((sX (sA (sX (sA (w_) xa xb) xd xa 16) xc xd) xb xc 12) (xa))) ((congrArg (fun q => ((arrF .u32 16 (sX (sA (sX (sA (w_) xa xb) xd xa 16) xc xd) xb xc 12)))[q]?) (show (0 + (xa) * 1) = xa by omega)).trans (arrF_get (sX (sA (sX (sA (w_) xa xb) xd xa 16) xc xd) xb xc 12) (by omega))) _ Tryd.underlying53 rfl)
  · exact E_k 96 (fun β => ni xb) 61 2
  · exact E_v 96 (fun β => pt aq2 (0 + (xb) * 1)) 62 2 [] (fun β w hk hl hq => R_index (k := .i64) (g := aq2) (off := 0) (x := (.tmp 5)) (y := (.tmp 61)) rfl Tryd.underlying156 kr (xb) kr (by omega) (sz := 1) kr w)
  · exact E_v 96 (fun β => nw ((sX (sA (sX (sA (w_) xa xb) xd xa 16) xc xd) xb xc 12) (xb))) 63 2 [(0, 0)] (fun β w hk hl hq => R_cellH hl (own := true) (g := aq2) (all := (arrF .u32 16 (sX (sA (sX (sA (w_) xa xb) xd xa 16) xc xd) xb xc 12))) (t := 156) (fr := (0, 0)) 0 kr 53 (.tmp 62) rfl (0 + (xb) * 1) kr (nw ((sX (sA (sX (sA (w_) xa xb) xd xa 16) xc xd) xb xc 12) (xb))) ((congrArg (fun q => ((arrF .u32 16 (sX (sA (sX (sA (w_) xa xb) xd xa 16) xc xd) xb xc 12)))[q]?) (show (0 + (xb) * 1) = xb by omega)).trans (arrF_get (sX (sA (sX (sA (w_) xa xb) xd xa 16) xc xd) xb xc 12) (by omega))) _ Tryd.underlying53 rfl)
  · exact E_v 96 (fun β => nw (add32 ((sX (sA (sX (sA (w_) xa xb) xd xa 16) xc xd) xb xc 12) (xa)) ((sX (sA (sX (sA (w_) xa xb) xd xa 16) xc xd) xb xc 12) (xb)))) 64 2 [] (fun β w hk hl hq => R_bin (x := (.tmp 60)) (y := (.tmp 63)) rfl (k := .u32) (a := (((sX (sA (sX (sA (w_) xa xb) xd xa 16) xc xd) xb xc 12) (xa) : Nat) : Int)) (b := (((sX (sA (sX (sA (w_) xa xb) xd xa 16) xc xd) xb xc 12) (xb) : Nat) : Int)) kr kr (i_add32 (a := (sX (sA (sX (sA (w_) xa xb) xd xa 16) xc xd) xb xc 12) (xa)) (b := (sX (sA (sX (sA (w_) xa xb) xd xa 16) xc xd) xb xc 12) (xb))) w)
  · exact E_v 96 (fun β => pt aq2 (0 + (xa) * 1)) 65 2 [] (fun β w hk hl hq => R_index (k := .i64) (g := aq2) (off := 0) (x := (.tmp 5)) (y := (.tmp 57)) rfl Tryd.underlying156 kr (xa) kr (by omega) (sz := 1) kr w)
  · exact E_store 96 kq rfl 2 [] 0 0 _ _ rfl rfl kr rfl (fun _ => trivial) (fun β w hk hl hq hm => let ⟨w', h1, h2, h3⟩ := P_cell (off := (0 + (xa) * 1)) (old := (arrF .u32 16 (sX (sA (sX (sA (w_) xa xb) xd xa 16) xc xd) xb xc 12))) (v := nw (add32 ((sX (sA (sX (sA (w_) xa xb) xd xa 16) xc xd) xb xc 12) (xa)) ((sX (sA (sX (sA (w_) xa xb) xd xa 16) xc xd) xb xc 12) (xb)))) (Z := ce (arrF .u32 16 (sX (sA (sX (sA (w_) xa xb) xd xa 16) xc xd) xb xc 12)) 156) (R := ce (arrF .u32 16 (upd (sX (sA (sX (sA (w_) xa xb) xd xa 16) xc xd) xb xc 12) (xa) (add32 ((sX (sA (sX (sA (w_) xa xb) xd xa 16) xc xd) xb xc 12) (xa)) ((sX (sA (sX (sA (w_) xa xb) xd xa 16) xc xd) xb xc 12) (xb))))) 156) rfl (by rw [show (0 + (xa) * 1) = xa by omega, arrF_upd _ (by omega)]) (ty := 53) (x := (.tmp 65)) (y := (.tmp 64)) rfl kr kr rfl (by rw [arrF_size]; omega) Tryd.underlying53 rfl kr hm; ⟨w', h1, h2, h3⟩)
  clear F H; intro β a v Q F H
  replace H : Hp [] w [bk aq2 (arrF .u32 16 (upd (sX (sA (sX (sA (w_) xa xb) xd xa 16) xc xd) xb xc 12) (xa) (add32 ((sX (sA (sX (sA (w_) xa xb) xd xa 16) xc xd) xb xc 12) (xa)) ((sX (sA (sX (sA (w_) xa xb) xd xa 16) xc xd) xb xc 12) (xb))))) 156, bk aq3 #[.int .u32 0, .int .u32 0, .int .u32 0, .int .u32 0, .int .u32 0, .int .u32 0, .int .u32 0, .int .u32 0, .int .u32 0, .int .u32 0, .int .u32 0, .int .u32 0, .int .u32 0, .int .u32 0, .int .u32 0, .int .u32 0] 156] v := H
  replace F : Fm 96 [] [(65, pt aq2 (0 + (xa) * 1)), (64, nw (add32 ((sX (sA (sX (sA (w_) xa xb) xd xa 16) xc xd) xb xc 12) (xa)) ((sX (sA (sX (sA (w_) xa xb) xd xa 16) xc xd) xb xc 12) (xb)))), (63, nw ((sX (sA (sX (sA (w_) xa xb) xd xa 16) xc xd) xb xc 12) (xb))), (62, pt aq2 (0 + (xb) * 1)), (61, ni xb), (60, nw ((sX (sA (sX (sA (w_) xa xb) xd xa 16) xc xd) xb xc 12) (xa))), (59, pt aq2 (0 + (xa) * 1)), (58, ni xa), (57, ni xa), (56, pt aq2 (0 + (xb) * 1)), (55, nw (rol ((((sA (sX (sA (w_) xa xb) xd xa 16) xc xd) (xb)) ^^^ ((sA (sX (sA (w_) xa xb) xd xa 16) xc xd) (xc)))) 12)), (54, nw (((sA (sX (sA (w_) xa xb) xd xa 16) xc xd) (xb)) ^^^ ((sA (sX (sA (w_) xa xb) xd xa 16) xc xd) (xc)))), (53, nw ((sA (sX (sA (w_) xa xb) xd xa 16) xc xd) (xc))), (52, pt aq2 (0 + (xc) * 1)), (51, ni xc), (50, nw ((sA (sX (sA (w_) xa xb) xd xa 16) xc xd) (xb))), (49, pt aq2 (0 + (xb) * 1)), (48, ni xb), (47, ni xb), (46, pt aq2 (0 + (xc) * 1)), (45, nw (add32 ((sX (sA (w_) xa xb) xd xa 16) (xc)) ((sX (sA (w_) xa xb) xd xa 16) (xd)))), (44, nw ((sX (sA (w_) xa xb) xd xa 16) (xd))), (43, pt aq2 (0 + (xd) * 1)), (42, ni xd), (41, nw ((sX (sA (w_) xa xb) xd xa 16) (xc))), (40, pt aq2 (0 + (xc) * 1)), (39, ni xc), (38, ni xc), (37, pt aq2 (0 + (xd) * 1)), (36, nw (rol ((((sA (w_) xa xb) (xd)) ^^^ ((sA (w_) xa xb) (xa)))) 16)), (35, nw (((sA (w_) xa xb) (xd)) ^^^ ((sA (w_) xa xb) (xa)))), (34, nw ((sA (w_) xa xb) (xa))), (33, pt aq2 (0 + (xa) * 1)), (32, ni xa), (31, nw ((sA (w_) xa xb) (xd))), (30, pt aq2 (0 + (xd) * 1)), (29, ni xd), (28, ni xd), (27, pt aq2 (0 + (xa) * 1)), (26, nw (add32 (w_ (xa)) (w_ (xb)))), (25, nw (w_ (xb))), (24, pt aq2 (0 + (xb) * 1)), (23, ni xb), (22, nw (w_ (xa))), (21, pt aq2 (0 + (xa) * 1)), (20, ni xa), (19, ni xa), (4, ni xd), (18, ni xd), (17, ni xd), (3, ni xc), (16, ni xc), (15, ni xc), (2, ni xb), (14, ni xb), (13, ni xb), (1, ni xa), (12, ni xa), (11, ni xa), (10, pt aq3 0), (5, pt aq2 0), (0, .agg (arrF .u32 16 w_))] a := F.weak _ (subL_of kr)
  clear Q
  refine ?_
  replace H : Hp [] w [bk aq2 (arrF .u32 16 (sA (sX (sA (sX (sA (w_) xa xb) xd xa 16) xc xd) xb xc 12) xa xb)) 156, bk aq3 #[.int .u32 0, .int .u32 0, .int .u32 0, .int .u32 0, .int .u32 0, .int .u32 0, .int .u32 0, .int .u32 0, .int .u32 0, .int .u32 0, .int .u32 0, .int .u32 0, .int .u32 0, .int .u32 0, .int .u32 0, .int .u32 0] 156] v := H
  refine hK12 _ _ ?_
  clear hK12
  try clear K12
  refine C_seqK (fun K13 hK13 => ?_)
  refine E_region F H (fun β => [(66, ni xd), (67, ni xd), (68, pt aq2 (0 + (xd) * 1)), (69, nw ((sA (sX (sA (sX (sA (w_) xa xb) xd xa 16) xc xd) xb xc 12) xa xb) (xd))), (70, ni xa), (71, pt aq2 (0 + (xa) * 1)), (72, nw ((sA (sX (sA (sX (sA (w_) xa xb) xd xa 16) xc xd) xb xc 12) xa xb) (xa))), (73, nw (((sA (sX (sA (sX (sA (w_) xa xb) xd xa 16) xc xd) xb xc 12) xa xb) (xd)) ^^^ ((sA (sX (sA (sX (sA (w_) xa xb) xd xa 16) xc xd) xb xc 12) xa xb) (xa)))), (74, nw (rol ((((sA (sX (sA (sX (sA (w_) xa xb) xd xa 16) xc xd) xb xc 12) xa xb) (xd)) ^^^ ((sA (sX (sA (sX (sA (w_) xa xb) xd xa 16) xc xd) xb xc 12) xa xb) (xa)))) 8)), (75, pt aq2 (0 + (xd) * 1))]) [66, 67, 68, 69, 70, 71, 72, 73, 74, 75] [⟨none, none, aq2, [], fun q_ => ce (arrF .u32 16 (sA (sX (sA (sX (sA (w_) xa xb) xd xa 16) xc xd) xb xc 12) xa xb)) 156, gT, [⟨10, [], fun q_ => ce (arrF .u32 16 (upd (sA (sX (sA (sX (sA (w_) xa xb) xd xa 16) xc xd) xb xc 12) xa xb) (xd) (rol ((((sA (sX (sA (sX (sA (w_) xa xb) xd xa 16) xc xd) xb xc 12) xa xb) (xd)) ^^^ ((sA (sX (sA (sX (sA (w_) xa xb) xd xa 16) xc xd) xb xc 12) xa xb) (xa)))) 8))) 156, gT⟩]⟩] [bk aq3 #[.int .u32 0, .int .u32 0, .int .u32 0, .int .u32 0, .int .u32 0, .int .u32 0, .int .u32 0, .int .u32 0, .int .u32 0, .int .u32 0, .int .u32 0, .int .u32 0, .int .u32 0, .int .u32 0, .int .u32 0, .int .u32 0] 156] [0, 1] 2 [] kr kr kr (fun β => rfl) ⟨fun _ _ => trivial, trivial⟩ ⟨?_, ?_, ?_, ?_, ?_, ?_, ?_, ?_, ?_, ?_, ?_, trivial⟩ ?_
  · exact E_k 96 (fun β => ni xd) 66 2
  · exact E_k 96 (fun β => ni xd) 67 2
  · exact E_v 96 (fun β => pt aq2 (0 + (xd) * 1)) 68 2 [] (fun β w hk hl hq => R_index (k := .i64) (g := aq2) (off := 0) (x := (.tmp 5)) (y := (.tmp 67)) rfl Tryd.underlying156 kr (xd) kr (by omega) (sz := 1) kr w)
  · exact E_v 96 (fun β => nw ((sA (sX (sA (sX (sA (w_) xa xb) xd xa 16) xc xd) xb xc 12) xa xb) (xd))) 69 2 [(0, 0)] (fun β w hk hl hq => R_cellH hl (own := true) (g := aq2) (all := (arrF .u32 16 (sA (sX (sA (sX (sA (w_) xa xb) xd xa 16) xc xd) xb xc 12) xa xb))) (t := 156) (fr := (0, 0)) 0 kr 53 (.tmp 68) rfl (0 + (xd) * 1) kr (nw ((sA (sX (sA (sX (sA (w_) xa xb) xd xa 16) xc xd) xb xc 12) xa xb) (xd))) ((congrArg (fun q => ((arrF .u32 16 (sA (sX (sA (sX (sA (w_) xa xb) xd xa 16) xc xd) xb xc 12) xa xb)))[q]?) (show (0 + (xd) * 1) = xd by omega)).trans (arrF_get (sA (sX (sA (sX (sA (w_) xa xb) xd xa 16) xc xd) xb xc 12) xa xb) (by omega))) _ Tryd.underlying53 rfl)
  · exact E_k 96 (fun β => ni xa) 70 2
  · exact E_v 96 (fun β => pt aq2 (0 + (xa) * 1)) 71 2 [] (fun β w hk hl hq => R_index (k := .i64) (g := aq2) (off := 0) (x := (.tmp 5)) (y := (.tmp 70)) rfl Tryd.underlying156 kr (xa) kr (by omega) (sz := 1) kr w)
  · exact E_v 96 (fun β => nw ((sA (sX (sA (sX (sA (w_) xa xb) xd xa 16) xc xd) xb xc 12) xa xb) (xa))) 72 2 [(0, 0)] (fun β w hk hl hq => R_cellH hl (own := true) (g := aq2) (all := (arrF .u32 16 (sA (sX (sA (sX (sA (w_) xa xb) xd xa 16) xc xd) xb xc 12) xa xb))) (t := 156) (fr := (0, 0)) 0 kr 53 (.tmp 71) rfl (0 + (xa) * 1) kr (nw ((sA (sX (sA (sX (sA (w_) xa xb) xd xa 16) xc xd) xb xc 12) xa xb) (xa))) ((congrArg (fun q => ((arrF .u32 16 (sA (sX (sA (sX (sA (w_) xa xb) xd xa 16) xc xd) xb xc 12) xa xb)))[q]?) (show (0 + (xa) * 1) = xa by omega)).trans (arrF_get (sA (sX (sA (sX (sA (w_) xa xb) xd xa 16) xc xd) xb xc 12) xa xb) (by omega))) _ Tryd.underlying53 rfl)
  · exact E_v 96 (fun β => nw (((sA (sX (sA (sX (sA (w_) xa xb) xd xa 16) xc xd) xb xc 12) xa xb) (xd)) ^^^ ((sA (sX (sA (sX (sA (w_) xa xb) xd xa 16) xc xd) xb xc 12) xa xb) (xa)))) 73 2 [] (fun β w hk hl hq => R_bin (x := (.tmp 69)) (y := (.tmp 72)) rfl (k := .u32) (a := (((sA (sX (sA (sX (sA (w_) xa xb) xd xa 16) xc xd) xb xc 12) xa xb) (xd) : Nat) : Int)) (b := (((sA (sX (sA (sX (sA (w_) xa xb) xd xa 16) xc xd) xb xc 12) xa xb) (xa) : Nat) : Int)) kr kr (i_xor32 (a := (sA (sX (sA (sX (sA (w_) xa xb) xd xa 16) xc xd) xb xc 12) xa xb) (xd)) (b := (sA (sX (sA (sX (sA (w_) xa xb) xd xa 16) xc xd) xb xc 12) xa xb) (xa)) (sA_lt (sX_lt (sA_lt (sX_lt (sA_lt hw xa xb) xd xa 16) xc xd) xb xc 12) xa xb (xd)) (sA_lt (sX_lt (sA_lt (sX_lt (sA_lt hw xa xb) xd xa 16) xc xd) xb xc 12) xa xb (xa))) w)
  · exact E_call 96 kq (fun β => nw (rol ((((sA (sX (sA (sX (sA (w_) xa xb) xd xa 16) xc xd) xb xc 12) xa xb) (xd)) ^^^ ((sA (sX (sA (sX (sA (w_) xa xb) xd xa 16) xc xd) xb xc 12) xa xb) (xa)))) 8)) 74 rfl kq 124 (fun β => #[nw (((sA (sX (sA (sX (sA (w_) xa xb) xd xa 16) xc xd) xb xc 12) xa xb) (xd)) ^^^ ((sA (sX (sA (sX (sA (w_) xa xb) xd xa 16) xc xd) xb xc 12) xa xb) (xa))), ni 8]) (fun β w => kr) 2 [] kr rfl (fun β w hk hl hq => left_any ((((sA (sX (sA (sX (sA (w_) xa xb) xd xa 16) xc xd) xb xc 12) xa xb) (xd)) ^^^ ((sA (sX (sA (sX (sA (w_) xa xb) xd xa 16) xc xd) xb xc 12) xa xb) (xa)))) 8 (xor32 (sA_lt (sX_lt (sA_lt (sX_lt (sA_lt hw xa xb) xd xa 16) xc xd) xb xc 12) xa xb (xd)) (sA_lt (sX_lt (sA_lt (sX_lt (sA_lt hw xa xb) xd xa 16) xc xd) xb xc 12) xa xb (xa))) (by decide) (by decide) _)
  · exact E_v 96 (fun β => pt aq2 (0 + (xd) * 1)) 75 2 [] (fun β w hk hl hq => R_index (k := .i64) (g := aq2) (off := 0) (x := (.tmp 5)) (y := (.tmp 66)) rfl Tryd.underlying156 kr (xd) kr (by omega) (sz := 1) kr w)
  · exact E_store 96 kq rfl 2 [] 0 0 _ _ rfl rfl kr rfl (fun _ => trivial) (fun β w hk hl hq hm => let ⟨w', h1, h2, h3⟩ := P_cell (off := (0 + (xd) * 1)) (old := (arrF .u32 16 (sA (sX (sA (sX (sA (w_) xa xb) xd xa 16) xc xd) xb xc 12) xa xb))) (v := nw (rol ((((sA (sX (sA (sX (sA (w_) xa xb) xd xa 16) xc xd) xb xc 12) xa xb) (xd)) ^^^ ((sA (sX (sA (sX (sA (w_) xa xb) xd xa 16) xc xd) xb xc 12) xa xb) (xa)))) 8)) (Z := ce (arrF .u32 16 (sA (sX (sA (sX (sA (w_) xa xb) xd xa 16) xc xd) xb xc 12) xa xb)) 156) (R := ce (arrF .u32 16 (upd (sA (sX (sA (sX (sA (w_) xa xb) xd xa 16) xc xd) xb xc 12) xa xb) (xd) (rol ((((sA (sX (sA (sX (sA (w_) xa xb) xd xa 16) xc xd) xb xc 12) xa xb) (xd)) ^^^ ((sA (sX (sA (sX (sA (w_) xa xb) xd xa 16) xc xd) xb xc 12) xa xb) (xa)))) 8))) 156) rfl (by rw [show (0 + (xd) * 1) = xd by omega, arrF_upd _ (by omega)]) (ty := 53) (x := (.tmp 75)) (y := (.tmp 74)) rfl kr kr rfl (by rw [arrF_size]; omega) Tryd.underlying53 rfl kr hm; ⟨w', h1, h2, h3⟩)
  clear F H; intro β a v Q F H
  replace H : Hp [] w [bk aq2 (arrF .u32 16 (upd (sA (sX (sA (sX (sA (w_) xa xb) xd xa 16) xc xd) xb xc 12) xa xb) (xd) (rol ((((sA (sX (sA (sX (sA (w_) xa xb) xd xa 16) xc xd) xb xc 12) xa xb) (xd)) ^^^ ((sA (sX (sA (sX (sA (w_) xa xb) xd xa 16) xc xd) xb xc 12) xa xb) (xa)))) 8))) 156, bk aq3 #[.int .u32 0, .int .u32 0, .int .u32 0, .int .u32 0, .int .u32 0, .int .u32 0, .int .u32 0, .int .u32 0, .int .u32 0, .int .u32 0, .int .u32 0, .int .u32 0, .int .u32 0, .int .u32 0, .int .u32 0, .int .u32 0] 156] v := H
  replace F : Fm 96 [] [(75, pt aq2 (0 + (xd) * 1)), (74, nw (rol ((((sA (sX (sA (sX (sA (w_) xa xb) xd xa 16) xc xd) xb xc 12) xa xb) (xd)) ^^^ ((sA (sX (sA (sX (sA (w_) xa xb) xd xa 16) xc xd) xb xc 12) xa xb) (xa)))) 8)), (73, nw (((sA (sX (sA (sX (sA (w_) xa xb) xd xa 16) xc xd) xb xc 12) xa xb) (xd)) ^^^ ((sA (sX (sA (sX (sA (w_) xa xb) xd xa 16) xc xd) xb xc 12) xa xb) (xa)))), (72, nw ((sA (sX (sA (sX (sA (w_) xa xb) xd xa 16) xc xd) xb xc 12) xa xb) (xa))), (71, pt aq2 (0 + (xa) * 1)), (70, ni xa), (69, nw ((sA (sX (sA (sX (sA (w_) xa xb) xd xa 16) xc xd) xb xc 12) xa xb) (xd))), (68, pt aq2 (0 + (xd) * 1)), (67, ni xd), (66, ni xd), (65, pt aq2 (0 + (xa) * 1)), (64, nw (add32 ((sX (sA (sX (sA (w_) xa xb) xd xa 16) xc xd) xb xc 12) (xa)) ((sX (sA (sX (sA (w_) xa xb) xd xa 16) xc xd) xb xc 12) (xb)))), (63, nw ((sX (sA (sX (sA (w_) xa xb) xd xa 16) xc xd) xb xc 12) (xb))), (62, pt aq2 (0 + (xb) * 1)), (61, ni xb), (60, nw ((sX (sA (sX (sA (w_) xa xb) xd xa 16) xc xd) xb xc 12) (xa))), (59, pt aq2 (0 + (xa) * 1)), (58, ni xa), (57, ni xa), (56, pt aq2 (0 + (xb) * 1)), (55, nw (rol ((((sA (sX (sA (w_) xa xb) xd xa 16) xc xd) (xb)) ^^^ ((sA (sX (sA (w_) xa xb) xd xa 16) xc xd) (xc)))) 12)), (54, nw (((sA (sX (sA (w_) xa xb) xd xa 16) xc xd) (xb)) ^^^ ((sA (sX (sA (w_) xa xb) xd xa 16) xc xd) (xc)))), (53, nw ((sA (sX (sA (w_) xa xb) xd xa 16) xc xd) (xc))), (52, pt aq2 (0 + (xc) * 1)), (51, ni xc), (50, nw ((sA (sX (sA (w_) xa xb) xd xa 16) xc xd) (xb))), (49, pt aq2 (0 + (xb) * 1)), (48, ni xb), (47, ni xb), (46, pt aq2 (0 + (xc) * 1)), (45, nw (add32 ((sX (sA (w_) xa xb) xd xa 16) (xc)) ((sX (sA (w_) xa xb) xd xa 16) (xd)))), (44, nw ((sX (sA (w_) xa xb) xd xa 16) (xd))), (43, pt aq2 (0 + (xd) * 1)), (42, ni xd), (41, nw ((sX (sA (w_) xa xb) xd xa 16) (xc))), (40, pt aq2 (0 + (xc) * 1)), (39, ni xc), (38, ni xc), (37, pt aq2 (0 + (xd) * 1)), (36, nw (rol ((((sA (w_) xa xb) (xd)) ^^^ ((sA (w_) xa xb) (xa)))) 16)), (35, nw (((sA (w_) xa xb) (xd)) ^^^ ((sA (w_) xa xb) (xa)))), (34, nw ((sA (w_) xa xb) (xa))), (33, pt aq2 (0 + (xa) * 1)), (32, ni xa), (31, nw ((sA (w_) xa xb) (xd))), (30, pt aq2 (0 + (xd) * 1)), (29, ni xd), (28, ni xd), (27, pt aq2 (0 + (xa) * 1)), (26, nw (add32 (w_ (xa)) (w_ (xb)))), (25, nw (w_ (xb))), (24, pt aq2 (0 + (xb) * 1)), (23, ni xb), (22, nw (w_ (xa))), (21, pt aq2 (0 + (xa) * 1)), (20, ni xa), (19, ni xa), (4, ni xd), (18, ni xd), (17, ni xd), (3, ni xc), (16, ni xc), (15, ni xc), (2, ni xb), (14, ni xb), (13, ni xb), (1, ni xa), (12, ni xa), (11, ni xa), (10, pt aq3 0), (5, pt aq2 0), (0, .agg (arrF .u32 16 w_))] a := F.weak _ (subL_of kr)
  clear Q
  refine ?_
  replace H : Hp [] w [bk aq2 (arrF .u32 16 (sX (sA (sX (sA (sX (sA (w_) xa xb) xd xa 16) xc xd) xb xc 12) xa xb) xd xa 8)) 156, bk aq3 #[.int .u32 0, .int .u32 0, .int .u32 0, .int .u32 0, .int .u32 0, .int .u32 0, .int .u32 0, .int .u32 0, .int .u32 0, .int .u32 0, .int .u32 0, .int .u32 0, .int .u32 0, .int .u32 0, .int .u32 0, .int .u32 0] 156] v := H
  refine hK13 _ _ ?_
  clear hK13
  try clear K13
  refine C_seqK (fun K14 hK14 => ?_)
  refine E_region F H (fun β => [(76, ni xc), (77, ni xc), (78, pt aq2 (0 + (xc) * 1)), (79, nw ((sX (sA (sX (sA (sX (sA (w_) xa xb) xd xa 16) xc xd) xb xc 12) xa xb) xd xa 8) (xc))), (80, ni xd), (81, pt aq2 (0 + (xd) * 1)), (82, nw ((sX (sA (sX (sA (sX (sA (w_) xa xb) xd xa 16) xc xd) xb xc 12) xa xb) xd xa 8) (xd))), (83, nw (add32 ((sX (sA (sX (sA (sX (sA (w_) xa xb) xd xa 16) xc xd) xb xc 12) xa xb) xd xa 8) (xc)) ((sX (sA (sX (sA (sX (sA (w_) xa xb) xd xa 16) xc xd) xb xc 12) xa xb) xd xa 8) (xd)))), (84, pt aq2 (0 + (xc) * 1))]) [76, 77, 78, 79, 80, 81, 82, 83, 84] [⟨none, none, aq2, [], fun q_ => ce (arrF .u32 16 (sX (sA (sX (sA (sX (sA (w_) xa xb) xd xa 16) xc xd) xb xc 12) xa xb) xd xa 8)) 156, gT, [⟨9, [], fun q_ => ce (arrF .u32 16 (upd (sX (sA (sX (sA (sX (sA (w_) xa xb) xd xa 16) xc xd) xb xc 12) xa xb) xd xa 8) (xc) (add32 ((sX (sA (sX (sA (sX (sA (w_) xa xb) xd xa 16) xc xd) xb xc 12) xa xb) xd xa 8) (xc)) ((sX (sA (sX (sA (sX (sA (w_) xa xb) xd xa 16) xc xd) xb xc 12) xa xb) xd xa 8) (xd))))) 156, gT⟩]⟩] [bk aq3 #[.int .u32 0, .int .u32 0, .int .u32 0, .int .u32 0, .int .u32 0, .int .u32 0, .int .u32 0, .int .u32 0, .int .u32 0, .int .u32 0, .int .u32 0, .int .u32 0, .int .u32 0, .int .u32 0, .int .u32 0, .int .u32 0] 156] [0, 1] 2 [] kr kr kr (fun β => rfl) ⟨fun _ _ => trivial, trivial⟩ ⟨?_, ?_, ?_, ?_, ?_, ?_, ?_, ?_, ?_, ?_, trivial⟩ ?_
  · exact E_k 96 (fun β => ni xc) 76 2
  · exact E_k 96 (fun β => ni xc) 77 2
  · exact E_v 96 (fun β => pt aq2 (0 + (xc) * 1)) 78 2 [] (fun β w hk hl hq => R_index (k := .i64) (g := aq2) (off := 0) (x := (.tmp 5)) (y := (.tmp 77)) rfl Tryd.underlying156 kr (xc) kr (by omega) (sz := 1) kr w)
  · exact E_v 96 (fun β => nw ((sX (sA (sX (sA (sX (sA (w_) xa xb) xd xa 16) xc xd) xb xc 12) xa xb) xd xa 8) (xc))) 79 2 [(0, 0)] (fun β w hk hl hq => R_cellH hl (own := true) (g := aq2) (all := (arrF .u32 16 (sX (sA (sX (sA (sX (sA (w_) xa xb) xd xa 16) xc xd) xb xc 12) xa xb) xd xa 8))) (t := 156) (fr := (0, 0)) 0 kr 53 (.tmp 78) rfl (0 + (xc) * 1) kr (nw ((sX (sA (sX (sA (sX (sA (w_) xa xb) xd xa 16) xc xd) xb xc 12) xa xb) xd xa 8) (xc))) ((congrArg (fun q => ((arrF .u32 16 (sX (sA (sX (sA (sX (sA (w_) xa xb) xd xa 16) xc xd) xb xc 12) xa xb) xd xa 8)))[q]?) (show (0 + (xc) * 1) = xc by omega)).trans (arrF_get (sX (sA (sX (sA (sX (sA (w_) xa xb) xd xa 16) xc xd) xb xc 12) xa xb) xd xa 8) (by omega))) _ Tryd.underlying53 rfl)
  · exact E_k 96 (fun β => ni xd) 80 2
  · exact E_v 96 (fun β => pt aq2 (0 + (xd) * 1)) 81 2 [] (fun β w hk hl hq => R_index (k := .i64) (g := aq2) (off := 0) (x := (.tmp 5)) (y := (.tmp 80)) rfl Tryd.underlying156 kr (xd) kr (by omega) (sz := 1) kr w)
  · exact E_v 96 (fun β => nw ((sX (sA (sX (sA (sX (sA (w_) xa xb) xd xa 16) xc xd) xb xc 12) xa xb) xd xa 8) (xd))) 82 2 [(0, 0)] (fun β w hk hl hq => R_cellH hl (own := true) (g := aq2) (all := (arrF .u32 16 (sX (sA (sX (sA (sX (sA (w_) xa xb) xd xa 16) xc xd) xb xc 12) xa xb) xd xa 8))) (t := 156) (fr := (0, 0)) 0 kr 53 (.tmp 81) rfl (0 + (xd) * 1) kr (nw ((sX (sA (sX (sA (sX (sA (w_) xa xb) xd xa 16) xc xd) xb xc 12) xa xb) xd xa 8) (xd))) ((congrArg (fun q => ((arrF .u32 16 (sX (sA (sX (sA (sX (sA (w_) xa xb) xd xa 16) xc xd) xb xc 12) xa xb) xd xa 8)))[q]?) (show (0 + (xd) * 1) = xd by omega)).trans (arrF_get (sX (sA (sX (sA (sX (sA (w_) xa xb) xd xa 16) xc xd) xb xc 12) xa xb) xd xa 8) (by omega))) _ Tryd.underlying53 rfl)
  · exact E_v 96 (fun β => nw (add32 ((sX (sA (sX (sA (sX (sA (w_) xa xb) xd xa 16) xc xd) xb xc 12) xa xb) xd xa 8) (xc)) ((sX (sA (sX (sA (sX (sA (w_) xa xb) xd xa 16) xc xd) xb xc 12) xa xb) xd xa 8) (xd)))) 83 2 [] (fun β w hk hl hq => R_bin (x := (.tmp 79)) (y := (.tmp 82)) rfl (k := .u32) (a := (((sX (sA (sX (sA (sX (sA (w_) xa xb) xd xa 16) xc xd) xb xc 12) xa xb) xd xa 8) (xc) : Nat) : Int)) (b := (((sX (sA (sX (sA (sX (sA (w_) xa xb) xd xa 16) xc xd) xb xc 12) xa xb) xd xa 8) (xd) : Nat) : Int)) kr kr (i_add32 (a := (sX (sA (sX (sA (sX (sA (w_) xa xb) xd xa 16) xc xd) xb xc 12) xa xb) xd xa 8) (xc)) (b := (sX (sA (sX (sA (sX (sA (w_) xa xb) xd xa 16) xc xd) xb xc 12) xa xb) xd xa 8) (xd))) w)
  · exact E_v 96 (fun β => pt aq2 (0 + (xc) * 1)) 84 2 [] (fun β w hk hl hq => R_index (k := .i64) (g := aq2) (off := 0) (x := (.tmp 5)) (y := (.tmp 76)) rfl Tryd.underlying156 kr (xc) kr (by omega) (sz := 1) kr w)
  · exact E_store 96 kq rfl 2 [] 0 0 _ _ rfl rfl kr rfl (fun _ => trivial) (fun β w hk hl hq hm => let ⟨w', h1, h2, h3⟩ := P_cell (off := (0 + (xc) * 1)) (old := (arrF .u32 16 (sX (sA (sX (sA (sX (sA (w_) xa xb) xd xa 16) xc xd) xb xc 12) xa xb) xd xa 8))) (v := nw (add32 ((sX (sA (sX (sA (sX (sA (w_) xa xb) xd xa 16) xc xd) xb xc 12) xa xb) xd xa 8) (xc)) ((sX (sA (sX (sA (sX (sA (w_) xa xb) xd xa 16) xc xd) xb xc 12) xa xb) xd xa 8) (xd)))) (Z := ce (arrF .u32 16 (sX (sA (sX (sA (sX (sA (w_) xa xb) xd xa 16) xc xd) xb xc 12) xa xb) xd xa 8)) 156) (R := ce (arrF .u32 16 (upd (sX (sA (sX (sA (sX (sA (w_) xa xb) xd xa 16) xc xd) xb xc 12) xa xb) xd xa 8) (xc) (add32 ((sX (sA (sX (sA (sX (sA (w_) xa xb) xd xa 16) xc xd) xb xc 12) xa xb) xd xa 8) (xc)) ((sX (sA (sX (sA (sX (sA (w_) xa xb) xd xa 16) xc xd) xb xc 12) xa xb) xd xa 8) (xd))))) 156) rfl (by rw [show (0 + (xc) * 1) = xc by omega, arrF_upd _ (by omega)]) (ty := 53) (x := (.tmp 84)) (y := (.tmp 83)) rfl kr kr rfl (by rw [arrF_size]; omega) Tryd.underlying53 rfl kr hm; ⟨w', h1, h2, h3⟩)
  clear F H; intro β a v Q F H
  replace H : Hp [] w [bk aq2 (arrF .u32 16 (upd (sX (sA (sX (sA (sX (sA (w_) xa xb) xd xa 16) xc xd) xb xc 12) xa xb) xd xa 8) (xc) (add32 ((sX (sA (sX (sA (sX (sA (w_) xa xb) xd xa 16) xc xd) xb xc 12) xa xb) xd xa 8) (xc)) ((sX (sA (sX (sA (sX (sA (w_) xa xb) xd xa 16) xc xd) xb xc 12) xa xb) xd xa 8) (xd))))) 156, bk aq3 #[.int .u32 0, .int .u32 0, .int .u32 0, .int .u32 0, .int .u32 0, .int .u32 0, .int .u32 0, .int .u32 0, .int .u32 0, .int .u32 0, .int .u32 0, .int .u32 0, .int .u32 0, .int .u32 0, .int .u32 0, .int .u32 0] 156] v := H
  replace F : Fm 96 [] [(84, pt aq2 (0 + (xc) * 1)), (83, nw (add32 ((sX (sA (sX (sA (sX (sA (w_) xa xb) xd xa 16) xc xd) xb xc 12) xa xb) xd xa 8) (xc)) ((sX (sA (sX (sA (sX (sA (w_) xa xb) xd xa 16) xc xd) xb xc 12) xa xb) xd xa 8) (xd)))), (82, nw ((sX (sA (sX (sA (sX (sA (w_) xa xb) xd xa 16) xc xd) xb xc 12) xa xb) xd xa 8) (xd))), (81, pt aq2 (0 + (xd) * 1)), (80, ni xd), (79, nw ((sX (sA (sX (sA (sX (sA (w_) xa xb) xd xa 16) xc xd) xb xc 12) xa xb) xd xa 8) (xc))), (78, pt aq2 (0 + (xc) * 1)), (77, ni xc), (76, ni xc), (75, pt aq2 (0 + (xd) * 1)), (74, nw (rol ((((sA (sX (sA (sX (sA (w_) xa xb) xd xa 16) xc xd) xb xc 12) xa xb) (xd)) ^^^ ((sA (sX (sA (sX (sA (w_) xa xb) xd xa 16) xc xd) xb xc 12) xa xb) (xa)))) 8)), (73, nw (((sA (sX (sA (sX (sA (w_) xa xb) xd xa 16) xc xd) xb xc 12) xa xb) (xd)) ^^^ ((sA (sX (sA (sX (sA (w_) xa xb) xd xa 16) xc xd) xb xc 12) xa xb) (xa)))), (72, nw ((sA (sX (sA (sX (sA (w_) xa xb) xd xa 16) xc xd) xb xc 12) xa xb) (xa))), (71, pt aq2 (0 + (xa) * 1)), (70, ni xa), (69, nw ((sA (sX (sA (sX (sA (w_) xa xb) xd xa 16) xc xd) xb xc 12) xa xb) (xd))), (68, pt aq2 (0 + (xd) * 1)), (67, ni xd), (66, ni xd), (65, pt aq2 (0 + (xa) * 1)), (64, nw (add32 ((sX (sA (sX (sA (w_) xa xb) xd xa 16) xc xd) xb xc 12) (xa)) ((sX (sA (sX (sA (w_) xa xb) xd xa 16) xc xd) xb xc 12) (xb)))), (63, nw ((sX (sA (sX (sA (w_) xa xb) xd xa 16) xc xd) xb xc 12) (xb))), (62, pt aq2 (0 + (xb) * 1)), (61, ni xb), (60, nw ((sX (sA (sX (sA (w_) xa xb) xd xa 16) xc xd) xb xc 12) (xa))), (59, pt aq2 (0 + (xa) * 1)), (58, ni xa), (57, ni xa), (56, pt aq2 (0 + (xb) * 1)), (55, nw (rol ((((sA (sX (sA (w_) xa xb) xd xa 16) xc xd) (xb)) ^^^ ((sA (sX (sA (w_) xa xb) xd xa 16) xc xd) (xc)))) 12)), (54, nw (((sA (sX (sA (w_) xa xb) xd xa 16) xc xd) (xb)) ^^^ ((sA (sX (sA (w_) xa xb) xd xa 16) xc xd) (xc)))), (53, nw ((sA (sX (sA (w_) xa xb) xd xa 16) xc xd) (xc))), (52, pt aq2 (0 + (xc) * 1)), (51, ni xc), (50, nw ((sA (sX (sA (w_) xa xb) xd xa 16) xc xd) (xb))), (49, pt aq2 (0 + (xb) * 1)), (48, ni xb), (47, ni xb), (46, pt aq2 (0 + (xc) * 1)), (45, nw (add32 ((sX (sA (w_) xa xb) xd xa 16) (xc)) ((sX (sA (w_) xa xb) xd xa 16) (xd)))), (44, nw ((sX (sA (w_) xa xb) xd xa 16) (xd))), (43, pt aq2 (0 + (xd) * 1)), (42, ni xd), (41, nw ((sX (sA (w_) xa xb) xd xa 16) (xc))), (40, pt aq2 (0 + (xc) * 1)), (39, ni xc), (38, ni xc), (37, pt aq2 (0 + (xd) * 1)), (36, nw (rol ((((sA (w_) xa xb) (xd)) ^^^ ((sA (w_) xa xb) (xa)))) 16)), (35, nw (((sA (w_) xa xb) (xd)) ^^^ ((sA (w_) xa xb) (xa)))), (34, nw ((sA (w_) xa xb) (xa))), (33, pt aq2 (0 + (xa) * 1)), (32, ni xa), (31, nw ((sA (w_) xa xb) (xd))), (30, pt aq2 (0 + (xd) * 1)), (29, ni xd), (28, ni xd), (27, pt aq2 (0 + (xa) * 1)), (26, nw (add32 (w_ (xa)) (w_ (xb)))), (25, nw (w_ (xb))), (24, pt aq2 (0 + (xb) * 1)), (23, ni xb), (22, nw (w_ (xa))), (21, pt aq2 (0 + (xa) * 1)), (20, ni xa), (19, ni xa), (4, ni xd), (18, ni xd), (17, ni xd), (3, ni xc), (16, ni xc), (15, ni xc), (2, ni xb), (14, ni xb), (13, ni xb), (1, ni xa), (12, ni xa), (11, ni xa), (10, pt aq3 0), (5, pt aq2 0), (0, .agg (arrF .u32 16 w_))] a := F.weak _ (subL_of kr)
  clear Q
  refine ?_
  replace H : Hp [] w [bk aq2 (arrF .u32 16 (sA (sX (sA (sX (sA (sX (sA (w_) xa xb) xd xa 16) xc xd) xb xc 12) xa xb) xd xa 8) xc xd)) 156, bk aq3 #[.int .u32 0, .int .u32 0, .int .u32 0, .int .u32 0, .int .u32 0, .int .u32 0, .int .u32 0, .int .u32 0, .int .u32 0, .int .u32 0, .int .u32 0, .int .u32 0, .int .u32 0, .int .u32 0, .int .u32 0, .int .u32 0] 156] v := H
  refine hK14 _ _ ?_
  clear hK14
  try clear K14
  refine C_seqK (fun K15 hK15 => ?_)
  refine E_region F H (fun β => [(85, ni xb), (86, ni xb), (87, pt aq2 (0 + (xb) * 1)), (88, nw ((sA (sX (sA (sX (sA (sX (sA (w_) xa xb) xd xa 16) xc xd) xb xc 12) xa xb) xd xa 8) xc xd) (xb))), (89, ni xc), (90, pt aq2 (0 + (xc) * 1)), (91, nw ((sA (sX (sA (sX (sA (sX (sA (w_) xa xb) xd xa 16) xc xd) xb xc 12) xa xb) xd xa 8) xc xd) (xc))), (92, nw (((sA (sX (sA (sX (sA (sX (sA (w_) xa xb) xd xa 16) xc xd) xb xc 12) xa xb) xd xa 8) xc xd) (xb)) ^^^ ((sA (sX (sA (sX (sA (sX (sA (w_) xa xb) xd xa 16) xc xd) xb xc 12) xa xb) xd xa 8) xc xd) (xc)))), (93, nw (rol ((((sA (sX (sA (sX (sA (sX (sA (w_) xa xb) xd xa 16) xc xd) xb xc 12) xa xb) xd xa 8) xc xd) (xb)) ^^^ ((sA (sX (sA (sX (sA (sX (sA (w_) xa xb) xd xa 16) xc xd) xb xc 12) xa xb) xd xa 8) xc xd) (xc)))) 7)), (94, pt aq2 (0 + (xb) * 1))]) [85, 86, 87, 88, 89, 90, 91, 92, 93, 94] [⟨none, none, aq2, [], fun q_ => ce (arrF .u32 16 (sA (sX (sA (sX (sA (sX (sA (w_) xa xb) xd xa 16) xc xd) xb xc 12) xa xb) xd xa 8) xc xd)) 156, gT, [⟨10, [], fun q_ => ce (arrF .u32 16 (upd (sA (sX (sA (sX (sA (sX (sA (w_) xa xb) xd xa 16) xc xd) xb xc 12) xa xb) xd xa 8) xc xd) (xb) (rol ((((sA (sX (sA (sX (sA (sX (sA (w_) xa xb) xd xa 16) xc xd) xb xc 12) xa xb) xd xa 8) xc xd) (xb)) ^^^ ((sA (sX (sA (sX (sA (sX (sA (w_) xa xb) xd xa 16) xc xd) xb xc 12) xa xb) xd xa 8) xc xd) (xc)))) 7))) 156, gT⟩]⟩] [bk aq3 #[.int .u32 0, .int .u32 0, .int .u32 0, .int .u32 0, .int .u32 0, .int .u32 0, .int .u32 0, .int .u32 0, .int .u32 0, .int .u32 0, .int .u32 0, .int .u32 0, .int .u32 0, .int .u32 0, .int .u32 0, .int .u32 0] 156] [0, 1] 2 [] kr kr kr (fun β => rfl) ⟨fun _ _ => trivial, trivial⟩ ⟨?_, ?_, ?_, ?_, ?_, ?_, ?_, ?_, ?_, ?_, ?_, trivial⟩ ?_
  · exact E_k 96 (fun β => ni xb) 85 2
  · exact E_k 96 (fun β => ni xb) 86 2
  · exact E_v 96 (fun β => pt aq2 (0 + (xb) * 1)) 87 2 [] (fun β w hk hl hq => R_index (k := .i64) (g := aq2) (off := 0) (x := (.tmp 5)) (y := (.tmp 86)) rfl Tryd.underlying156 kr (xb) kr (by omega) (sz := 1) kr w)
  · exact E_v 96 (fun β => nw ((sA (sX (sA (sX (sA (sX (sA (w_) xa xb) xd xa 16) xc xd) xb xc 12) xa xb) xd xa 8) xc xd) (xb))) 88 2 [(0, 0)] (fun β w hk hl hq => R_cellH hl (own := true) (g := aq2) (all := (arrF .u32 16 (sA (sX (sA (sX (sA (sX (sA (w_) xa xb) xd xa 16) xc xd) xb xc 12) xa xb) xd xa 8) xc xd))) (t := 156) (fr := (0, 0)) 0 kr 53 (.tmp 87) rfl (0 + (xb) * 1) kr (nw ((sA (sX (sA (sX (sA (sX (sA (w_) xa xb) xd xa 16) xc xd) xb xc 12) xa xb) xd xa 8) xc xd) (xb))) ((congrArg (fun q => ((arrF .u32 16 (sA (sX (sA (sX (sA (sX (sA (w_) xa xb) xd xa 16) xc xd) xb xc 12) xa xb) xd xa 8) xc xd)))[q]?) (show (0 + (xb) * 1) = xb by omega)).trans (arrF_get (sA (sX (sA (sX (sA (sX (sA (w_) xa xb) xd xa 16) xc xd) xb xc 12) xa xb) xd xa 8) xc xd) (by omega))) _ Tryd.underlying53 rfl)
  · exact E_k 96 (fun β => ni xc) 89 2
  · exact E_v 96 (fun β => pt aq2 (0 + (xc) * 1)) 90 2 [] (fun β w hk hl hq => R_index (k := .i64) (g := aq2) (off := 0) (x := (.tmp 5)) (y := (.tmp 89)) rfl Tryd.underlying156 kr (xc) kr (by omega) (sz := 1) kr w)
  · exact E_v 96 (fun β => nw ((sA (sX (sA (sX (sA (sX (sA (w_) xa xb) xd xa 16) xc xd) xb xc 12) xa xb) xd xa 8) xc xd) (xc))) 91 2 [(0, 0)] (fun β w hk hl hq => R_cellH hl (own := true) (g := aq2) (all := (arrF .u32 16 (sA (sX (sA (sX (sA (sX (sA (w_) xa xb) xd xa 16) xc xd) xb xc 12) xa xb) xd xa 8) xc xd))) (t := 156) (fr := (0, 0)) 0 kr 53 (.tmp 90) rfl (0 + (xc) * 1) kr (nw ((sA (sX (sA (sX (sA (sX (sA (w_) xa xb) xd xa 16) xc xd) xb xc 12) xa xb) xd xa 8) xc xd) (xc))) ((congrArg (fun q => ((arrF .u32 16 (sA (sX (sA (sX (sA (sX (sA (w_) xa xb) xd xa 16) xc xd) xb xc 12) xa xb) xd xa 8) xc xd)))[q]?) (show (0 + (xc) * 1) = xc by omega)).trans (arrF_get (sA (sX (sA (sX (sA (sX (sA (w_) xa xb) xd xa 16) xc xd) xb xc 12) xa xb) xd xa 8) xc xd) (by omega))) _ Tryd.underlying53 rfl)
  · exact E_v 96 (fun β => nw (((sA (sX (sA (sX (sA (sX (sA (w_) xa xb) xd xa 16) xc xd) xb xc 12) xa xb) xd xa 8) xc xd) (xb)) ^^^ ((sA (sX (sA (sX (sA (sX (sA (w_) xa xb) xd xa 16) xc xd) xb xc 12) xa xb) xd xa 8) xc xd) (xc)))) 92 2 [] (fun β w hk hl hq => R_bin (x := (.tmp 88)) (y := (.tmp 91)) rfl (k := .u32) (a := (((sA (sX (sA (sX (sA (sX (sA (w_) xa xb) xd xa 16) xc xd) xb xc 12) xa xb) xd xa 8) xc xd) (xb) : Nat) : Int)) (b := (((sA (sX (sA (sX (sA (sX (sA (w_) xa xb) xd xa 16) xc xd) xb xc 12) xa xb) xd xa 8) xc xd) (xc) : Nat) : Int)) kr kr (i_xor32 (a := (sA (sX (sA (sX (sA (sX (sA (w_) xa xb) xd xa 16) xc xd) xb xc 12) xa xb) xd xa 8) xc xd) (xb)) (b := (sA (sX (sA (sX (sA (sX (sA (w_) xa xb) xd xa 16) xc xd) xb xc 12) xa xb) xd xa 8) xc xd) (xc)) (sA_lt (sX_lt (sA_lt (sX_lt (sA_lt (sX_lt (sA_lt hw xa xb) xd xa 16) xc xd) xb xc 12) xa xb) xd xa 8) xc xd (xb)) (sA_lt (sX_lt (sA_lt (sX_lt (sA_lt (sX_lt (sA_lt hw xa xb) xd xa 16) xc xd) xb xc 12) xa xb) xd xa 8) xc xd (xc))) w)
  · exact E_call 96 kq (fun β => nw (rol ((((sA (sX (sA (sX (sA (sX (sA (w_) xa xb) xd xa 16) xc xd) xb xc 12) xa xb) xd xa 8) xc xd) (xb)) ^^^ ((sA (sX (sA (sX (sA (sX (sA (w_) xa xb) xd xa 16) xc xd) xb xc 12) xa xb) xd xa 8) xc xd) (xc)))) 7)) 93 rfl kq 124 (fun β => #[nw (((sA (sX (sA (sX (sA (sX (sA (w_) xa xb) xd xa 16) xc xd) xb xc 12) xa xb) xd xa 8) xc xd) (xb)) ^^^ ((sA (sX (sA (sX (sA (sX (sA (w_) xa xb) xd xa 16) xc xd) xb xc 12) xa xb) xd xa 8) xc xd) (xc))), ni 7]) (fun β w => kr) 2 [] kr rfl (fun β w hk hl hq => left_any ((((sA (sX (sA (sX (sA (sX (sA (w_) xa xb) xd xa 16) xc xd) xb xc 12) xa xb) xd xa 8) xc xd) (xb)) ^^^ ((sA (sX (sA (sX (sA (sX (sA (w_) xa xb) xd xa 16) xc xd) xb xc 12) xa xb) xd xa 8) xc xd) (xc)))) 7 (xor32 (sA_lt (sX_lt (sA_lt (sX_lt (sA_lt (sX_lt (sA_lt hw xa xb) xd xa 16) xc xd) xb xc 12) xa xb) xd xa 8) xc xd (xb)) (sA_lt (sX_lt (sA_lt (sX_lt (sA_lt (sX_lt (sA_lt hw xa xb) xd xa 16) xc xd) xb xc 12) xa xb) xd xa 8) xc xd (xc))) (by decide) (by decide) _)
  · exact E_v 96 (fun β => pt aq2 (0 + (xb) * 1)) 94 2 [] (fun β w hk hl hq => R_index (k := .i64) (g := aq2) (off := 0) (x := (.tmp 5)) (y := (.tmp 85)) rfl Tryd.underlying156 kr (xb) kr (by omega) (sz := 1) kr w)
  · exact E_store 96 kq rfl 2 [] 0 0 _ _ rfl rfl kr rfl (fun _ => trivial) (fun β w hk hl hq hm => let ⟨w', h1, h2, h3⟩ := P_cell (off := (0 + (xb) * 1)) (old := (arrF .u32 16 (sA (sX (sA (sX (sA (sX (sA (w_) xa xb) xd xa 16) xc xd) xb xc 12) xa xb) xd xa 8) xc xd))) (v := nw (rol ((((sA (sX (sA (sX (sA (sX (sA (w_) xa xb) xd xa 16) xc xd) xb xc 12) xa xb) xd xa 8) xc xd) (xb)) ^^^ ((sA (sX (sA (sX (sA (sX (sA (w_) xa xb) xd xa 16) xc xd) xb xc 12) xa xb) xd xa 8) xc xd) (xc)))) 7)) (Z := ce (arrF .u32 16 (sA (sX (sA (sX (sA (sX (sA (w_) xa xb) xd xa 16) xc xd) xb xc 12) xa xb) xd xa 8) xc xd)) 156) (R := ce (arrF .u32 16 (upd (sA (sX (sA (sX (sA (sX (sA (w_) xa xb) xd xa 16) xc xd) xb xc 12) xa xb) xd xa 8) xc xd) (xb) (rol ((((sA (sX (sA (sX (sA (sX (sA (w_) xa xb) xd xa 16) xc xd) xb xc 12) xa xb) xd xa 8) xc xd) (xb)) ^^^ ((sA (sX (sA (sX (sA (sX (sA (w_) xa xb) xd xa 16) xc xd) xb xc 12) xa xb) xd xa 8) xc xd) (xc)))) 7))) 156) rfl (by rw [show (0 + (xb) * 1) = xb by omega, arrF_upd _ (by omega)]) (ty := 53) (x := (.tmp 94)) (y := (.tmp 93)) rfl kr kr rfl (by rw [arrF_size]; omega) Tryd.underlying53 rfl kr hm; ⟨w', h1, h2, h3⟩)
  clear F H; intro β a v Q F H
  replace H : Hp [] w [bk aq2 (arrF .u32 16 (upd (sA (sX (sA (sX (sA (sX (sA (w_) xa xb) xd xa 16) xc xd) xb xc 12) xa xb) xd xa 8) xc xd) (xb) (rol ((((sA (sX (sA (sX (sA (sX (sA (w_) xa xb) xd xa 16) xc xd) xb xc 12) xa xb) xd xa 8) xc xd) (xb)) ^^^ ((sA (sX (sA (sX (sA (sX (sA (w_) xa xb) xd xa 16) xc xd) xb xc 12) xa xb) xd xa 8) xc xd) (xc)))) 7))) 156, bk aq3 #[.int .u32 0, .int .u32 0, .int .u32 0, .int .u32 0, .int .u32 0, .int .u32 0, .int .u32 0, .int .u32 0, .int .u32 0, .int .u32 0, .int .u32 0, .int .u32 0, .int .u32 0, .int .u32 0, .int .u32 0, .int .u32 0] 156] v := H
  replace F : Fm 96 [] [(94, pt aq2 (0 + (xb) * 1)), (93, nw (rol ((((sA (sX (sA (sX (sA (sX (sA (w_) xa xb) xd xa 16) xc xd) xb xc 12) xa xb) xd xa 8) xc xd) (xb)) ^^^ ((sA (sX (sA (sX (sA (sX (sA (w_) xa xb) xd xa 16) xc xd) xb xc 12) xa xb) xd xa 8) xc xd) (xc)))) 7)), (92, nw (((sA (sX (sA (sX (sA (sX (sA (w_) xa xb) xd xa 16) xc xd) xb xc 12) xa xb) xd xa 8) xc xd) (xb)) ^^^ ((sA (sX (sA (sX (sA (sX (sA (w_) xa xb) xd xa 16) xc xd) xb xc 12) xa xb) xd xa 8) xc xd) (xc)))), (91, nw ((sA (sX (sA (sX (sA (sX (sA (w_) xa xb) xd xa 16) xc xd) xb xc 12) xa xb) xd xa 8) xc xd) (xc))), (90, pt aq2 (0 + (xc) * 1)), (89, ni xc), (88, nw ((sA (sX (sA (sX (sA (sX (sA (w_) xa xb) xd xa 16) xc xd) xb xc 12) xa xb) xd xa 8) xc xd) (xb))), (87, pt aq2 (0 + (xb) * 1)), (86, ni xb), (85, ni xb), (84, pt aq2 (0 + (xc) * 1)), (83, nw (add32 ((sX (sA (sX (sA (sX (sA (w_) xa xb) xd xa 16) xc xd) xb xc 12) xa xb) xd xa 8) (xc)) ((sX (sA (sX (sA (sX (sA (w_) xa xb) xd xa 16) xc xd) xb xc 12) xa xb) xd xa 8) (xd)))), (82, nw ((sX (sA (sX (sA (sX (sA (w_) xa xb) xd xa 16) xc xd) xb xc 12) xa xb) xd xa 8) (xd))), (81, pt aq2 (0 + (xd) * 1)), (80, ni xd), (79, nw ((sX (sA (sX (sA (sX (sA (w_) xa xb) xd xa 16) xc xd) xb xc 12) xa xb) xd xa 8) (xc))), (78, pt aq2 (0 + (xc) * 1)), (77, ni xc), (76, ni xc), (75, pt aq2 (0 + (xd) * 1)), (74, nw (rol ((((sA (sX (sA (sX (sA (w_) xa xb) xd xa 16) xc xd) xb xc 12) xa xb) (xd)) ^^^ ((sA (sX (sA (sX (sA (w_) xa xb) xd xa 16) xc xd) xb xc 12) xa xb) (xa)))) 8)), (73, nw (((sA (sX (sA (sX (sA (w_) xa xb) xd xa 16) xc xd) xb xc 12) xa xb) (xd)) ^^^ ((sA (sX (sA (sX (sA (w_) xa xb) xd xa 16) xc xd) xb xc 12) xa xb) (xa)))), (72, nw ((sA (sX (sA (sX (sA (w_) xa xb) xd xa 16) xc xd) xb xc 12) xa xb) (xa))), (71, pt aq2 (0 + (xa) * 1)), (70, ni xa), (69, nw ((sA (sX (sA (sX (sA (w_) xa xb) xd xa 16) xc xd) xb xc 12) xa xb) (xd))), (68, pt aq2 (0 + (xd) * 1)), (67, ni xd), (66, ni xd), (65, pt aq2 (0 + (xa) * 1)), (64, nw (add32 ((sX (sA (sX (sA (w_) xa xb) xd xa 16) xc xd) xb xc 12) (xa)) ((sX (sA (sX (sA (w_) xa xb) xd xa 16) xc xd) xb xc 12) (xb)))), (63, nw ((sX (sA (sX (sA (w_) xa xb) xd xa 16) xc xd) xb xc 12) (xb))), (62, pt aq2 (0 + (xb) * 1)), (61, ni xb), (60, nw ((sX (sA (sX (sA (w_) xa xb) xd xa 16) xc xd) xb xc 12) (xa))), (59, pt aq2 (0 + (xa) * 1)), (58, ni xa), (57, ni xa), (56, pt aq2 (0 + (xb) * 1)), (55, nw (rol ((((sA (sX (sA (w_) xa xb) xd xa 16) xc xd) (xb)) ^^^ ((sA (sX (sA (w_) xa xb) xd xa 16) xc xd) (xc)))) 12)), (54, nw (((sA (sX (sA (w_) xa xb) xd xa 16) xc xd) (xb)) ^^^ ((sA (sX (sA (w_) xa xb) xd xa 16) xc xd) (xc)))), (53, nw ((sA (sX (sA (w_) xa xb) xd xa 16) xc xd) (xc))), (52, pt aq2 (0 + (xc) * 1)), (51, ni xc), (50, nw ((sA (sX (sA (w_) xa xb) xd xa 16) xc xd) (xb))), (49, pt aq2 (0 + (xb) * 1)), (48, ni xb), (47, ni xb), (46, pt aq2 (0 + (xc) * 1)), (45, nw (add32 ((sX (sA (w_) xa xb) xd xa 16) (xc)) ((sX (sA (w_) xa xb) xd xa 16) (xd)))), (44, nw ((sX (sA (w_) xa xb) xd xa 16) (xd))), (43, pt aq2 (0 + (xd) * 1)), (42, ni xd), (41, nw ((sX (sA (w_) xa xb) xd xa 16) (xc))), (40, pt aq2 (0 + (xc) * 1)), (39, ni xc), (38, ni xc), (37, pt aq2 (0 + (xd) * 1)), (36, nw (rol ((((sA (w_) xa xb) (xd)) ^^^ ((sA (w_) xa xb) (xa)))) 16)), (35, nw (((sA (w_) xa xb) (xd)) ^^^ ((sA (w_) xa xb) (xa)))), (34, nw ((sA (w_) xa xb) (xa))), (33, pt aq2 (0 + (xa) * 1)), (32, ni xa), (31, nw ((sA (w_) xa xb) (xd))), (30, pt aq2 (0 + (xd) * 1)), (29, ni xd), (28, ni xd), (27, pt aq2 (0 + (xa) * 1)), (26, nw (add32 (w_ (xa)) (w_ (xb)))), (25, nw (w_ (xb))), (24, pt aq2 (0 + (xb) * 1)), (23, ni xb), (22, nw (w_ (xa))), (21, pt aq2 (0 + (xa) * 1)), (20, ni xa), (19, ni xa), (4, ni xd), (18, ni xd), (17, ni xd), (3, ni xc), (16, ni xc), (15, ni xc), (2, ni xb), (14, ni xb), (13, ni xb), (1, ni xa), (12, ni xa), (11, ni xa), (10, pt aq3 0), (5, pt aq2 0), (0, .agg (arrF .u32 16 w_))] a := F.weak _ (subL_of kr)
  clear Q
  refine ?_
  replace H : Hp [] w [bk aq2 (arrF .u32 16 (sX (sA (sX (sA (sX (sA (sX (sA (w_) xa xb) xd xa 16) xc xd) xb xc 12) xa xb) xd xa 8) xc xd) xb xc 7)) 156, bk aq3 #[.int .u32 0, .int .u32 0, .int .u32 0, .int .u32 0, .int .u32 0, .int .u32 0, .int .u32 0, .int .u32 0, .int .u32 0, .int .u32 0, .int .u32 0, .int .u32 0, .int .u32 0, .int .u32 0, .int .u32 0, .int .u32 0] 156] v := H
  refine hK15 _ _ ?_
  clear hK15
  try clear K15
  refine C_seqK (fun K16 hK16 => ?_)
  refine C_region ?_
  refine T_val F H kr (.agg (arrF .u32 16 (sX (sA (sX (sA (sX (sA (sX (sA (w_) xa xb) xd xa 16) xc xd) xb xc 12) xa xb) xd xa 8) xc xd) xb xc 7))) (R_load (own := true) (g := aq2) (all := (arrF .u32 16 (sX (sA (sX (sA (sX (sA (sX (sA (w_) xa xb) xd xa 16) xc xd) xb xc 12) xa xb) xd xa 8) xc xd) xb xc 7))) (t := 156) (fr := (0, 0)) 0 kr 156 (.tmp 5) rfl 0 kr (arrF .u32 16 (sX (sA (sX (sA (sX (sA (sX (sA (w_) xa xb) xd xa 16) xc xd) xb xc 12) xa xb) xd xa 8) xc xd) xb xc 7)) (part_all _) _ Tryd.underlying156 rfl (by rw [arrF_size]; kernel_rfl)) ?_
  clear F; intro a F
  refine T_set F H kr rfl 1 rfl (arrF .u32 16 (sX (sA (sX (sA (sX (sA (sX (sA (w_) xa xb) xd xa 16) xc xd) xb xc 12) xa xb) xd xa 8) xc xd) xb xc 7)) (S_row 1 rfl 156 (.tmp 10) (.tmp 95) rfl kr (arrF .u32 16 (sX (sA (sX (sA (sX (sA (sX (sA (w_) xa xb) xd xa 16) xc xd) xb xc 12) xa xb) xd xa 8) xc xd) xb xc 7)) kr (by rw [arrF_size]; kernel_rfl) (by rw [arrF_size]; kernel_rfl) (arrF_one _ _ _)) [bk aq2 (arrF .u32 16 (sX (sA (sX (sA (sX (sA (sX (sA (w_) xa xb) xd xa 16) xc xd) xb xc 12) xa xb) xd xa 8) xc xd) xb xc 7)) 156, bk aq3 (arrF .u32 16 (sX (sA (sX (sA (sX (sA (sX (sA (w_) xa xb) xd xa 16) xc xd) xb xc 12) xa xb) xd xa 8) xc xd) xb xc 7)) 156] rfl ?_
  clear F H; intro a v F H
  refine wpList_nil ?_
  refine hK16 _ _ ?_
  clear hK16
  try clear K16
  refine wp_ret ?_
  exact C_ret F H (rs := [.cell 10 156]) rfl (vs := [.agg (arrF .u32 16 (sX (sA (sX (sA (sX (sA (sX (sA (w_) xa xb) xd xa 16) xc xd) xb xc 12) xa xb) xd xa 8) xc xd) xb xc 7))]) (.row 1 rfl rfl _ Tryd.underlying156 rfl kr .nil) (.agg (arrF .u32 16 (sX (sA (sX (sA (sX (sA (sX (sA (w_) xa xb) xd xa 16) xc xd) xb xc 12) xa xb) xd xa 8) xc xd) xb xc 7))) rfl ⟨rfl, H.kept⟩

theorem R_indexAgg {P : Program} {o : Oper} {V : List (Nat × Value)} {t e : TypeId} {x y : Operand} (ho : o.op = .index t x y) {len : Nat} (hu : P.underlying t = some (.array len e)) {d : TypeDesc} (hue : P.underlying e = some d) (hd : (match d with | .struct _ | .array _ _ => true | _ => false) = true) {sz : Nat} (hs : (P.info? e).map (·.size) = some sz) {cs : Array Value} (hx : evV V x = .agg cs) {k : IntKind} (i : Nat) (hy : evV V y = .int k i) (hi : i < len) (sub : Array Value) (hv : cs.extract (i * sz) (i * sz + sz) = sub) (w : World) :
    (execOp (evV V) o).run P w = .ok (.value (.agg sub)) w := by
  have hsz : (sizeOf e).run P w = .ok sz w := by
    cases hq : P.info? e with
    | none => simp [hq] at hs
    | some j =>
      have hs' : j.size = sz := by simpa [hq] using hs
      simp [sizeOf, typeInfo, hq, hs', Sem.run_bind, go_sem]
  have hagg : (isAgg e).run P w = .ok true w := by
    unfold isAgg
    rw [Sem.run_bind, run_underlying hue w]
    cases d <;> simp_all
  have h1 : (0 : Int) ≤ i ∧ (i : Int) < len := by omega
  have h2 : ¬ len ≤ i := by omega
  unfold execOp
  simp only [ho, hx, hy]
  simp [Instr.index, part, asIntOf, Sem.run_bind, run_underlying hu w, h1, h2, hi, hsz, hagg, hv, go_sem]
/-- A quarter round's turns, as its table has them. -/
def tnT (i : Nat) : Nat := if i = 0 then 16 else if i = 1 then 12 else if i = 2 then 8 else 7
def tnK (k j : Nat) : Nat := if j = 0 then tn1 k else tn2 k
theorem tn_cut {k : Nat} (h : k < 2) : (arrF .i64 4 tnT).extract (k * 2) (k * 2 + 2) = arrF .i64 2 (tnK k) := by
  rcases (show k = 0 ∨ k = 1 by omega) with rfl | rfl <;> kernel_rfl
theorem tn1_b (k : Nat) : 1 ≤ tn1 k ∧ tn1 k ≤ 31 := by unfold tn1; split <;> omega
theorem tn2_b (k : Nat) : 1 ≤ tn2 k ∧ tn2 k ≤ 31 := by unfold tn2; split <;> omega

set_option maxRecDepth 100000 in
set_option maxHeartbeats 4000000 in
theorem quarter_any (w_ : Nat → Nat) (hw : ∀ i, w_ i < 4294967296) (xa xb xc xd : Nat) (ha : xa < 16) (hb : xb < 16) (hc : xc < 16) (hd : xd < 16) (w : World) : Calls Tryd.prog 135 #[.agg (arrF .u32 16 w_), .int .i64 ((xa : Nat) : Int), .int .i64 ((xb : Nat) : Int), .int .i64 ((xc : Nat) : Int), .int .i64 ((xd : Nat) : Int)] w fun e w' => e = .returned (.agg (arrF .u32 16 (qs w_ xa xb xc xd 2))) ∧ Kept [] w w' := by
  refine C_enter Tryd.func135 rfl 69 Tryd.ntmps135 (Nat.le_of_ble_eq_true rfl) (fun a F => ?_)
  have H := Hp.start [] w
  replace F : Fm 69 [] [(0, .agg (arrF .u32 16 w_)), (1, ni xa), (2, ni xb), (3, ni xc), (4, ni xd)] a := F.weak _ (subL_of kr)
  refine C_seqK (fun K1 hK1 => ?_)
  refine C_region ?_
  refine T_new F H kr (fun ad => pt ad 0) (ce (arrF .u32 16 w_) 176) (fun w => kr) ?_
  clear F H; intro aq2 a v F H
  refine T_new F H kr (fun ad => pt ad 0) (ce #[.int .u32 0, .int .u32 0, .int .u32 0, .int .u32 0, .int .u32 0, .int .u32 0, .int .u32 0, .int .u32 0, .int .u32 0, .int .u32 0, .int .u32 0, .int .u32 0, .int .u32 0, .int .u32 0, .int .u32 0, .int .u32 0] 176) (fun w => kr) ?_
  clear F H; intro aq3 a v F H
  refine wpList_nil ?_
  refine hK1 _ _ ?_
  clear hK1
  try clear K1
  refine C_seqK (fun K4 hK4 => ?_)
  refine C_region ?_
  refine T_k F H (ni xa) ?_
  clear F; intro a F
  refine T_val F H kr (ni xa) (fun w _ => R_bin (x := (.tmp 13)) (y := (.const (.int .i64 15))) rfl (k := .i64) (a := ((xa : Nat) : Int)) (b := ((15 : Nat) : Int)) kr kr (i_and15 ha) w) ?_
  clear F; intro a F
  refine T_k F H (ni xb) ?_
  clear F; intro a F
  refine T_val F H kr (ni xb) (fun w _ => R_bin (x := (.tmp 15)) (y := (.const (.int .i64 15))) rfl (k := .i64) (a := ((xb : Nat) : Int)) (b := ((15 : Nat) : Int)) kr kr (i_and15 hb) w) ?_
  clear F; intro a F
  refine T_k F H (ni xc) ?_
  clear F; intro a F
  refine T_val F H kr (ni xc) (fun w _ => R_bin (x := (.tmp 17)) (y := (.const (.int .i64 15))) rfl (k := .i64) (a := ((xc : Nat) : Int)) (b := ((15 : Nat) : Int)) kr kr (i_and15 hc) w) ?_
  clear F; intro a F
  refine T_k F H (ni xd) ?_
  clear F; intro a F
  refine T_val F H kr (ni xd) (fun w _ => R_bin (x := (.tmp 19)) (y := (.const (.int .i64 15))) rfl (k := .i64) (a := ((xd : Nat) : Int)) (b := ((15 : Nat) : Int)) kr kr (i_and15 hd) w) ?_
  clear F; intro a F
  refine T_k F H (ni xa) ?_
  clear F; intro a F
  refine T_k F H (ni xb) ?_
  clear F; intro a F
  refine T_k F H (ni xc) ?_
  clear F; intro a F
  refine T_k F H (ni xd) ?_
  clear F; intro a F
  refine wpList_nil ?_
  refine hK4 _ _ ?_
  clear hK4
  try clear K4
  refine C_seqK (fun K5 hK5 => ?_)
  refine C_seqK (fun K6 hK6 => ?_)
  refine C_region ?_
  refine T_k F H (.agg #[ni 16, ni 12]) ?_
  clear F; intro a F
  refine T_k F H (.agg #[ni 8, ni 7]) ?_
  clear F; intro a F
  refine T_k F H (.agg (arrF .i64 4 tnT)) ?_
  clear F; intro a F
  refine T_k F H (ni 0) ?_
  clear F; intro a F
  refine wpList_nil ?_
  replace F : Fm 69 [] [(24, ni 0), (23, .agg (arrF .i64 4 tnT)), (1, ni xa), (2, ni xb), (3, ni xc), (4, ni xd), (5, pt aq2 0), (10, pt aq3 0)] a := F.weak _ (subL_of kr)
  refine hK6 _ _ ?_
  clear hK6
  try clear K6
  refine wp_block ?_
  refine C_loop (fun m a v => ∃ k, k + m = 2 ∧ Fm 69 [] [(24, ni k), (23, .agg (arrF .i64 4 tnT)), (1, ni xa), (2, ni xb), (3, ni xc), (4, ni xd), (5, pt aq2 0), (10, pt aq3 0)] a ∧ Hp [] w [bk aq3 #[.int .u32 0, .int .u32 0, .int .u32 0, .int .u32 0, .int .u32 0, .int .u32 0, .int .u32 0, .int .u32 0, .int .u32 0, .int .u32 0, .int .u32 0, .int .u32 0, .int .u32 0, .int .u32 0, .int .u32 0, .int .u32 0] 176, bk aq2 (arrF .u32 16 (qs w_ xa xb xc xd k)) 176] v) (2) ⟨0, Nat.zero_add _, F, H⟩ ?_
  clear F H
  intro m a v ⟨k, hk, F, H⟩
  rcases m with _ | m
  rotate_left
  · skip
    obtain ⟨hn1, hn2⟩ := tn1_b k
    obtain ⟨hn3, hn4⟩ := tn2_b k
    have hm1 : 1 ≤ tnK k 0 ∧ tnK k 0 ≤ 31 := ⟨hn1, hn2⟩
    have hm2 : 1 ≤ tnK k 1 ∧ tnK k 1 ≤ 31 := ⟨hn3, hn4⟩
    refine C_seqK (fun K7 hK7 => ?_)
    refine C_region ?_
    refine T_val F H kr (.bool true) (fun w _ => R_bin (x := (.tmp 24)) (y := (.const (.int .i64 2))) rfl (k := .i64) (a := ((k : Nat) : Int)) (b := ((2 : Nat) : Int)) kr kr (i_lt (by omega)) w) ?_
    clear F; intro a F
    refine wpList_nil ?_
    refine hK7 _ _ ?_
    clear hK7
    try clear K7
    refine C_seqK (fun K8 hK8 => ?_)
    refine C_if F true rfl rfl ?_
    refine wp_skip ?_
    refine hK8 _ _ ?_
    clear hK8
    try clear K8
    refine C_seqK (fun K9 hK9 => ?_)
    refine wp_block ?_
    refine C_seqK (fun K10 hK10 => ?_)
    refine C_region ?_
    refine T_val F H kr (.agg (arrF .i64 2 (tnK k))) (fun w _ => R_indexAgg (x := (.tmp 23)) (y := (.tmp 24)) rfl Tryd.underlying183 Tryd.underlying79 rfl (sz := 2) kr (cs := (arrF .i64 4 tnT)) kr (k := .i64) k kr (by omega) _ (tn_cut (by omega)) w) ?_
    clear F; intro a F
    refine T_new F H kr (fun ad => pt ad 0) (ce #[.int .i64 0, .int .i64 0] 79) (fun w => kr) ?_
    clear F H; intro aq11 a v F H
    refine T_set F H kr rfl 0 rfl (arrF .i64 2 (tnK k)) (S_row 0 rfl 79 (.tmp 12) (.tmp 26) rfl kr (arrF .i64 2 (tnK k)) kr (by rw [arrF_size]; kernel_rfl) (by rw [arrF_size]; kernel_rfl) (arrF_one _ _ _)) [bk aq11 (arrF .i64 2 (tnK k)) 79, bk aq3 #[.int .u32 0, .int .u32 0, .int .u32 0, .int .u32 0, .int .u32 0, .int .u32 0, .int .u32 0, .int .u32 0, .int .u32 0, .int .u32 0, .int .u32 0, .int .u32 0, .int .u32 0, .int .u32 0, .int .u32 0, .int .u32 0] 176, bk aq2 (arrF .u32 16 (qs w_ xa xb xc xd k)) 176] rfl ?_
    clear F H; intro a v F H
    refine wpList_nil ?_
    refine hK10 _ _ ?_
    clear hK10
    try clear K10
    refine C_seqK (fun K12 hK12 => ?_)
    refine E_region F H (fun β => [(27, ni xa), (28, pt aq2 (0 + (xa) * 1)), (29, nw ((qs w_ xa xb xc xd k) (xa))), (30, ni xb), (31, pt aq2 (0 + (xb) * 1)), (32, nw ((qs w_ xa xb xc xd k) (xb))), (33, nw (add32 ((qs w_ xa xb xc xd k) (xa)) ((qs w_ xa xb xc xd k) (xb)))), (34, pt aq2 (0 + (xa) * 1))]) [27, 28, 29, 30, 31, 32, 33, 34] [⟨none, none, aq2, [], fun q_ => ce (arrF .u32 16 (qs w_ xa xb xc xd k)) 176, gT, [⟨8, [], fun q_ => ce (arrF .u32 16 (upd (qs w_ xa xb xc xd k) (xa) (add32 ((qs w_ xa xb xc xd k) (xa)) ((qs w_ xa xb xc xd k) (xb))))) 176, gT⟩]⟩] [bk aq11 (arrF .i64 2 (tnK k)) 79, bk aq3 #[.int .u32 0, .int .u32 0, .int .u32 0, .int .u32 0, .int .u32 0, .int .u32 0, .int .u32 0, .int .u32 0, .int .u32 0, .int .u32 0, .int .u32 0, .int .u32 0, .int .u32 0, .int .u32 0, .int .u32 0, .int .u32 0] 176] [2, 0, 1] 2 [] kr kr kr (fun β => rfl) ⟨fun _ _ => trivial, trivial⟩ ⟨?_, ?_, ?_, ?_, ?_, ?_, ?_, ?_, ?_, trivial⟩ ?_
    · exact E_k 69 (fun β => ni xa) 27 2
    · exact E_v 69 (fun β => pt aq2 (0 + (xa) * 1)) 28 2 [] (fun β w hk hl hq => R_index (k := .i64) (g := aq2) (off := 0) (x := (.tmp 5)) (y := (.tmp 27)) rfl Tryd.underlying176 kr (xa) kr (by omega) (sz := 1) kr w)
    · exact E_v 69 (fun β => nw ((qs w_ xa xb xc xd k) (xa))) 29 2 [(0, 0)] (fun β w hk hl hq => R_cellH hl (own := true) (g := aq2) (all := (arrF .u32 16 (qs w_ xa xb xc xd k))) (t := 176) (fr := (0, 0)) 0 kr 53 (.tmp 28) rfl (0 + (xa) * 1) kr (nw ((qs w_ xa xb xc xd k) (xa))) ((congrArg (fun q => ((arrF .u32 16 (qs w_ xa xb xc xd k)))[q]?) (show (0 + (xa) * 1) = xa by omega)).trans (arrF_get (qs w_ xa xb xc xd k) (by omega))) _ Tryd.underlying53 rfl)
    · exact E_k 69 (fun β => ni xb) 30 2
    · exact E_v 69 (fun β => pt aq2 (0 + (xb) * 1)) 31 2 [] (fun β w hk hl hq => R_index (k := .i64) (g := aq2) (off := 0) (x := (.tmp 5)) (y := (.tmp 30)) rfl Tryd.underlying176 kr (xb) kr (by omega) (sz := 1) kr w)
    · exact E_v 69 (fun β => nw ((qs w_ xa xb xc xd k) (xb))) 32 2 [(0, 0)] (fun β w hk hl hq => R_cellH hl (own := true) (g := aq2) (all := (arrF .u32 16 (qs w_ xa xb xc xd k))) (t := 176) (fr := (0, 0)) 0 kr 53 (.tmp 31) rfl (0 + (xb) * 1) kr (nw ((qs w_ xa xb xc xd k) (xb))) ((congrArg (fun q => ((arrF .u32 16 (qs w_ xa xb xc xd k)))[q]?) (show (0 + (xb) * 1) = xb by omega)).trans (arrF_get (qs w_ xa xb xc xd k) (by omega))) _ Tryd.underlying53 rfl)
    · exact E_v 69 (fun β => nw (add32 ((qs w_ xa xb xc xd k) (xa)) ((qs w_ xa xb xc xd k) (xb)))) 33 2 [] (fun β w hk hl hq => R_bin (x := (.tmp 29)) (y := (.tmp 32)) rfl (k := .u32) (a := (((qs w_ xa xb xc xd k) (xa) : Nat) : Int)) (b := (((qs w_ xa xb xc xd k) (xb) : Nat) : Int)) kr kr (i_add32 (a := (qs w_ xa xb xc xd k) (xa)) (b := (qs w_ xa xb xc xd k) (xb))) w)
    · exact E_v 69 (fun β => pt aq2 (0 + (xa) * 1)) 34 2 [] (fun β w hk hl hq => R_index (k := .i64) (g := aq2) (off := 0) (x := (.tmp 5)) (y := (.tmp 27)) rfl Tryd.underlying176 kr (xa) kr (by omega) (sz := 1) kr w)
    · exact E_store 69 kq rfl 2 [] 0 0 _ _ rfl rfl kr rfl (fun _ => trivial) (fun β w hk hl hq hm => let ⟨w', h1, h2, h3⟩ := P_cell (off := (0 + (xa) * 1)) (old := (arrF .u32 16 (qs w_ xa xb xc xd k))) (v := nw (add32 ((qs w_ xa xb xc xd k) (xa)) ((qs w_ xa xb xc xd k) (xb)))) (Z := ce (arrF .u32 16 (qs w_ xa xb xc xd k)) 176) (R := ce (arrF .u32 16 (upd (qs w_ xa xb xc xd k) (xa) (add32 ((qs w_ xa xb xc xd k) (xa)) ((qs w_ xa xb xc xd k) (xb))))) 176) rfl (by rw [show (0 + (xa) * 1) = xa by omega, arrF_upd _ (by omega)]) (ty := 53) (x := (.tmp 34)) (y := (.tmp 33)) rfl kr kr rfl (by rw [arrF_size]; omega) Tryd.underlying53 rfl kr hm; ⟨w', h1, h2, h3⟩)
    clear F H; intro β a v Q F H
    replace H : Hp [] w [bk aq2 (arrF .u32 16 (upd (qs w_ xa xb xc xd k) (xa) (add32 ((qs w_ xa xb xc xd k) (xa)) ((qs w_ xa xb xc xd k) (xb))))) 176, bk aq11 (arrF .i64 2 (tnK k)) 79, bk aq3 #[.int .u32 0, .int .u32 0, .int .u32 0, .int .u32 0, .int .u32 0, .int .u32 0, .int .u32 0, .int .u32 0, .int .u32 0, .int .u32 0, .int .u32 0, .int .u32 0, .int .u32 0, .int .u32 0, .int .u32 0, .int .u32 0] 176] v := H
    replace F : Fm 69 [] [(34, pt aq2 (0 + (xa) * 1)), (33, nw (add32 ((qs w_ xa xb xc xd k) (xa)) ((qs w_ xa xb xc xd k) (xb)))), (32, nw ((qs w_ xa xb xc xd k) (xb))), (31, pt aq2 (0 + (xb) * 1)), (30, ni xb), (29, nw ((qs w_ xa xb xc xd k) (xa))), (28, pt aq2 (0 + (xa) * 1)), (27, ni xa), (12, pt aq11 0), (26, .agg (arrF .i64 2 (tnK k))), (25, .bool true), (24, ni k), (23, .agg (arrF .i64 4 tnT)), (1, ni xa), (2, ni xb), (3, ni xc), (4, ni xd), (5, pt aq2 0), (10, pt aq3 0)] a := F.weak _ (subL_of kr)
    clear Q
    refine ?_
    replace H : Hp [] w [bk aq2 (arrF .u32 16 (sA (qs w_ xa xb xc xd k) xa xb)) 176, bk aq11 (arrF .i64 2 (tnK k)) 79, bk aq3 #[.int .u32 0, .int .u32 0, .int .u32 0, .int .u32 0, .int .u32 0, .int .u32 0, .int .u32 0, .int .u32 0, .int .u32 0, .int .u32 0, .int .u32 0, .int .u32 0, .int .u32 0, .int .u32 0, .int .u32 0, .int .u32 0] 176] v := H
    refine hK12 _ _ ?_
    clear hK12
    try clear K12
    refine C_seqK (fun K13 hK13 => ?_)
    refine E_region F H (fun β => [(35, ni xd), (36, ni xd), (37, pt aq2 (0 + (xd) * 1)), (38, nw ((sA (qs w_ xa xb xc xd k) xa xb) (xd))), (39, ni xa), (40, pt aq2 (0 + (xa) * 1)), (41, nw ((sA (qs w_ xa xb xc xd k) xa xb) (xa))), (42, nw (((sA (qs w_ xa xb xc xd k) xa xb) (xd)) ^^^ ((sA (qs w_ xa xb xc xd k) xa xb) (xa)))), (43, pt aq11 0), (44, ni ((tnK k) 0)), (45, nw (rol ((((sA (qs w_ xa xb xc xd k) xa xb) (xd)) ^^^ ((sA (qs w_ xa xb xc xd k) xa xb) (xa)))) ((tnK k) 0))), (46, pt aq2 (0 + (xd) * 1))]) [35, 36, 37, 38, 39, 40, 41, 42, 43, 44, 45, 46] [⟨none, none, aq2, [], fun q_ => ce (arrF .u32 16 (sA (qs w_ xa xb xc xd k) xa xb)) 176, gT, [⟨12, [], fun q_ => ce (arrF .u32 16 (upd (sA (qs w_ xa xb xc xd k) xa xb) (xd) (rol ((((sA (qs w_ xa xb xc xd k) xa xb) (xd)) ^^^ ((sA (qs w_ xa xb xc xd k) xa xb) (xa)))) ((tnK k) 0)))) 176, gT⟩]⟩] [bk aq11 (arrF .i64 2 (tnK k)) 79, bk aq3 #[.int .u32 0, .int .u32 0, .int .u32 0, .int .u32 0, .int .u32 0, .int .u32 0, .int .u32 0, .int .u32 0, .int .u32 0, .int .u32 0, .int .u32 0, .int .u32 0, .int .u32 0, .int .u32 0, .int .u32 0, .int .u32 0] 176] [0, 1, 2] 2 [] kr kr kr (fun β => rfl) ⟨fun _ _ => trivial, trivial⟩ ⟨?_, ?_, ?_, ?_, ?_, ?_, ?_, ?_, ?_, ?_, ?_, ?_, ?_, trivial⟩ ?_
    · exact E_k 69 (fun β => ni xd) 35 2
    · exact E_k 69 (fun β => ni xd) 36 2
    · exact E_v 69 (fun β => pt aq2 (0 + (xd) * 1)) 37 2 [] (fun β w hk hl hq => R_index (k := .i64) (g := aq2) (off := 0) (x := (.tmp 5)) (y := (.tmp 36)) rfl Tryd.underlying176 kr (xd) kr (by omega) (sz := 1) kr w)
    · exact E_v 69 (fun β => nw ((sA (qs w_ xa xb xc xd k) xa xb) (xd))) 38 2 [(0, 0)] (fun β w hk hl hq => R_cellH hl (own := true) (g := aq2) (all := (arrF .u32 16 (sA (qs w_ xa xb xc xd k) xa xb))) (t := 176) (fr := (0, 0)) 0 kr 53 (.tmp 37) rfl (0 + (xd) * 1) kr (nw ((sA (qs w_ xa xb xc xd k) xa xb) (xd))) ((congrArg (fun q => ((arrF .u32 16 (sA (qs w_ xa xb xc xd k) xa xb)))[q]?) (show (0 + (xd) * 1) = xd by omega)).trans (arrF_get (sA (qs w_ xa xb xc xd k) xa xb) (by omega))) _ Tryd.underlying53 rfl)
    · exact E_k 69 (fun β => ni xa) 39 2
    · exact E_v 69 (fun β => pt aq2 (0 + (xa) * 1)) 40 2 [] (fun β w hk hl hq => R_index (k := .i64) (g := aq2) (off := 0) (x := (.tmp 5)) (y := (.tmp 39)) rfl Tryd.underlying176 kr (xa) kr (by omega) (sz := 1) kr w)
    · exact E_v 69 (fun β => nw ((sA (qs w_ xa xb xc xd k) xa xb) (xa))) 41 2 [(0, 0)] (fun β w hk hl hq => R_cellH hl (own := true) (g := aq2) (all := (arrF .u32 16 (sA (qs w_ xa xb xc xd k) xa xb))) (t := 176) (fr := (0, 0)) 0 kr 53 (.tmp 40) rfl (0 + (xa) * 1) kr (nw ((sA (qs w_ xa xb xc xd k) xa xb) (xa))) ((congrArg (fun q => ((arrF .u32 16 (sA (qs w_ xa xb xc xd k) xa xb)))[q]?) (show (0 + (xa) * 1) = xa by omega)).trans (arrF_get (sA (qs w_ xa xb xc xd k) xa xb) (by omega))) _ Tryd.underlying53 rfl)
    · exact E_v 69 (fun β => nw (((sA (qs w_ xa xb xc xd k) xa xb) (xd)) ^^^ ((sA (qs w_ xa xb xc xd k) xa xb) (xa)))) 42 2 [] (fun β w hk hl hq => R_bin (x := (.tmp 38)) (y := (.tmp 41)) rfl (k := .u32) (a := (((sA (qs w_ xa xb xc xd k) xa xb) (xd) : Nat) : Int)) (b := (((sA (qs w_ xa xb xc xd k) xa xb) (xa) : Nat) : Int)) kr kr (i_xor32 (a := (sA (qs w_ xa xb xc xd k) xa xb) (xd)) (b := (sA (qs w_ xa xb xc xd k) xa xb) (xa)) (sA_lt (qs_lt hw xa xb xc xd k) xa xb (xd)) (sA_lt (qs_lt hw xa xb xc xd k) xa xb (xa))) w)
    · exact E_k 69 (fun β => pt aq11 0) 43 2
    · exact E_v 69 (fun β => ni ((tnK k) 0)) 44 2 [] (fun β w hk hl hq => R_cellH hl (own := true) (g := aq11) (all := (arrF .i64 2 (tnK k))) (t := 79) (fr := (0, 0)) 0 kr 3 (.tmp 43) rfl 0 kr (ni ((tnK k) 0)) kr _ Tryd.underlying3 rfl)
    · exact E_call 69 kq (fun β => nw (rol ((((sA (qs w_ xa xb xc xd k) xa xb) (xd)) ^^^ ((sA (qs w_ xa xb xc xd k) xa xb) (xa)))) ((tnK k) 0))) 45 rfl kq 126 (fun β => #[nw (((sA (qs w_ xa xb xc xd k) xa xb) (xd)) ^^^ ((sA (qs w_ xa xb xc xd k) xa xb) (xa))), ni ((tnK k) 0)]) (fun β w => kr) 2 [] kr rfl (fun β w hk hl hq => rolp_any ((((sA (qs w_ xa xb xc xd k) xa xb) (xd)) ^^^ ((sA (qs w_ xa xb xc xd k) xa xb) (xa)))) ((tnK k) 0) (xor32 (sA_lt (qs_lt hw xa xb xc xd k) xa xb (xd)) (sA_lt (qs_lt hw xa xb xc xd k) xa xb (xa))) hm1.1 hm1.2 _)
    · exact E_v 69 (fun β => pt aq2 (0 + (xd) * 1)) 46 2 [] (fun β w hk hl hq => R_index (k := .i64) (g := aq2) (off := 0) (x := (.tmp 5)) (y := (.tmp 35)) rfl Tryd.underlying176 kr (xd) kr (by omega) (sz := 1) kr w)
    · exact E_store 69 kq rfl 2 [] 0 0 _ _ rfl rfl kr rfl (fun _ => trivial) (fun β w hk hl hq hm => let ⟨w', h1, h2, h3⟩ := P_cell (off := (0 + (xd) * 1)) (old := (arrF .u32 16 (sA (qs w_ xa xb xc xd k) xa xb))) (v := nw (rol ((((sA (qs w_ xa xb xc xd k) xa xb) (xd)) ^^^ ((sA (qs w_ xa xb xc xd k) xa xb) (xa)))) ((tnK k) 0))) (Z := ce (arrF .u32 16 (sA (qs w_ xa xb xc xd k) xa xb)) 176) (R := ce (arrF .u32 16 (upd (sA (qs w_ xa xb xc xd k) xa xb) (xd) (rol ((((sA (qs w_ xa xb xc xd k) xa xb) (xd)) ^^^ ((sA (qs w_ xa xb xc xd k) xa xb) (xa)))) ((tnK k) 0)))) 176) rfl (by rw [show (0 + (xd) * 1) = xd by omega, arrF_upd _ (by omega)]) (ty := 53) (x := (.tmp 46)) (y := (.tmp 45)) rfl kr kr rfl (by rw [arrF_size]; omega) Tryd.underlying53 rfl kr hm; ⟨w', h1, h2, h3⟩)
    clear F H; intro β a v Q F H
    replace H : Hp [] w [bk aq2 (arrF .u32 16 (upd (sA (qs w_ xa xb xc xd k) xa xb) (xd) (rol ((((sA (qs w_ xa xb xc xd k) xa xb) (xd)) ^^^ ((sA (qs w_ xa xb xc xd k) xa xb) (xa)))) ((tnK k) 0)))) 176, bk aq11 (arrF .i64 2 (tnK k)) 79, bk aq3 #[.int .u32 0, .int .u32 0, .int .u32 0, .int .u32 0, .int .u32 0, .int .u32 0, .int .u32 0, .int .u32 0, .int .u32 0, .int .u32 0, .int .u32 0, .int .u32 0, .int .u32 0, .int .u32 0, .int .u32 0, .int .u32 0] 176] v := H
    replace F : Fm 69 [] [(46, pt aq2 (0 + (xd) * 1)), (45, nw (rol ((((sA (qs w_ xa xb xc xd k) xa xb) (xd)) ^^^ ((sA (qs w_ xa xb xc xd k) xa xb) (xa)))) ((tnK k) 0))), (44, ni ((tnK k) 0)), (43, pt aq11 0), (42, nw (((sA (qs w_ xa xb xc xd k) xa xb) (xd)) ^^^ ((sA (qs w_ xa xb xc xd k) xa xb) (xa)))), (41, nw ((sA (qs w_ xa xb xc xd k) xa xb) (xa))), (40, pt aq2 (0 + (xa) * 1)), (39, ni xa), (38, nw ((sA (qs w_ xa xb xc xd k) xa xb) (xd))), (37, pt aq2 (0 + (xd) * 1)), (36, ni xd), (35, ni xd), (34, pt aq2 (0 + (xa) * 1)), (33, nw (add32 ((qs w_ xa xb xc xd k) (xa)) ((qs w_ xa xb xc xd k) (xb)))), (32, nw ((qs w_ xa xb xc xd k) (xb))), (31, pt aq2 (0 + (xb) * 1)), (30, ni xb), (29, nw ((qs w_ xa xb xc xd k) (xa))), (28, pt aq2 (0 + (xa) * 1)), (27, ni xa), (12, pt aq11 0), (26, .agg (arrF .i64 2 (tnK k))), (25, .bool true), (24, ni k), (23, .agg (arrF .i64 4 tnT)), (1, ni xa), (2, ni xb), (3, ni xc), (4, ni xd), (5, pt aq2 0), (10, pt aq3 0)] a := F.weak _ (subL_of kr)
    clear Q
    refine ?_
    replace H : Hp [] w [bk aq2 (arrF .u32 16 (sX (sA (qs w_ xa xb xc xd k) xa xb) xd xa (tn1 k))) 176, bk aq11 (arrF .i64 2 (tnK k)) 79, bk aq3 #[.int .u32 0, .int .u32 0, .int .u32 0, .int .u32 0, .int .u32 0, .int .u32 0, .int .u32 0, .int .u32 0, .int .u32 0, .int .u32 0, .int .u32 0, .int .u32 0, .int .u32 0, .int .u32 0, .int .u32 0, .int .u32 0] 176] v := H
    refine hK13 _ _ ?_
    clear hK13
    try clear K13
    refine C_seqK (fun K14 hK14 => ?_)
    refine E_region F H (fun β => [(47, ni xc), (48, pt aq2 (0 + (xc) * 1)), (49, nw ((sX (sA (qs w_ xa xb xc xd k) xa xb) xd xa (tn1 k)) (xc))), (50, ni xd), (51, pt aq2 (0 + (xd) * 1)), (52, nw ((sX (sA (qs w_ xa xb xc xd k) xa xb) xd xa (tn1 k)) (xd))), (53, nw (add32 ((sX (sA (qs w_ xa xb xc xd k) xa xb) xd xa (tn1 k)) (xc)) ((sX (sA (qs w_ xa xb xc xd k) xa xb) xd xa (tn1 k)) (xd)))), (54, pt aq2 (0 + (xc) * 1))]) [47, 48, 49, 50, 51, 52, 53, 54] [⟨none, none, aq2, [], fun q_ => ce (arrF .u32 16 (sX (sA (qs w_ xa xb xc xd k) xa xb) xd xa (tn1 k))) 176, gT, [⟨8, [], fun q_ => ce (arrF .u32 16 (upd (sX (sA (qs w_ xa xb xc xd k) xa xb) xd xa (tn1 k)) (xc) (add32 ((sX (sA (qs w_ xa xb xc xd k) xa xb) xd xa (tn1 k)) (xc)) ((sX (sA (qs w_ xa xb xc xd k) xa xb) xd xa (tn1 k)) (xd))))) 176, gT⟩]⟩] [bk aq11 (arrF .i64 2 (tnK k)) 79, bk aq3 #[.int .u32 0, .int .u32 0, .int .u32 0, .int .u32 0, .int .u32 0, .int .u32 0, .int .u32 0, .int .u32 0, .int .u32 0, .int .u32 0, .int .u32 0, .int .u32 0, .int .u32 0, .int .u32 0, .int .u32 0, .int .u32 0] 176] [0, 1, 2] 2 [] kr kr kr (fun β => rfl) ⟨fun _ _ => trivial, trivial⟩ ⟨?_, ?_, ?_, ?_, ?_, ?_, ?_, ?_, ?_, trivial⟩ ?_
    · exact E_k 69 (fun β => ni xc) 47 2
    · exact E_v 69 (fun β => pt aq2 (0 + (xc) * 1)) 48 2 [] (fun β w hk hl hq => R_index (k := .i64) (g := aq2) (off := 0) (x := (.tmp 5)) (y := (.tmp 47)) rfl Tryd.underlying176 kr (xc) kr (by omega) (sz := 1) kr w)
    · exact E_v 69 (fun β => nw ((sX (sA (qs w_ xa xb xc xd k) xa xb) xd xa (tn1 k)) (xc))) 49 2 [(0, 0)] (fun β w hk hl hq => R_cellH hl (own := true) (g := aq2) (all := (arrF .u32 16 (sX (sA (qs w_ xa xb xc xd k) xa xb) xd xa (tn1 k)))) (t := 176) (fr := (0, 0)) 0 kr 53 (.tmp 48) rfl (0 + (xc) * 1) kr (nw ((sX (sA (qs w_ xa xb xc xd k) xa xb) xd xa (tn1 k)) (xc))) ((congrArg (fun q => ((arrF .u32 16 (sX (sA (qs w_ xa xb xc xd k) xa xb) xd xa (tn1 k))))[q]?) (show (0 + (xc) * 1) = xc by omega)).trans (arrF_get (sX (sA (qs w_ xa xb xc xd k) xa xb) xd xa (tn1 k)) (by omega))) _ Tryd.underlying53 rfl)
    · exact E_k 69 (fun β => ni xd) 50 2
    · exact E_v 69 (fun β => pt aq2 (0 + (xd) * 1)) 51 2 [] (fun β w hk hl hq => R_index (k := .i64) (g := aq2) (off := 0) (x := (.tmp 5)) (y := (.tmp 50)) rfl Tryd.underlying176 kr (xd) kr (by omega) (sz := 1) kr w)
    · exact E_v 69 (fun β => nw ((sX (sA (qs w_ xa xb xc xd k) xa xb) xd xa (tn1 k)) (xd))) 52 2 [(0, 0)] (fun β w hk hl hq => R_cellH hl (own := true) (g := aq2) (all := (arrF .u32 16 (sX (sA (qs w_ xa xb xc xd k) xa xb) xd xa (tn1 k)))) (t := 176) (fr := (0, 0)) 0 kr 53 (.tmp 51) rfl (0 + (xd) * 1) kr (nw ((sX (sA (qs w_ xa xb xc xd k) xa xb) xd xa (tn1 k)) (xd))) ((congrArg (fun q => ((arrF .u32 16 (sX (sA (qs w_ xa xb xc xd k) xa xb) xd xa (tn1 k))))[q]?) (show (0 + (xd) * 1) = xd by omega)).trans (arrF_get (sX (sA (qs w_ xa xb xc xd k) xa xb) xd xa (tn1 k)) (by omega))) _ Tryd.underlying53 rfl)
    · exact E_v 69 (fun β => nw (add32 ((sX (sA (qs w_ xa xb xc xd k) xa xb) xd xa (tn1 k)) (xc)) ((sX (sA (qs w_ xa xb xc xd k) xa xb) xd xa (tn1 k)) (xd)))) 53 2 [] (fun β w hk hl hq => R_bin (x := (.tmp 49)) (y := (.tmp 52)) rfl (k := .u32) (a := (((sX (sA (qs w_ xa xb xc xd k) xa xb) xd xa (tn1 k)) (xc) : Nat) : Int)) (b := (((sX (sA (qs w_ xa xb xc xd k) xa xb) xd xa (tn1 k)) (xd) : Nat) : Int)) kr kr (i_add32 (a := (sX (sA (qs w_ xa xb xc xd k) xa xb) xd xa (tn1 k)) (xc)) (b := (sX (sA (qs w_ xa xb xc xd k) xa xb) xd xa (tn1 k)) (xd))) w)
    · exact E_v 69 (fun β => pt aq2 (0 + (xc) * 1)) 54 2 [] (fun β w hk hl hq => R_index (k := .i64) (g := aq2) (off := 0) (x := (.tmp 5)) (y := (.tmp 47)) rfl Tryd.underlying176 kr (xc) kr (by omega) (sz := 1) kr w)
    · exact E_store 69 kq rfl 2 [] 0 0 _ _ rfl rfl kr rfl (fun _ => trivial) (fun β w hk hl hq hm => let ⟨w', h1, h2, h3⟩ := P_cell (off := (0 + (xc) * 1)) (old := (arrF .u32 16 (sX (sA (qs w_ xa xb xc xd k) xa xb) xd xa (tn1 k)))) (v := nw (add32 ((sX (sA (qs w_ xa xb xc xd k) xa xb) xd xa (tn1 k)) (xc)) ((sX (sA (qs w_ xa xb xc xd k) xa xb) xd xa (tn1 k)) (xd)))) (Z := ce (arrF .u32 16 (sX (sA (qs w_ xa xb xc xd k) xa xb) xd xa (tn1 k))) 176) (R := ce (arrF .u32 16 (upd (sX (sA (qs w_ xa xb xc xd k) xa xb) xd xa (tn1 k)) (xc) (add32 ((sX (sA (qs w_ xa xb xc xd k) xa xb) xd xa (tn1 k)) (xc)) ((sX (sA (qs w_ xa xb xc xd k) xa xb) xd xa (tn1 k)) (xd))))) 176) rfl (by rw [show (0 + (xc) * 1) = xc by omega, arrF_upd _ (by omega)]) (ty := 53) (x := (.tmp 54)) (y := (.tmp 53)) rfl kr kr rfl (by rw [arrF_size]; omega) Tryd.underlying53 rfl kr hm; ⟨w', h1, h2, h3⟩)
    clear F H; intro β a v Q F H
    replace H : Hp [] w [bk aq2 (arrF .u32 16 (upd (sX (sA (qs w_ xa xb xc xd k) xa xb) xd xa (tn1 k)) (xc) (add32 ((sX (sA (qs w_ xa xb xc xd k) xa xb) xd xa (tn1 k)) (xc)) ((sX (sA (qs w_ xa xb xc xd k) xa xb) xd xa (tn1 k)) (xd))))) 176, bk aq11 (arrF .i64 2 (tnK k)) 79, bk aq3 #[.int .u32 0, .int .u32 0, .int .u32 0, .int .u32 0, .int .u32 0, .int .u32 0, .int .u32 0, .int .u32 0, .int .u32 0, .int .u32 0, .int .u32 0, .int .u32 0, .int .u32 0, .int .u32 0, .int .u32 0, .int .u32 0] 176] v := H
    replace F : Fm 69 [] [(54, pt aq2 (0 + (xc) * 1)), (53, nw (add32 ((sX (sA (qs w_ xa xb xc xd k) xa xb) xd xa (tn1 k)) (xc)) ((sX (sA (qs w_ xa xb xc xd k) xa xb) xd xa (tn1 k)) (xd)))), (52, nw ((sX (sA (qs w_ xa xb xc xd k) xa xb) xd xa (tn1 k)) (xd))), (51, pt aq2 (0 + (xd) * 1)), (50, ni xd), (49, nw ((sX (sA (qs w_ xa xb xc xd k) xa xb) xd xa (tn1 k)) (xc))), (48, pt aq2 (0 + (xc) * 1)), (47, ni xc), (46, pt aq2 (0 + (xd) * 1)), (45, nw (rol ((((sA (qs w_ xa xb xc xd k) xa xb) (xd)) ^^^ ((sA (qs w_ xa xb xc xd k) xa xb) (xa)))) ((tnK k) 0))), (44, ni ((tnK k) 0)), (43, pt aq11 0), (42, nw (((sA (qs w_ xa xb xc xd k) xa xb) (xd)) ^^^ ((sA (qs w_ xa xb xc xd k) xa xb) (xa)))), (41, nw ((sA (qs w_ xa xb xc xd k) xa xb) (xa))), (40, pt aq2 (0 + (xa) * 1)), (39, ni xa), (38, nw ((sA (qs w_ xa xb xc xd k) xa xb) (xd))), (37, pt aq2 (0 + (xd) * 1)), (36, ni xd), (35, ni xd), (34, pt aq2 (0 + (xa) * 1)), (33, nw (add32 ((qs w_ xa xb xc xd k) (xa)) ((qs w_ xa xb xc xd k) (xb)))), (32, nw ((qs w_ xa xb xc xd k) (xb))), (31, pt aq2 (0 + (xb) * 1)), (30, ni xb), (29, nw ((qs w_ xa xb xc xd k) (xa))), (28, pt aq2 (0 + (xa) * 1)), (27, ni xa), (12, pt aq11 0), (26, .agg (arrF .i64 2 (tnK k))), (25, .bool true), (24, ni k), (23, .agg (arrF .i64 4 tnT)), (1, ni xa), (2, ni xb), (3, ni xc), (4, ni xd), (5, pt aq2 0), (10, pt aq3 0)] a := F.weak _ (subL_of kr)
    clear Q
    refine ?_
    replace H : Hp [] w [bk aq2 (arrF .u32 16 (sA (sX (sA (qs w_ xa xb xc xd k) xa xb) xd xa (tn1 k)) xc xd)) 176, bk aq11 (arrF .i64 2 (tnK k)) 79, bk aq3 #[.int .u32 0, .int .u32 0, .int .u32 0, .int .u32 0, .int .u32 0, .int .u32 0, .int .u32 0, .int .u32 0, .int .u32 0, .int .u32 0, .int .u32 0, .int .u32 0, .int .u32 0, .int .u32 0, .int .u32 0, .int .u32 0] 176] v := H
    refine hK14 _ _ ?_
    clear hK14
    try clear K14
    refine E_region F H (fun β => [(55, ni xb), (56, ni xb), (57, pt aq2 (0 + (xb) * 1)), (58, nw ((sA (sX (sA (qs w_ xa xb xc xd k) xa xb) xd xa (tn1 k)) xc xd) (xb))), (59, ni xc), (60, pt aq2 (0 + (xc) * 1)), (61, nw ((sA (sX (sA (qs w_ xa xb xc xd k) xa xb) xd xa (tn1 k)) xc xd) (xc))), (62, nw (((sA (sX (sA (qs w_ xa xb xc xd k) xa xb) xd xa (tn1 k)) xc xd) (xb)) ^^^ ((sA (sX (sA (qs w_ xa xb xc xd k) xa xb) xd xa (tn1 k)) xc xd) (xc)))), (63, pt aq11 1), (64, ni ((tnK k) 1)), (65, nw (rol ((((sA (sX (sA (qs w_ xa xb xc xd k) xa xb) xd xa (tn1 k)) xc xd) (xb)) ^^^ ((sA (sX (sA (qs w_ xa xb xc xd k) xa xb) xd xa (tn1 k)) xc xd) (xc)))) ((tnK k) 1))), (66, pt aq2 (0 + (xb) * 1))]) [55, 56, 57, 58, 59, 60, 61, 62, 63, 64, 65, 66] [⟨none, none, aq2, [], fun q_ => ce (arrF .u32 16 (sA (sX (sA (qs w_ xa xb xc xd k) xa xb) xd xa (tn1 k)) xc xd)) 176, gT, [⟨12, [], fun q_ => ce (arrF .u32 16 (upd (sA (sX (sA (qs w_ xa xb xc xd k) xa xb) xd xa (tn1 k)) xc xd) (xb) (rol ((((sA (sX (sA (qs w_ xa xb xc xd k) xa xb) xd xa (tn1 k)) xc xd) (xb)) ^^^ ((sA (sX (sA (qs w_ xa xb xc xd k) xa xb) xd xa (tn1 k)) xc xd) (xc)))) ((tnK k) 1)))) 176, gT⟩]⟩] [bk aq11 (arrF .i64 2 (tnK k)) 79, bk aq3 #[.int .u32 0, .int .u32 0, .int .u32 0, .int .u32 0, .int .u32 0, .int .u32 0, .int .u32 0, .int .u32 0, .int .u32 0, .int .u32 0, .int .u32 0, .int .u32 0, .int .u32 0, .int .u32 0, .int .u32 0, .int .u32 0] 176] [0, 1, 2] 2 [] kr kr kr (fun β => rfl) ⟨fun _ _ => trivial, trivial⟩ ⟨?_, ?_, ?_, ?_, ?_, ?_, ?_, ?_, ?_, ?_, ?_, ?_, ?_, trivial⟩ ?_
    · exact E_k 69 (fun β => ni xb) 55 2
    · exact E_k 69 (fun β => ni xb) 56 2
    · exact E_v 69 (fun β => pt aq2 (0 + (xb) * 1)) 57 2 [] (fun β w hk hl hq => R_index (k := .i64) (g := aq2) (off := 0) (x := (.tmp 5)) (y := (.tmp 56)) rfl Tryd.underlying176 kr (xb) kr (by omega) (sz := 1) kr w)
    · exact E_v 69 (fun β => nw ((sA (sX (sA (qs w_ xa xb xc xd k) xa xb) xd xa (tn1 k)) xc xd) (xb))) 58 2 [(0, 0)] (fun β w hk hl hq => R_cellH hl (own := true) (g := aq2) (all := (arrF .u32 16 (sA (sX (sA (qs w_ xa xb xc xd k) xa xb) xd xa (tn1 k)) xc xd))) (t := 176) (fr := (0, 0)) 0 kr 53 (.tmp 57) rfl (0 + (xb) * 1) kr (nw ((sA (sX (sA (qs w_ xa xb xc xd k) xa xb) xd xa (tn1 k)) xc xd) (xb))) ((congrArg (fun q => ((arrF .u32 16 (sA (sX (sA (qs w_ xa xb xc xd k) xa xb) xd xa (tn1 k)) xc xd)))[q]?) (show (0 + (xb) * 1) = xb by omega)).trans (arrF_get (sA (sX (sA (qs w_ xa xb xc xd k) xa xb) xd xa (tn1 k)) xc xd) (by omega))) _ Tryd.underlying53 rfl)
    · exact E_k 69 (fun β => ni xc) 59 2
    · exact E_v 69 (fun β => pt aq2 (0 + (xc) * 1)) 60 2 [] (fun β w hk hl hq => R_index (k := .i64) (g := aq2) (off := 0) (x := (.tmp 5)) (y := (.tmp 59)) rfl Tryd.underlying176 kr (xc) kr (by omega) (sz := 1) kr w)
    · exact E_v 69 (fun β => nw ((sA (sX (sA (qs w_ xa xb xc xd k) xa xb) xd xa (tn1 k)) xc xd) (xc))) 61 2 [(0, 0)] (fun β w hk hl hq => R_cellH hl (own := true) (g := aq2) (all := (arrF .u32 16 (sA (sX (sA (qs w_ xa xb xc xd k) xa xb) xd xa (tn1 k)) xc xd))) (t := 176) (fr := (0, 0)) 0 kr 53 (.tmp 60) rfl (0 + (xc) * 1) kr (nw ((sA (sX (sA (qs w_ xa xb xc xd k) xa xb) xd xa (tn1 k)) xc xd) (xc))) ((congrArg (fun q => ((arrF .u32 16 (sA (sX (sA (qs w_ xa xb xc xd k) xa xb) xd xa (tn1 k)) xc xd)))[q]?) (show (0 + (xc) * 1) = xc by omega)).trans (arrF_get (sA (sX (sA (qs w_ xa xb xc xd k) xa xb) xd xa (tn1 k)) xc xd) (by omega))) _ Tryd.underlying53 rfl)
    · exact E_v 69 (fun β => nw (((sA (sX (sA (qs w_ xa xb xc xd k) xa xb) xd xa (tn1 k)) xc xd) (xb)) ^^^ ((sA (sX (sA (qs w_ xa xb xc xd k) xa xb) xd xa (tn1 k)) xc xd) (xc)))) 62 2 [] (fun β w hk hl hq => R_bin (x := (.tmp 58)) (y := (.tmp 61)) rfl (k := .u32) (a := (((sA (sX (sA (qs w_ xa xb xc xd k) xa xb) xd xa (tn1 k)) xc xd) (xb) : Nat) : Int)) (b := (((sA (sX (sA (qs w_ xa xb xc xd k) xa xb) xd xa (tn1 k)) xc xd) (xc) : Nat) : Int)) kr kr (i_xor32 (a := (sA (sX (sA (qs w_ xa xb xc xd k) xa xb) xd xa (tn1 k)) xc xd) (xb)) (b := (sA (sX (sA (qs w_ xa xb xc xd k) xa xb) xd xa (tn1 k)) xc xd) (xc)) (sA_lt (sX_lt (sA_lt (qs_lt hw xa xb xc xd k) xa xb) xd xa (tn1 k)) xc xd (xb)) (sA_lt (sX_lt (sA_lt (qs_lt hw xa xb xc xd k) xa xb) xd xa (tn1 k)) xc xd (xc))) w)
    · exact E_k 69 (fun β => pt aq11 1) 63 2
    · exact E_v 69 (fun β => ni ((tnK k) 1)) 64 2 [] (fun β w hk hl hq => R_cellH hl (own := true) (g := aq11) (all := (arrF .i64 2 (tnK k))) (t := 79) (fr := (0, 0)) 0 kr 3 (.tmp 63) rfl 1 kr (ni ((tnK k) 1)) kr _ Tryd.underlying3 rfl)
    · exact E_call 69 kq (fun β => nw (rol ((((sA (sX (sA (qs w_ xa xb xc xd k) xa xb) xd xa (tn1 k)) xc xd) (xb)) ^^^ ((sA (sX (sA (qs w_ xa xb xc xd k) xa xb) xd xa (tn1 k)) xc xd) (xc)))) ((tnK k) 1))) 65 rfl kq 126 (fun β => #[nw (((sA (sX (sA (qs w_ xa xb xc xd k) xa xb) xd xa (tn1 k)) xc xd) (xb)) ^^^ ((sA (sX (sA (qs w_ xa xb xc xd k) xa xb) xd xa (tn1 k)) xc xd) (xc))), ni ((tnK k) 1)]) (fun β w => kr) 2 [] kr rfl (fun β w hk hl hq => rolp_any ((((sA (sX (sA (qs w_ xa xb xc xd k) xa xb) xd xa (tn1 k)) xc xd) (xb)) ^^^ ((sA (sX (sA (qs w_ xa xb xc xd k) xa xb) xd xa (tn1 k)) xc xd) (xc)))) ((tnK k) 1) (xor32 (sA_lt (sX_lt (sA_lt (qs_lt hw xa xb xc xd k) xa xb) xd xa (tn1 k)) xc xd (xb)) (sA_lt (sX_lt (sA_lt (qs_lt hw xa xb xc xd k) xa xb) xd xa (tn1 k)) xc xd (xc))) hm2.1 hm2.2 _)
    · exact E_v 69 (fun β => pt aq2 (0 + (xb) * 1)) 66 2 [] (fun β w hk hl hq => R_index (k := .i64) (g := aq2) (off := 0) (x := (.tmp 5)) (y := (.tmp 55)) rfl Tryd.underlying176 kr (xb) kr (by omega) (sz := 1) kr w)
    · exact E_store 69 kq rfl 2 [] 0 0 _ _ rfl rfl kr rfl (fun _ => trivial) (fun β w hk hl hq hm => let ⟨w', h1, h2, h3⟩ := P_cell (off := (0 + (xb) * 1)) (old := (arrF .u32 16 (sA (sX (sA (qs w_ xa xb xc xd k) xa xb) xd xa (tn1 k)) xc xd))) (v := nw (rol ((((sA (sX (sA (qs w_ xa xb xc xd k) xa xb) xd xa (tn1 k)) xc xd) (xb)) ^^^ ((sA (sX (sA (qs w_ xa xb xc xd k) xa xb) xd xa (tn1 k)) xc xd) (xc)))) ((tnK k) 1))) (Z := ce (arrF .u32 16 (sA (sX (sA (qs w_ xa xb xc xd k) xa xb) xd xa (tn1 k)) xc xd)) 176) (R := ce (arrF .u32 16 (upd (sA (sX (sA (qs w_ xa xb xc xd k) xa xb) xd xa (tn1 k)) xc xd) (xb) (rol ((((sA (sX (sA (qs w_ xa xb xc xd k) xa xb) xd xa (tn1 k)) xc xd) (xb)) ^^^ ((sA (sX (sA (qs w_ xa xb xc xd k) xa xb) xd xa (tn1 k)) xc xd) (xc)))) ((tnK k) 1)))) 176) rfl (by rw [show (0 + (xb) * 1) = xb by omega, arrF_upd _ (by omega)]) (ty := 53) (x := (.tmp 66)) (y := (.tmp 65)) rfl kr kr rfl (by rw [arrF_size]; omega) Tryd.underlying53 rfl kr hm; ⟨w', h1, h2, h3⟩)
    clear F H; intro β a v Q F H
    replace H : Hp [] w [bk aq2 (arrF .u32 16 (upd (sA (sX (sA (qs w_ xa xb xc xd k) xa xb) xd xa (tn1 k)) xc xd) (xb) (rol ((((sA (sX (sA (qs w_ xa xb xc xd k) xa xb) xd xa (tn1 k)) xc xd) (xb)) ^^^ ((sA (sX (sA (qs w_ xa xb xc xd k) xa xb) xd xa (tn1 k)) xc xd) (xc)))) ((tnK k) 1)))) 176, bk aq11 (arrF .i64 2 (tnK k)) 79, bk aq3 #[.int .u32 0, .int .u32 0, .int .u32 0, .int .u32 0, .int .u32 0, .int .u32 0, .int .u32 0, .int .u32 0, .int .u32 0, .int .u32 0, .int .u32 0, .int .u32 0, .int .u32 0, .int .u32 0, .int .u32 0, .int .u32 0] 176] v := H
    replace F : Fm 69 [] [(66, pt aq2 (0 + (xb) * 1)), (65, nw (rol ((((sA (sX (sA (qs w_ xa xb xc xd k) xa xb) xd xa (tn1 k)) xc xd) (xb)) ^^^ ((sA (sX (sA (qs w_ xa xb xc xd k) xa xb) xd xa (tn1 k)) xc xd) (xc)))) ((tnK k) 1))), (64, ni ((tnK k) 1)), (63, pt aq11 1), (62, nw (((sA (sX (sA (qs w_ xa xb xc xd k) xa xb) xd xa (tn1 k)) xc xd) (xb)) ^^^ ((sA (sX (sA (qs w_ xa xb xc xd k) xa xb) xd xa (tn1 k)) xc xd) (xc)))), (61, nw ((sA (sX (sA (qs w_ xa xb xc xd k) xa xb) xd xa (tn1 k)) xc xd) (xc))), (60, pt aq2 (0 + (xc) * 1)), (59, ni xc), (58, nw ((sA (sX (sA (qs w_ xa xb xc xd k) xa xb) xd xa (tn1 k)) xc xd) (xb))), (57, pt aq2 (0 + (xb) * 1)), (56, ni xb), (55, ni xb), (54, pt aq2 (0 + (xc) * 1)), (53, nw (add32 ((sX (sA (qs w_ xa xb xc xd k) xa xb) xd xa (tn1 k)) (xc)) ((sX (sA (qs w_ xa xb xc xd k) xa xb) xd xa (tn1 k)) (xd)))), (52, nw ((sX (sA (qs w_ xa xb xc xd k) xa xb) xd xa (tn1 k)) (xd))), (51, pt aq2 (0 + (xd) * 1)), (50, ni xd), (49, nw ((sX (sA (qs w_ xa xb xc xd k) xa xb) xd xa (tn1 k)) (xc))), (48, pt aq2 (0 + (xc) * 1)), (47, ni xc), (46, pt aq2 (0 + (xd) * 1)), (45, nw (rol ((((sA (qs w_ xa xb xc xd k) xa xb) (xd)) ^^^ ((sA (qs w_ xa xb xc xd k) xa xb) (xa)))) ((tnK k) 0))), (44, ni ((tnK k) 0)), (43, pt aq11 0), (42, nw (((sA (qs w_ xa xb xc xd k) xa xb) (xd)) ^^^ ((sA (qs w_ xa xb xc xd k) xa xb) (xa)))), (41, nw ((sA (qs w_ xa xb xc xd k) xa xb) (xa))), (40, pt aq2 (0 + (xa) * 1)), (39, ni xa), (38, nw ((sA (qs w_ xa xb xc xd k) xa xb) (xd))), (37, pt aq2 (0 + (xd) * 1)), (36, ni xd), (35, ni xd), (34, pt aq2 (0 + (xa) * 1)), (33, nw (add32 ((qs w_ xa xb xc xd k) (xa)) ((qs w_ xa xb xc xd k) (xb)))), (32, nw ((qs w_ xa xb xc xd k) (xb))), (31, pt aq2 (0 + (xb) * 1)), (30, ni xb), (29, nw ((qs w_ xa xb xc xd k) (xa))), (28, pt aq2 (0 + (xa) * 1)), (27, ni xa), (12, pt aq11 0), (26, .agg (arrF .i64 2 (tnK k))), (25, .bool true), (24, ni k), (23, .agg (arrF .i64 4 tnT)), (1, ni xa), (2, ni xb), (3, ni xc), (4, ni xd), (5, pt aq2 0), (10, pt aq3 0)] a := F.weak _ (subL_of kr)
    clear Q
    refine ?_
    replace H : Hp [] w [bk aq2 (arrF .u32 16 (sX (sA (sX (sA (qs w_ xa xb xc xd k) xa xb) xd xa (tn1 k)) xc xd) xb xc (tn2 k))) 176, bk aq11 (arrF .i64 2 (tnK k)) 79, bk aq3 #[.int .u32 0, .int .u32 0, .int .u32 0, .int .u32 0, .int .u32 0, .int .u32 0, .int .u32 0, .int .u32 0, .int .u32 0, .int .u32 0, .int .u32 0, .int .u32 0, .int .u32 0, .int .u32 0, .int .u32 0, .int .u32 0] 176] v := H
    replace H : Hp [] w [bk aq3 #[.int .u32 0, .int .u32 0, .int .u32 0, .int .u32 0, .int .u32 0, .int .u32 0, .int .u32 0, .int .u32 0, .int .u32 0, .int .u32 0, .int .u32 0, .int .u32 0, .int .u32 0, .int .u32 0, .int .u32 0, .int .u32 0] 176, bk aq2 (arrF .u32 16 (sX (sA (sX (sA (qs w_ xa xb xc xd k) xa xb) xd xa (tn1 k)) xc xd) xb xc (tn2 k))) 176] v := H.pick [2, 0] kr _ rfl
    replace H : Hp [] w [bk aq3 #[.int .u32 0, .int .u32 0, .int .u32 0, .int .u32 0, .int .u32 0, .int .u32 0, .int .u32 0, .int .u32 0, .int .u32 0, .int .u32 0, .int .u32 0, .int .u32 0, .int .u32 0, .int .u32 0, .int .u32 0, .int .u32 0] 176, bk aq2 (arrF .u32 16 (qs w_ xa xb xc xd (k + 1))) 176] v := H
    refine hK9 _ _ ?_
    clear hK9
    try clear K9
    refine C_region ?_
    refine T_val F H kr (ni (k + 1)) (fun w _ => R_bin (x := (.tmp 24)) (y := (.const (.int .i64 1))) rfl (k := .i64) (a := ((k : Nat) : Int)) (b := ((1 : Nat) : Int)) kr kr (i_addn64 (a := k) (b := 1) (by omega)) w) ?_
    clear F; intro a F
    refine T_k F H (ni (k + 1)) ?_
    clear F; intro a F
    refine wpList_nil ?_
    replace F : Fm 69 [] [(24, ni (k + 1)), (23, .agg (arrF .i64 4 tnT)), (1, ni xa), (2, ni xb), (3, ni xc), (4, ni xd), (5, pt aq2 0), (10, pt aq3 0)] a := F.weak _ (subL_of kr)
    replace H : Hp [] w [bk aq3 #[.int .u32 0, .int .u32 0, .int .u32 0, .int .u32 0, .int .u32 0, .int .u32 0, .int .u32 0, .int .u32 0, .int .u32 0, .int .u32 0, .int .u32 0, .int .u32 0, .int .u32 0, .int .u32 0, .int .u32 0, .int .u32 0] 176, bk aq2 (arrF .u32 16 (qs w_ xa xb xc xd (k + 1))) 176] v := H
    exact ⟨m, Nat.lt_succ_self m, k + 1, by omega, F, H⟩
  have hkt : k = 2 := by omega
  try rw [hkt] at F
  try rw [hkt] at H
  clear hk
  refine C_seqK (fun K15 hK15 => ?_)
  refine C_region ?_
  refine T_val F H kr (.bool false) (fun w _ => R_bin (x := (.tmp 24)) (y := (.const (.int .i64 2))) rfl (k := .i64) (a := ((2 : Nat) : Int)) (b := ((2 : Nat) : Int)) kr kr (i_nlt (by omega)) w) ?_
  clear F; intro a F
  refine wpList_nil ?_
  refine hK15 _ _ ?_
  clear hK15
  try clear K15
  refine C_seqK (fun K16 hK16 => ?_)
  refine C_if F false rfl rfl ?_
  refine wp_exit ?_
  refine hK5 _ _ ?_
  clear hK5
  try clear K5
  refine C_seqK (fun K17 hK17 => ?_)
  refine C_region ?_
  refine T_val F H kr (.agg (arrF .u32 16 (qs w_ xa xb xc xd 2))) (R_load (own := true) (g := aq2) (all := (arrF .u32 16 (qs w_ xa xb xc xd 2))) (t := 176) (fr := (0, 0)) 1 kr 176 (.tmp 5) rfl 0 kr (arrF .u32 16 (qs w_ xa xb xc xd 2)) (part_all _) _ Tryd.underlying176 rfl (by rw [arrF_size]; kernel_rfl)) ?_
  clear F; intro a F
  refine T_set F H kr rfl 0 rfl (arrF .u32 16 (qs w_ xa xb xc xd 2)) (S_row 0 rfl 176 (.tmp 10) (.tmp 68) rfl kr (arrF .u32 16 (qs w_ xa xb xc xd 2)) kr (by rw [arrF_size]; kernel_rfl) (by rw [arrF_size]; kernel_rfl) (arrF_one _ _ _)) [bk aq3 (arrF .u32 16 (qs w_ xa xb xc xd 2)) 176, bk aq2 (arrF .u32 16 (qs w_ xa xb xc xd 2)) 176] rfl ?_
  clear F H; intro a v F H
  refine wpList_nil ?_
  refine hK17 _ _ ?_
  clear hK17
  try clear K17
  refine wp_ret ?_
  exact C_ret F H (rs := [.cell 10 176]) rfl (vs := [.agg (arrF .u32 16 (qs w_ xa xb xc xd 2))]) (.row 0 rfl rfl _ Tryd.underlying176 rfl kr .nil) (.agg (arrF .u32 16 (qs w_ xa xb xc xd 2))) rfl ⟨rfl, H.kept⟩
end Go.Proofs.YtdejhenkdbjakaaDoor
