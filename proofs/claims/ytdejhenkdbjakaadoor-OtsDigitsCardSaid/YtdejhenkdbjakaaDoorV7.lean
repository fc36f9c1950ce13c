/- Walks: OtsDigits. -/
import Derived.Test.YtdejhenkdbjakaaDoorV6
import Derived.Test.YtdejhenkdbjakaaDoorWG
set_option linter.unusedVariables false
set_option linter.unusedSimpArgs false
namespace Go.Proofs.YtdejhenkdbjakaaDoor
open Go Go.RowKit
theorem i_nesame {k : IntKind} {a : Int} : intRes .neq k a a = some (.bool false) := by simp [intRes]

set_option maxRecDepth 100000 in
set_option maxHeartbeats 4000000 in
theorem digits1 (fo : Nat → Nat) (hfo : ∀ i, i < 32 → fo i < 256) (tg : Nat → Nat) (htg : ∀ i, i < 32 → tg i < 256) (ch x y : Int) (vv : Nat → Nat) (hvv : ∀ i, i < 32 → vv i < 256) (h1 : x < -1000) (w : World) (hW : Laid w) : Calls Tryd.prog 3 #[.agg (arrF .u8 32 fo), .agg (arrF .u8 32 tg), .int .i64 ch, .int .i64 x, .int .i64 y, .agg (arrF .u8 32 vv)] w fun e w' => e = .returned (.bool true) ∧ Kept [] w w' := by
  refine C_enter Tryd.func3 rfl 80 Tryd.ntmps3 (Nat.le_of_ble_eq_true rfl) (fun a F => ?_)
  have H := Hp.start [] w
  replace F : Fm 80 [] [(0, .agg (arrF .u8 32 fo)), (1, .agg (arrF .u8 32 tg)), (2, .int .i64 ch), (3, .int .i64 x), (4, .int .i64 y), (5, .agg (arrF .u8 32 vv))] a := F.weak _ (⟨rfl, ⟨rfl, ⟨rfl, ⟨rfl, ⟨rfl, ⟨rfl, trivial⟩⟩⟩⟩⟩⟩)
  refine C_seqK (fun K1 hK1 => ?_)
  refine C_region ?_
  refine T_new F H kr (fun ad => .pointer (some ⟨ad, 0, none⟩)) (.cells (arrF .u8 32 fo) 23 (0, 0)) (fun w => kr) ?_
  clear F H; intro aq2 a v F H
  refine T_new F H kr (fun ad => .pointer (some ⟨ad, 0, none⟩)) (.cells (arrF .u8 32 tg) 23 (0, 0)) (fun w => kr) ?_
  clear F H; intro aq3 a v F H
  refine T_new F H kr (fun ad => .pointer (some ⟨ad, 0, none⟩)) (.cells (arrF .u8 32 vv) 23 (0, 0)) (fun w => kr) ?_
  clear F H; intro aq4 a v F H
  refine T_val F H kr (.bool false) (fun _ _ => kr) ?_
  clear F; intro a F
  refine wpList_nil ?_
  refine hK1 _ _ ?_
  clear hK1
  try clear K1
  refine C_seqK (fun K5 hK5 => ?_)
  refine C_region ?_
  refine T_call F H kr 15 #[] (.bool true) (fun w => kr) (awake_any _ (hW.kept H.kept List.not_mem_nil List.not_mem_nil)) ?_
  clear F H; intro a v F H
  refine T_val F H kr (.bool true) (fun _ _ => kr) ?_
  clear F; intro a F
  refine wpList_nil ?_
  refine hK5 _ _ ?_
  clear hK5
  try clear K5
  refine C_seqK (fun K6 hK6 => ?_)
  refine C_seqK (fun K7 hK7 => ?_)
  refine C_region ?_
  refine T_val F H kr (.int .i64 x) (fun _ _ => kr) ?_
  clear F; intro a F
  refine T_val F H kr (.bool true) (fun w _ => R_bin (x := (.tmp 21)) (y := (.const (.int .i64 (-1000)))) rfl (k := .i64) (a := x) (b := (-1000)) kr kr (i_lt (by omega)) w) ?_
  clear F; intro a F
  refine T_val F H kr (.bool true) (fun _ _ => kr) ?_
  clear F; intro a F
  refine T_skip F kr kr ?_
  clear F; intro a F
  refine T_skip F kr kr ?_
  clear F; intro a F
  refine T_val F H kr (.bool true) (fun _ _ => kr) ?_
  clear F; intro a F
  refine T_val F H kr (.bool true) (fun _ _ => kr) ?_
  clear F; intro a F
  refine T_skip F kr kr ?_
  clear F; intro a F
  refine T_skip F kr kr ?_
  clear F; intro a F
  refine T_skip F kr kr ?_
  clear F; intro a F
  refine T_skip F kr kr ?_
  clear F; intro a F
  refine T_val F H kr (.bool true) (fun _ _ => kr) ?_
  clear F; intro a F
  refine wpList_nil ?_
  refine hK7 _ _ ?_
  clear hK7
  try clear K7
  refine C_if F true rfl rfl ?_
  refine C_seqK (fun K8 hK8 => ?_)
  refine C_region ?_
  refine T_val F H kr (.bool true) (fun _ _ => kr) ?_
  clear F; intro a F
  refine T_val F H kr (.bool true) (fun _ _ => kr) ?_
  clear F; intro a F
  refine wpList_nil ?_
  refine hK8 _ _ ?_
  clear hK8
  try clear K8
  refine wp_ret ?_
  repeat (first | with_reducible refine then_ret ?_ | with_reducible refine inB_ret ?_)
  exact C_ret F H (rs := [.tmp 12]) rfl (vs := [.bool true]) (.tmp rfl .nil) (.bool true) rfl ⟨rfl, H.kept⟩

set_option maxRecDepth 100000 in
set_option maxHeartbeats 4000000 in
theorem digits2 (fo : Nat → Nat) (hfo : ∀ i, i < 32 → fo i < 256) (tg : Nat → Nat) (htg : ∀ i, i < 32 → tg i < 256) (ch x y : Int) (vv : Nat → Nat) (hvv : ∀ i, i < 32 → vv i < 256) (h1 : 100000 < x) (w : World) (hW : Laid w) : Calls Tryd.prog 3 #[.agg (arrF .u8 32 fo), .agg (arrF .u8 32 tg), .int .i64 ch, .int .i64 x, .int .i64 y, .agg (arrF .u8 32 vv)] w fun e w' => e = .returned (.bool true) ∧ Kept [] w w' := by
  refine C_enter Tryd.func3 rfl 80 Tryd.ntmps3 (Nat.le_of_ble_eq_true rfl) (fun a F => ?_)
  have H := Hp.start [] w
  replace F : Fm 80 [] [(0, .agg (arrF .u8 32 fo)), (1, .agg (arrF .u8 32 tg)), (2, .int .i64 ch), (3, .int .i64 x), (4, .int .i64 y), (5, .agg (arrF .u8 32 vv))] a := F.weak _ (⟨rfl, ⟨rfl, ⟨rfl, ⟨rfl, ⟨rfl, ⟨rfl, trivial⟩⟩⟩⟩⟩⟩)
  refine C_seqK (fun K1 hK1 => ?_)
  refine C_region ?_
  refine T_new F H kr (fun ad => .pointer (some ⟨ad, 0, none⟩)) (.cells (arrF .u8 32 fo) 23 (0, 0)) (fun w => kr) ?_
  clear F H; intro aq2 a v F H
  refine T_new F H kr (fun ad => .pointer (some ⟨ad, 0, none⟩)) (.cells (arrF .u8 32 tg) 23 (0, 0)) (fun w => kr) ?_
  clear F H; intro aq3 a v F H
  refine T_new F H kr (fun ad => .pointer (some ⟨ad, 0, none⟩)) (.cells (arrF .u8 32 vv) 23 (0, 0)) (fun w => kr) ?_
  clear F H; intro aq4 a v F H
  refine T_val F H kr (.bool false) (fun _ _ => kr) ?_
  clear F; intro a F
  refine wpList_nil ?_
  refine hK1 _ _ ?_
  clear hK1
  try clear K1
  refine C_seqK (fun K5 hK5 => ?_)
  refine C_region ?_
  refine T_call F H kr 15 #[] (.bool true) (fun w => kr) (awake_any _ (hW.kept H.kept List.not_mem_nil List.not_mem_nil)) ?_
  clear F H; intro a v F H
  refine T_val F H kr (.bool true) (fun _ _ => kr) ?_
  clear F; intro a F
  refine wpList_nil ?_
  refine hK5 _ _ ?_
  clear hK5
  try clear K5
  refine C_seqK (fun K6 hK6 => ?_)
  refine C_seqK (fun K7 hK7 => ?_)
  refine C_region ?_
  refine T_val F H kr (.int .i64 x) (fun _ _ => kr) ?_
  clear F; intro a F
  refine T_val F H kr (.bool false) (fun w _ => R_bin (x := (.tmp 21)) (y := (.const (.int .i64 (-1000)))) rfl (k := .i64) (a := x) (b := (-1000)) kr kr (i_nlt (by omega)) w) ?_
  clear F; intro a F
  refine T_val F H kr (.bool false) (fun _ _ => kr) ?_
  clear F; intro a F
  refine T_val F H kr (.int .i64 x) (fun _ _ => kr) ?_
  clear F; intro a F
  refine T_val F H kr (.bool true) (fun w _ => R_bin (x := (.tmp 24)) (y := (.const (.int .i64 100000))) rfl (k := .i64) (a := x) (b := ((100000 : Nat) : Int)) kr kr (i_gtz (by omega)) w) ?_
  clear F; intro a F
  refine T_val F H kr (.bool true) (fun _ _ => kr) ?_
  clear F; intro a F
  refine T_val F H kr (.bool true) (fun _ _ => kr) ?_
  clear F; intro a F
  refine T_skip F kr kr ?_
  clear F; intro a F
  refine T_skip F kr kr ?_
  clear F; intro a F
  refine T_skip F kr kr ?_
  clear F; intro a F
  refine T_skip F kr kr ?_
  clear F; intro a F
  refine T_val F H kr (.bool true) (fun _ _ => kr) ?_
  clear F; intro a F
  refine wpList_nil ?_
  refine hK7 _ _ ?_
  clear hK7
  try clear K7
  refine C_if F true rfl rfl ?_
  refine C_seqK (fun K8 hK8 => ?_)
  refine C_region ?_
  refine T_val F H kr (.bool true) (fun _ _ => kr) ?_
  clear F; intro a F
  refine T_val F H kr (.bool true) (fun _ _ => kr) ?_
  clear F; intro a F
  refine wpList_nil ?_
  refine hK8 _ _ ?_
  clear hK8
  try clear K8
  refine wp_ret ?_
  repeat (first | with_reducible refine then_ret ?_ | with_reducible refine inB_ret ?_)
  exact C_ret F H (rs := [.tmp 12]) rfl (vs := [.bool true]) (.tmp rfl .nil) (.bool true) rfl ⟨rfl, H.kept⟩

set_option maxRecDepth 100000 in
set_option maxHeartbeats 4000000 in
theorem digits3 (fo : Nat → Nat) (hfo : ∀ i, i < 32 → fo i < 256) (tg : Nat → Nat) (htg : ∀ i, i < 32 → tg i < 256) (ch x y : Int) (vv : Nat → Nat) (hvv : ∀ i, i < 32 → vv i < 256) (h1 : -1000 ≤ x) (h2 : x ≤ 100000) (h3 : x + 20 < y) (w : World) (hW : Laid w) : Calls Tryd.prog 3 #[.agg (arrF .u8 32 fo), .agg (arrF .u8 32 tg), .int .i64 ch, .int .i64 x, .int .i64 y, .agg (arrF .u8 32 vv)] w fun e w' => e = .returned (.bool true) ∧ Kept [] w w' := by
  refine C_enter Tryd.func3 rfl 80 Tryd.ntmps3 (Nat.le_of_ble_eq_true rfl) (fun a F => ?_)
  have H := Hp.start [] w
  replace F : Fm 80 [] [(0, .agg (arrF .u8 32 fo)), (1, .agg (arrF .u8 32 tg)), (2, .int .i64 ch), (3, .int .i64 x), (4, .int .i64 y), (5, .agg (arrF .u8 32 vv))] a := F.weak _ (⟨rfl, ⟨rfl, ⟨rfl, ⟨rfl, ⟨rfl, ⟨rfl, trivial⟩⟩⟩⟩⟩⟩)
  refine C_seqK (fun K1 hK1 => ?_)
  refine C_region ?_
  refine T_new F H kr (fun ad => .pointer (some ⟨ad, 0, none⟩)) (.cells (arrF .u8 32 fo) 23 (0, 0)) (fun w => kr) ?_
  clear F H; intro aq2 a v F H
  refine T_new F H kr (fun ad => .pointer (some ⟨ad, 0, none⟩)) (.cells (arrF .u8 32 tg) 23 (0, 0)) (fun w => kr) ?_
  clear F H; intro aq3 a v F H
  refine T_new F H kr (fun ad => .pointer (some ⟨ad, 0, none⟩)) (.cells (arrF .u8 32 vv) 23 (0, 0)) (fun w => kr) ?_
  clear F H; intro aq4 a v F H
  refine T_val F H kr (.bool false) (fun _ _ => kr) ?_
  clear F; intro a F
  refine wpList_nil ?_
  refine hK1 _ _ ?_
  clear hK1
  try clear K1
  refine C_seqK (fun K5 hK5 => ?_)
  refine C_region ?_
  refine T_call F H kr 15 #[] (.bool true) (fun w => kr) (awake_any _ (hW.kept H.kept List.not_mem_nil List.not_mem_nil)) ?_
  clear F H; intro a v F H
  refine T_val F H kr (.bool true) (fun _ _ => kr) ?_
  clear F; intro a F
  refine wpList_nil ?_
  refine hK5 _ _ ?_
  clear hK5
  try clear K5
  refine C_seqK (fun K6 hK6 => ?_)
  refine C_seqK (fun K7 hK7 => ?_)
  refine C_region ?_
  refine T_val F H kr (.int .i64 x) (fun _ _ => kr) ?_
  clear F; intro a F
  refine T_val F H kr (.bool false) (fun w _ => R_bin (x := (.tmp 21)) (y := (.const (.int .i64 (-1000)))) rfl (k := .i64) (a := x) (b := (-1000)) kr kr (i_nlt (by omega)) w) ?_
  clear F; intro a F
  refine T_val F H kr (.bool false) (fun _ _ => kr) ?_
  clear F; intro a F
  refine T_val F H kr (.int .i64 x) (fun _ _ => kr) ?_
  clear F; intro a F
  refine T_val F H kr (.bool false) (fun w _ => R_bin (x := (.tmp 24)) (y := (.const (.int .i64 100000))) rfl (k := .i64) (a := x) (b := ((100000 : Nat) : Int)) kr kr (i_ngtz (by omega)) w) ?_
  clear F; intro a F
  refine T_val F H kr (.bool false) (fun _ _ => kr) ?_
  clear F; intro a F
  refine T_val F H kr (.bool false) (fun _ _ => kr) ?_
  clear F; intro a F
  refine T_val F H kr (.int .i64 y) (fun _ _ => kr) ?_
  clear F; intro a F
  refine T_val F H kr (.int .i64 x) (fun _ _ => kr) ?_
  clear F; intro a F
  refine T_val F H kr (.int .i64 (x + 20)) (fun w _ => R_bin (x := (.tmp 29)) (y := (.const (.int .i64 20))) rfl (k := .i64) (a := x) (b := 20) kr kr (i_add64 rfl (by omega)) w) ?_
  clear F; intro a F
  refine T_val F H kr (.bool true) (fun w _ => R_bin (x := (.tmp 28)) (y := (.tmp 30)) rfl (k := .i64) (a := y) (b := (x + 20)) kr kr (i_gtz (by omega)) w) ?_
  clear F; intro a F
  refine T_val F H kr (.bool true) (fun _ _ => kr) ?_
  clear F; intro a F
  refine wpList_nil ?_
  refine hK7 _ _ ?_
  clear hK7
  try clear K7
  refine C_if F true rfl rfl ?_
  refine C_seqK (fun K8 hK8 => ?_)
  refine C_region ?_
  refine T_val F H kr (.bool true) (fun _ _ => kr) ?_
  clear F; intro a F
  refine T_val F H kr (.bool true) (fun _ _ => kr) ?_
  clear F; intro a F
  refine wpList_nil ?_
  refine hK8 _ _ ?_
  clear hK8
  try clear K8
  refine wp_ret ?_
  repeat (first | with_reducible refine then_ret ?_ | with_reducible refine inB_ret ?_)
  exact C_ret F H (rs := [.tmp 12]) rfl (vs := [.bool true]) (.tmp rfl .nil) (.bool true) rfl ⟨rfl, H.kept⟩

set_option maxRecDepth 100000 in
set_option maxHeartbeats 4000000 in
theorem digits4 (fo : Nat → Nat) (hfo : ∀ i, i < 32 → fo i < 256) (tg : Nat → Nat) (htg : ∀ i, i < 32 → tg i < 256) (ch x y : Int) (vv : Nat → Nat) (hvv : ∀ i, i < 32 → vv i < 256) (h1 : -1000 ≤ x) (h2 : x ≤ 100000) (h3 : y ≤ x + 20) (w : World) (hW : Laid w) : Calls Tryd.prog 3 #[.agg (arrF .u8 32 fo), .agg (arrF .u8 32 tg), .int .i64 ch, .int .i64 x, .int .i64 y, .agg (arrF .u8 32 vv)] w fun e w' => e = .returned (.bool true) ∧ Kept [] w w' := by
  refine C_enter Tryd.func3 rfl 80 Tryd.ntmps3 (Nat.le_of_ble_eq_true rfl) (fun a F => ?_)
  have H := Hp.start [] w
  replace F : Fm 80 [] [(0, .agg (arrF .u8 32 fo)), (1, .agg (arrF .u8 32 tg)), (2, .int .i64 ch), (3, .int .i64 x), (4, .int .i64 y), (5, .agg (arrF .u8 32 vv))] a := F.weak _ (⟨rfl, ⟨rfl, ⟨rfl, ⟨rfl, ⟨rfl, ⟨rfl, trivial⟩⟩⟩⟩⟩⟩)
  refine C_seqK (fun K1 hK1 => ?_)
  refine C_region ?_
  refine T_new F H kr (fun ad => .pointer (some ⟨ad, 0, none⟩)) (.cells (arrF .u8 32 fo) 23 (0, 0)) (fun w => kr) ?_
  clear F H; intro aq2 a v F H
  refine T_new F H kr (fun ad => .pointer (some ⟨ad, 0, none⟩)) (.cells (arrF .u8 32 tg) 23 (0, 0)) (fun w => kr) ?_
  clear F H; intro aq3 a v F H
  refine T_new F H kr (fun ad => .pointer (some ⟨ad, 0, none⟩)) (.cells (arrF .u8 32 vv) 23 (0, 0)) (fun w => kr) ?_
  clear F H; intro aq4 a v F H
  refine T_val F H kr (.bool false) (fun _ _ => kr) ?_
  clear F; intro a F
  refine wpList_nil ?_
  refine hK1 _ _ ?_
  clear hK1
  try clear K1
  refine C_seqK (fun K5 hK5 => ?_)
  refine C_region ?_
  refine T_call F H kr 15 #[] (.bool true) (fun w => kr) (awake_any _ (hW.kept H.kept List.not_mem_nil List.not_mem_nil)) ?_
  clear F H; intro a v F H
  refine T_val F H kr (.bool true) (fun _ _ => kr) ?_
  clear F; intro a F
  refine wpList_nil ?_
  refine hK5 _ _ ?_
  clear hK5
  try clear K5
  refine C_seqK (fun K6 hK6 => ?_)
  refine C_seqK (fun K7 hK7 => ?_)
  refine C_region ?_
  refine T_val F H kr (.int .i64 x) (fun _ _ => kr) ?_
  clear F; intro a F
  refine T_val F H kr (.bool false) (fun w _ => R_bin (x := (.tmp 21)) (y := (.const (.int .i64 (-1000)))) rfl (k := .i64) (a := x) (b := (-1000)) kr kr (i_nlt (by omega)) w) ?_
  clear F; intro a F
  refine T_val F H kr (.bool false) (fun _ _ => kr) ?_
  clear F; intro a F
  refine T_val F H kr (.int .i64 x) (fun _ _ => kr) ?_
  clear F; intro a F
  refine T_val F H kr (.bool false) (fun w _ => R_bin (x := (.tmp 24)) (y := (.const (.int .i64 100000))) rfl (k := .i64) (a := x) (b := ((100000 : Nat) : Int)) kr kr (i_ngtz (by omega)) w) ?_
  clear F; intro a F
  refine T_val F H kr (.bool false) (fun _ _ => kr) ?_
  clear F; intro a F
  refine T_val F H kr (.bool false) (fun _ _ => kr) ?_
  clear F; intro a F
  refine T_val F H kr (.int .i64 y) (fun _ _ => kr) ?_
  clear F; intro a F
  refine T_val F H kr (.int .i64 x) (fun _ _ => kr) ?_
  clear F; intro a F
  refine T_val F H kr (.int .i64 (x + 20)) (fun w _ => R_bin (x := (.tmp 29)) (y := (.const (.int .i64 20))) rfl (k := .i64) (a := x) (b := 20) kr kr (i_add64 rfl (by omega)) w) ?_
  clear F; intro a F
  refine T_val F H kr (.bool false) (fun w _ => R_bin (x := (.tmp 28)) (y := (.tmp 30)) rfl (k := .i64) (a := y) (b := (x + 20)) kr kr (i_ngtz (by omega)) w) ?_
  clear F; intro a F
  refine T_val F H kr (.bool false) (fun _ _ => kr) ?_
  clear F; intro a F
  refine wpList_nil ?_
  refine hK7 _ _ ?_
  clear hK7
  try clear K7
  refine C_if F false rfl rfl ?_
  refine wp_skip ?_
  refine hK6 _ _ ?_
  clear hK6
  try clear K6
  refine C_seqK (fun K8 hK8 => ?_)
  refine C_region ?_
  refine T_val F H kr (.agg (arrF .u8 32 fo)) (R_load (own := true) (g := aq2) (all := (arrF .u8 32 fo)) (t := 23) (fr := (0, 0)) 2 kr 23 (.tmp 6) rfl 0 kr (arrF .u8 32 fo) (part_all _) _ Tryd.underlying23 rfl (by rw [arrF_size]; kernel_rfl)) ?_
  clear F; intro a F
  refine T_callX (α := SlR) F H kr 16 #[.agg (arrF .u8 32 fo)] (fun rX => .slice (some ⟨rX.g, 0, none⟩) 67 rX.cap) (fun rX => [⟨true, rX.g, .cells (sl (ints .i64 (digL fo)) rX.rest) 3 (0, 0)⟩, ⟨true, aq4, .cells (arrF .u8 32 vv) 23 (0, 0)⟩, ⟨true, aq3, .cells (arrF .u8 32 tg) 23 (0, 0)⟩, ⟨true, aq2, .cells (arrF .u8 32 fo) 23 (0, 0)⟩]) (fun rX => Own (ints .i64 (digL fo)) rX.rest 67 rX.cap 1) (fun w => kr) (fun w H => callsX_newV H (digits_any fo hfo _)) ?_
  clear F H; intro rq9 a v Qrq9 F H
  refine T_val F H kr (.slice (some ⟨rq9.g, 0, none⟩) 67 rq9.cap) (fun _ _ => kr) ?_
  clear F; intro a F
  refine wpList_nil ?_
  refine hK8 _ _ ?_
  clear hK8
  try clear K8
  refine C_seqK (fun K10 hK10 => ?_)
  refine C_region ?_
  refine T_val F H kr (.agg (arrF .u8 32 fo)) (R_load (own := true) (g := aq2) (all := (arrF .u8 32 fo)) (t := 23) (fr := (0, 0)) 3 kr 23 (.tmp 6) rfl 0 kr (arrF .u8 32 fo) (part_all _) _ Tryd.underlying23 rfl (by rw [arrF_size]; kernel_rfl)) ?_
  clear F; intro a F
  refine T_callX (α := SlR) F H kr 17 #[.agg (arrF .u8 32 fo)] (fun rX => .slice (some ⟨rX.g, 0, none⟩) 67 rX.cap) (fun rX => [⟨true, rX.g, .cells (sl (ints .i64 (digL fo)) rX.rest) 3 (0, 0)⟩, ⟨true, rq9.g, .cells (sl (ints .i64 (digL fo)) rq9.rest) 3 (0, 0)⟩, ⟨true, aq4, .cells (arrF .u8 32 vv) 23 (0, 0)⟩, ⟨true, aq3, .cells (arrF .u8 32 tg) 23 (0, 0)⟩, ⟨true, aq2, .cells (arrF .u8 32 fo) 23 (0, 0)⟩]) (fun rX => Own (ints .i64 (digL fo)) rX.rest 67 rX.cap 1) (fun w => kr) (fun w H => callsX_newV H (digitsR_any fo hfo _)) ?_
  clear F H; intro rq11 a v Qrq11 F H
  refine T_val F H kr (.slice (some ⟨rq11.g, 0, none⟩) 67 rq11.cap) (fun _ _ => kr) ?_
  clear F; intro a F
  refine wpList_nil ?_
  refine hK10 _ _ ?_
  clear hK10
  try clear K10
  refine C_seqK (fun K12 hK12 => ?_)
  refine C_seqK (fun K13 hK13 => ?_)
  refine C_region ?_
  refine T_val F H kr (.slice (some ⟨rq9.g, 0, none⟩) 67 rq9.cap) (fun _ _ => kr) ?_
  clear F; intro a F
  refine T_val F H kr (.int .i64 ((67 : Nat) : Int)) (fun _ _ => kr) ?_
  clear F; intro a F
  refine T_val F H kr (.slice (some ⟨rq11.g, 0, none⟩) 67 rq11.cap) (fun _ _ => kr) ?_
  clear F; intro a F
  refine T_val F H kr (.int .i64 ((67 : Nat) : Int)) (fun _ _ => kr) ?_
  clear F; intro a F
  refine T_val F H kr (.bool false) (fun _ _ => kr) ?_
  clear F; intro a F
  refine wpList_nil ?_
  refine hK13 _ _ ?_
  clear hK13
  try clear K13
  refine C_if F false rfl rfl ?_
  refine wp_skip ?_
  refine hK12 _ _ ?_
  clear hK12
  try clear K12
  refine C_seqK (fun K14 hK14 => ?_)
  refine C_seqK (fun K15 hK15 => ?_)
  refine C_region ?_
  refine T_val F H kr (.int .i64 ((0 : Nat) : Int)) (fun _ _ => kr) ?_
  clear F; intro a F
  refine wpList_nil ?_
  replace F : Fm 80 [] [(16, .int .i64 ((0 : Nat) : Int)), (14, .slice (some ⟨rq9.g, 0, none⟩) 67 rq9.cap), (15, .slice (some ⟨rq11.g, 0, none⟩) 67 rq11.cap), (13, .bool true), (2, .int .i64 ch), (3, .int .i64 x), (4, .int .i64 y), (7, .pointer (some ⟨aq3, 0, none⟩)), (11, .pointer (some ⟨aq4, 0, none⟩))] a := F.weak _ (⟨rfl, ⟨rfl, ⟨rfl, ⟨rfl, ⟨rfl, ⟨rfl, ⟨rfl, ⟨rfl, ⟨rfl, trivial⟩⟩⟩⟩⟩⟩⟩⟩⟩)
  replace H : Hp [] w [⟨true, rq9.g, .cells (sl (ints .i64 (digL fo)) rq9.rest) 3 (0, 0)⟩, ⟨true, rq11.g, .cells (sl (ints .i64 (digL fo)) rq11.rest) 3 (0, 0)⟩, ⟨true, aq3, .cells (arrF .u8 32 tg) 23 (0, 0)⟩, ⟨true, aq4, .cells (arrF .u8 32 vv) 23 (0, 0)⟩] v := H.pick [1, 0, 3, 2] kr _ rfl
  refine hK15 _ _ ?_
  clear hK15
  try clear K15
  refine wp_block ?_
  refine C_loop (fun m a v => ∃ k, k + m = 67 ∧ Fm 80 [] [(16, .int .i64 ((k : Nat) : Int)), (14, .slice (some ⟨rq9.g, 0, none⟩) 67 rq9.cap), (15, .slice (some ⟨rq11.g, 0, none⟩) 67 rq11.cap), (13, .bool true), (2, .int .i64 ch), (3, .int .i64 x), (4, .int .i64 y), (7, .pointer (some ⟨aq3, 0, none⟩)), (11, .pointer (some ⟨aq4, 0, none⟩))] a ∧ Hp [] w [⟨true, rq9.g, .cells (sl (ints .i64 (digL fo)) rq9.rest) 3 (0, 0)⟩, ⟨true, rq11.g, .cells (sl (ints .i64 (digL fo)) rq11.rest) 3 (0, 0)⟩, ⟨true, aq3, .cells (arrF .u8 32 tg) 23 (0, 0)⟩, ⟨true, aq4, .cells (arrF .u8 32 vv) 23 (0, 0)⟩] v) (67) ⟨0, Nat.zero_add _, F, H⟩ ?_
  clear F H
  intro m a v ⟨k, hk, F, H⟩
  rcases m with _ | m
  rotate_left
  · skip
    refine C_seqK (fun K16 hK16 => ?_)
    refine C_seqK (fun K17 hK17 => ?_)
    refine C_region ?_
    refine T_val F H kr (.int .i64 ((k : Nat) : Int)) (fun _ _ => kr) ?_
    clear F; intro a F
    refine T_val F H kr (.slice (some ⟨rq9.g, 0, none⟩) 67 rq9.cap) (fun _ _ => kr) ?_
    clear F; intro a F
    refine T_val F H kr (.int .i64 ((67 : Nat) : Int)) (fun _ _ => kr) ?_
    clear F; intro a F
    refine T_val F H kr (.bool true) (fun w _ => R_bin (x := (.tmp 43)) (y := (.tmp 45)) rfl (k := .i64) (a := ((k : Nat) : Int)) (b := ((67 : Nat) : Int)) kr kr (i_lt (by omega)) w) ?_
    clear F; intro a F
    refine wpList_nil ?_
    refine hK17 _ _ ?_
    clear hK17
    try clear K17
    refine C_if F true rfl rfl ?_
    refine wp_skip ?_
    refine hK16 _ _ ?_
    clear hK16
    try clear K16
    refine C_seqK (fun K18 hK18 => ?_)
    refine wp_block ?_
    refine C_seqK (fun K19 hK19 => ?_)
    refine E_region F H (fun β => [(49, .slice (some ⟨rq9.g, 0, none⟩) 67 rq9.cap), (50, .int .i64 ((k : Nat) : Int)), (51, .pointer (some ⟨rq9.g, (0 + (k) * 1), none⟩)), (52, .int .i64 (((digL fo).getD k 0 : Nat) : Int)), (53, .slice (some ⟨rq11.g, 0, none⟩) 67 rq11.cap), (54, .int .i64 ((k : Nat) : Int)), (55, .pointer (some ⟨rq11.g, (0 + (k) * 1), none⟩)), (56, .int .i64 (((digL fo).getD k 0 : Nat) : Int)), (57, .bool false)]) [49, 50, 51, 52, 53, 54, 55, 56, 57] [] [⟨true, rq9.g, .cells (sl (ints .i64 (digL fo)) rq9.rest) 3 (0, 0)⟩, ⟨true, rq11.g, .cells (sl (ints .i64 (digL fo)) rq11.rest) 3 (0, 0)⟩, ⟨true, aq3, .cells (arrF .u8 32 tg) 23 (0, 0)⟩, ⟨true, aq4, .cells (arrF .u8 32 vv) 23 (0, 0)⟩] [0, 1, 2, 3] 2 [] kr kr kr (fun β => rfl) trivial ⟨?_, ?_, ?_, ?_, ?_, ?_, ?_, ?_, ?_, trivial⟩ ?_
    · exact E_val 80 (fun β => kr) (fun β => .slice (some ⟨rq9.g, 0, none⟩) 67 rq9.cap) 49 rfl (fun β => kr) 2 [] kr rfl (fun β w hk hl hq => kr)
    · exact E_val 80 (fun β => kr) (fun β => .int .i64 ((k : Nat) : Int)) 50 rfl (fun β => kr) 2 [] kr rfl (fun β w hk hl hq => kr)
    · exact E_val 80 (fun β => kr) (fun β => .pointer (some ⟨rq9.g, (0 + (k) * 1), none⟩)) 51 rfl (fun β => kr) 2 [] kr rfl (fun β w hk hl hq => R_indexS (k := .i64) (g := rq9.g) (off := 0) (len := 67) (cap := rq9.cap) (x := (.tmp 49)) (y := (.tmp 50)) rfl Tryd.underlying25 kr (k) kr (by omega) (sz := 1) kr w)
    · exact E_val 80 (fun β => kr) (fun β => .int .i64 (((digL fo).getD k 0 : Nat) : Int)) 52 rfl (fun β => kr) 2 [] kr rfl (fun β w hk hl hq => ((fun β => R_cell (own := true) (g := rq9.g) (all := (sl (ints .i64 (digL fo)) rq9.rest)) (t := 3) (fr := (0, 0)) 0 kr 3 (.tmp 51) rfl (0 + (k) * 1) kr (.int .i64 (((digL fo).getD k 0 : Nat) : Int)) ((congrArg (fun q => ((sl (ints .i64 (digL fo)) rq9.rest))[q]?) (show (0 + (k) * 1) = k by omega)).trans (sl_get (ints_get (digD_get fo (by omega))))) _ Tryd.underlying3 rfl) : ∀ (β : Nat → SlR) w, HeldL (rdL _ β [] ++ [⟨true, rq9.g, .cells (sl (ints .i64 (digL fo)) rq9.rest) 3 (0, 0)⟩, ⟨true, rq11.g, .cells (sl (ints .i64 (digL fo)) rq11.rest) 3 (0, 0)⟩, ⟨true, aq3, .cells (arrF .u8 32 tg) 23 (0, 0)⟩, ⟨true, aq4, .cells (arrF .u8 32 vv) 23 (0, 0)⟩]) w → _) β w hl)
    · exact E_val 80 (fun β => kr) (fun β => .slice (some ⟨rq11.g, 0, none⟩) 67 rq11.cap) 53 rfl (fun β => kr) 2 [] kr rfl (fun β w hk hl hq => kr)
    · exact E_val 80 (fun β => kr) (fun β => .int .i64 ((k : Nat) : Int)) 54 rfl (fun β => kr) 2 [] kr rfl (fun β w hk hl hq => kr)
    · exact E_val 80 (fun β => kr) (fun β => .pointer (some ⟨rq11.g, (0 + (k) * 1), none⟩)) 55 rfl (fun β => kr) 2 [] kr rfl (fun β w hk hl hq => R_indexS (k := .i64) (g := rq11.g) (off := 0) (len := 67) (cap := rq11.cap) (x := (.tmp 53)) (y := (.tmp 54)) rfl Tryd.underlying25 kr (k) kr (by omega) (sz := 1) kr w)
    · exact E_val 80 (fun β => kr) (fun β => .int .i64 (((digL fo).getD k 0 : Nat) : Int)) 56 rfl (fun β => kr) 2 [] kr rfl (fun β w hk hl hq => ((fun β => R_cell (own := true) (g := rq11.g) (all := (sl (ints .i64 (digL fo)) rq11.rest)) (t := 3) (fr := (0, 0)) 1 kr 3 (.tmp 55) rfl (0 + (k) * 1) kr (.int .i64 (((digL fo).getD k 0 : Nat) : Int)) ((congrArg (fun q => ((sl (ints .i64 (digL fo)) rq11.rest))[q]?) (show (0 + (k) * 1) = k by omega)).trans (sl_get (ints_get (digD_get fo (by omega))))) _ Tryd.underlying3 rfl) : ∀ (β : Nat → SlR) w, HeldL (rdL _ β [] ++ [⟨true, rq9.g, .cells (sl (ints .i64 (digL fo)) rq9.rest) 3 (0, 0)⟩, ⟨true, rq11.g, .cells (sl (ints .i64 (digL fo)) rq11.rest) 3 (0, 0)⟩, ⟨true, aq3, .cells (arrF .u8 32 tg) 23 (0, 0)⟩, ⟨true, aq4, .cells (arrF .u8 32 vv) 23 (0, 0)⟩]) w → _) β w hl)
    · exact E_val 80 (fun β => kr) (fun β => .bool false) 57 rfl (fun β => kr) 2 [] kr rfl (fun β w hk hl hq => R_bin (x := (.tmp 52)) (y := (.tmp 56)) rfl (k := .i64) (a := (((digL fo).getD k 0 : Nat) : Int)) (b := (((digL fo).getD k 0 : Nat) : Int)) kr kr i_nesame w)
    clear F H; intro β a v Q F H
    replace H : Hp [] w [⟨true, rq9.g, .cells (sl (ints .i64 (digL fo)) rq9.rest) 3 (0, 0)⟩, ⟨true, rq11.g, .cells (sl (ints .i64 (digL fo)) rq11.rest) 3 (0, 0)⟩, ⟨true, aq3, .cells (arrF .u8 32 tg) 23 (0, 0)⟩, ⟨true, aq4, .cells (arrF .u8 32 vv) 23 (0, 0)⟩] v := H
    replace F : Fm 80 [] [(57, .bool false), (56, .int .i64 (((digL fo).getD k 0 : Nat) : Int)), (55, .pointer (some ⟨rq11.g, (0 + (k) * 1), none⟩)), (54, .int .i64 ((k : Nat) : Int)), (53, .slice (some ⟨rq11.g, 0, none⟩) 67 rq11.cap), (52, .int .i64 (((digL fo).getD k 0 : Nat) : Int)), (51, .pointer (some ⟨rq9.g, (0 + (k) * 1), none⟩)), (50, .int .i64 ((k : Nat) : Int)), (49, .slice (some ⟨rq9.g, 0, none⟩) 67 rq9.cap), (46, .bool true), (45, .int .i64 ((67 : Nat) : Int)), (44, .slice (some ⟨rq9.g, 0, none⟩) 67 rq9.cap), (43, .int .i64 ((k : Nat) : Int)), (16, .int .i64 ((k : Nat) : Int)), (14, .slice (some ⟨rq9.g, 0, none⟩) 67 rq9.cap), (15, .slice (some ⟨rq11.g, 0, none⟩) 67 rq11.cap), (13, .bool true), (2, .int .i64 ch), (3, .int .i64 x), (4, .int .i64 y), (7, .pointer (some ⟨aq3, 0, none⟩)), (11, .pointer (some ⟨aq4, 0, none⟩))] a := F.weak _ (⟨rfl, ⟨rfl, ⟨rfl, ⟨rfl, ⟨rfl, ⟨rfl, ⟨rfl, ⟨rfl, ⟨rfl, ⟨rfl, ⟨rfl, ⟨rfl, ⟨rfl, ⟨rfl, ⟨rfl, ⟨rfl, ⟨rfl, ⟨rfl, ⟨rfl, ⟨rfl, ⟨rfl, ⟨rfl, trivial⟩⟩⟩⟩⟩⟩⟩⟩⟩⟩⟩⟩⟩⟩⟩⟩⟩⟩⟩⟩⟩⟩)
    clear Q
    refine ?_
    refine hK19 _ _ ?_
    clear hK19
    try clear K19
    refine C_if F false rfl rfl ?_
    refine wp_skip ?_
    refine hK18 _ _ ?_
    clear hK18
    try clear K18
    refine C_region ?_
    refine T_val F H kr (.int .i64 ((k : Nat) : Int)) (fun _ _ => kr) ?_
    clear F; intro a F
    refine T_val F H kr (.int .i64 ((k + 1 : Nat) : Int)) (fun w _ => R_bin (x := (.tmp 47)) (y := (.const (.int .i64 1))) rfl (k := .i64) (a := ((k : Nat) : Int)) (b := ((1 : Nat) : Int)) kr kr (i_addn64 (a := k) (b := 1) (by omega)) w) ?_
    clear F; intro a F
    refine T_val F H kr (.int .i64 ((k + 1 : Nat) : Int)) (fun _ _ => kr) ?_
    clear F; intro a F
    refine wpList_nil ?_
    replace F : Fm 80 [] [(16, .int .i64 ((k + 1 : Nat) : Int)), (14, .slice (some ⟨rq9.g, 0, none⟩) 67 rq9.cap), (15, .slice (some ⟨rq11.g, 0, none⟩) 67 rq11.cap), (13, .bool true), (2, .int .i64 ch), (3, .int .i64 x), (4, .int .i64 y), (7, .pointer (some ⟨aq3, 0, none⟩)), (11, .pointer (some ⟨aq4, 0, none⟩))] a := F.weak _ (⟨rfl, ⟨rfl, ⟨rfl, ⟨rfl, ⟨rfl, ⟨rfl, ⟨rfl, ⟨rfl, ⟨rfl, trivial⟩⟩⟩⟩⟩⟩⟩⟩⟩)
    replace H : Hp [] w [⟨true, rq9.g, .cells (sl (ints .i64 (digL fo)) rq9.rest) 3 (0, 0)⟩, ⟨true, rq11.g, .cells (sl (ints .i64 (digL fo)) rq11.rest) 3 (0, 0)⟩, ⟨true, aq3, .cells (arrF .u8 32 tg) 23 (0, 0)⟩, ⟨true, aq4, .cells (arrF .u8 32 vv) 23 (0, 0)⟩] v := H
    exact ⟨m, Nat.lt_succ_self m, k + 1, by omega, F, H⟩
  have hkt : k = 67 := by omega
  try rw [hkt] at F
  try rw [hkt] at H
  clear hk
  refine C_seqK (fun K20 hK20 => ?_)
  refine C_seqK (fun K21 hK21 => ?_)
  refine C_region ?_
  refine T_val F H kr (.int .i64 ((67 : Nat) : Int)) (fun _ _ => kr) ?_
  clear F; intro a F
  refine T_val F H kr (.slice (some ⟨rq9.g, 0, none⟩) 67 rq9.cap) (fun _ _ => kr) ?_
  clear F; intro a F
  refine T_val F H kr (.int .i64 ((67 : Nat) : Int)) (fun _ _ => kr) ?_
  clear F; intro a F
  refine T_val F H kr (.bool false) (fun w _ => R_bin (x := (.tmp 43)) (y := (.tmp 45)) rfl (k := .i64) (a := ((67 : Nat) : Int)) (b := ((67 : Nat) : Int)) kr kr (i_nlt (by omega)) w) ?_
  clear F; intro a F
  refine wpList_nil ?_
  refine hK21 _ _ ?_
  clear hK21
  try clear K21
  refine C_if F false rfl rfl ?_
  refine wp_exit ?_
  refine hK14 _ _ ?_
  clear hK14
  try clear K14
  refine C_seqK (fun K22 hK22 => ?_)
  refine C_region ?_
  refine T_callX (α := SlR) F H kr 18 #[.bool false] (fun rX => .pointer (some ⟨rX.g, 0, none⟩)) (fun rX => [⟨true, rX.g, .cells (mtr 0) 91 (0, 0)⟩, ⟨true, rq9.g, .cells (sl (ints .i64 (digL fo)) rq9.rest) 3 (0, 0)⟩, ⟨true, rq11.g, .cells (sl (ints .i64 (digL fo)) rq11.rest) 3 (0, 0)⟩, ⟨true, aq3, .cells (arrF .u8 32 tg) 23 (0, 0)⟩, ⟨true, aq4, .cells (arrF .u8 32 vv) 23 (0, 0)⟩]) (fun rX => True) (fun w => kr) (fun w H => callsX_newV H (newM_any _)) ?_
  clear F H; intro rq23 a v Qrq23 F H
  refine T_val F H kr (.pointer (some ⟨rq23.g, 0, none⟩)) (fun _ _ => kr) ?_
  clear F; intro a F
  refine wpList_nil ?_
  generalize rq23.g = gm at F H
  refine hK22 _ _ ?_
  clear hK22
  try clear K22
  refine C_seqK (fun K24 hK24 => ?_)
  refine C_region ?_
  refine T_val F H kr (.agg #[.bool false, .int .i64 0, .slice none 0 0]) (fun _ _ => kr) ?_
  clear F; intro a F
  refine T_new F H kr (fun ad => .pointer (some ⟨ad, 0, none⟩)) (.cells #[.bool false, .int .i64 0, .slice none 0 0] 32 (0, 0)) (fun w => kr) ?_
  clear F H; intro aq25 a v F H
  refine T_val F H kr (.pointer (some ⟨aq25, 0, none⟩)) (fun _ _ => kr) ?_
  clear F; intro a F
  refine wpList_nil ?_
  rw [show (#[.bool false, .int .i64 0, .slice none 0 0] : Array Value) = lgr 0 from kr] at H
  generalize aq25 = gl at F H
  refine hK24 _ _ ?_
  clear hK24
  try clear K24
  refine C_seqK (fun K26 hK26 => ?_)
  refine C_region ?_
  refine T_val F H kr (.pointer (some ⟨gm, 0, none⟩)) (fun _ _ => kr) ?_
  clear F; intro a F
  refine T_val F H kr (.agg (arrF .u8 32 tg)) (R_load (own := true) (g := aq3) (all := (arrF .u8 32 tg)) (t := 23) (fr := (0, 0)) 4 kr 23 (.tmp 7) rfl 0 kr (arrF .u8 32 tg) (part_all _) _ Tryd.underlying23 rfl (by rw [arrF_size]; kernel_rfl)) ?_
  clear F; intro a F
  refine T_val F H kr (.int .i64 ch) (fun _ _ => kr) ?_
  clear F; intro a F
  refine T_val F H kr (.int .i64 x) (fun _ _ => kr) ?_
  clear F; intro a F
  refine T_val F H kr (.int .i64 y) (fun _ _ => kr) ?_
  clear F; intro a F
  refine T_val F H kr (.agg (arrF .u8 32 vv)) (R_load (own := true) (g := aq4) (all := (arrF .u8 32 vv)) (t := 23) (fr := (0, 0)) 5 kr 23 (.tmp 11) rfl 0 kr (arrF .u8 32 vv) (part_all _) _ Tryd.underlying23 rfl (by rw [arrF_size]; kernel_rfl)) ?_
  clear F; intro a F
  refine T_callX (α := SlR) F H kr 19 #[.pointer (some ⟨gm, 0, none⟩), .agg (arrF .u8 32 tg), .int .i64 ch, .int .i64 x, .int .i64 y, .agg (arrF .u8 32 vv)] (fun rX => .agg (arrF .u8 32 (alF tg ch x vv (y - x).toNat))) (fun rX => [⟨true, gl, .cells (lgr 0) 32 (0, 0)⟩, ⟨true, gm, .cells (mtr rX.n) 91 (0, 0)⟩, ⟨true, rq9.g, .cells (sl (ints .i64 (digL fo)) rq9.rest) 3 (0, 0)⟩, ⟨true, rq11.g, .cells (sl (ints .i64 (digL fo)) rq11.rest) 3 (0, 0)⟩, ⟨true, aq3, .cells (arrF .u8 32 tg) 23 (0, 0)⟩, ⟨true, aq4, .cells (arrF .u8 32 vv) 23 (0, 0)⟩]) (fun rX => True) (fun w => kr) (fun w H => callsX_putV H (k := 1) rfl ((along_any gm 0 tg htg ch x y (by omega) (by omega) vv hvv _ (hW.kept H.kept List.not_mem_nil List.not_mem_nil) (H.at_ (k := 1) rfl)).mono (fun _ _ ⟨r, q1, q2, q3, q4⟩ => ⟨r, q1, trivial, q3, q4⟩))) ?_
  clear F H; intro rq27 a v Qrq27 F H
  refine T_new F H kr (fun ad => .pointer (some ⟨ad, 0, none⟩)) (.cells #[.int .u8 0, .int .u8 0, .int .u8 0, .int .u8 0, .int .u8 0, .int .u8 0, .int .u8 0, .int .u8 0, .int .u8 0, .int .u8 0, .int .u8 0, .int .u8 0, .int .u8 0, .int .u8 0, .int .u8 0, .int .u8 0, .int .u8 0, .int .u8 0, .int .u8 0, .int .u8 0, .int .u8 0, .int .u8 0, .int .u8 0, .int .u8 0, .int .u8 0, .int .u8 0, .int .u8 0, .int .u8 0, .int .u8 0, .int .u8 0, .int .u8 0, .int .u8 0] 23 (0, 0)) (fun w => kr) ?_
  clear F H; intro aq28 a v F H
  refine T_set F H kr rfl 0 rfl (arrF .u8 32 (alF tg ch x vv (y - x).toNat)) (S_row 0 rfl 23 (.tmp 19) (.tmp 67) rfl kr (arrF .u8 32 (alF tg ch x vv (y - x).toNat)) kr (by rw [arrF_size]; kernel_rfl) (by rw [arrF_size]; kernel_rfl) (arrF_one _ _ _)) [⟨true, aq28, .cells (arrF .u8 32 (alF tg ch x vv (y - x).toNat)) 23 (0, 0)⟩, ⟨true, gl, .cells (lgr 0) 32 (0, 0)⟩, ⟨true, gm, .cells (mtr rq27.n) 91 (0, 0)⟩, ⟨true, rq9.g, .cells (sl (ints .i64 (digL fo)) rq9.rest) 3 (0, 0)⟩, ⟨true, rq11.g, .cells (sl (ints .i64 (digL fo)) rq11.rest) 3 (0, 0)⟩, ⟨true, aq3, .cells (arrF .u8 32 tg) 23 (0, 0)⟩, ⟨true, aq4, .cells (arrF .u8 32 vv) 23 (0, 0)⟩] rfl ?_
  clear F H; intro a v F H
  refine wpList_nil ?_
  refine hK26 _ _ ?_
  clear hK26
  try clear K26
  refine C_seqK (fun K29 hK29 => ?_)
  refine E_region F H (fun β => [(68, .bool true), (69, .bool true), (70, .agg (arrF .u8 32 (alF tg ch x vv (y - x).toNat))), (71, .pointer (some ⟨gl, 0, none⟩)), (72, .agg (arrF .u8 32 tg)), (73, .int .i64 ch), (74, .int .i64 x), (75, .int .i64 y), (76, .agg (arrF .u8 32 vv)), (77, .agg (arrF .u8 32 (alF tg ch x vv (y - x).toNat))), (78, .bool true), (79, .bool true), (12, .bool true)]) [68, 69, 70, 71, 72, 73, 74, 75, 76, 77, 78, 79, 12] [⟨none, none, gl, [], fun gl_ => .cells (lgr 0) 32 (0, 0), fun gl_ => True, [⟨9, [9], fun gl_ => .cells (lgr (gh gl_ 0).n) 32 (0, 0), fun gl_ => True⟩]⟩] [⟨true, aq28, .cells (arrF .u8 32 (alF tg ch x vv (y - x).toNat)) 23 (0, 0)⟩, ⟨true, gm, .cells (mtr rq27.n) 91 (0, 0)⟩, ⟨true, rq9.g, .cells (sl (ints .i64 (digL fo)) rq9.rest) 3 (0, 0)⟩, ⟨true, rq11.g, .cells (sl (ints .i64 (digL fo)) rq11.rest) 3 (0, 0)⟩, ⟨true, aq3, .cells (arrF .u8 32 tg) 23 (0, 0)⟩, ⟨true, aq4, .cells (arrF .u8 32 vv) 23 (0, 0)⟩] [1, 0, 2, 3, 4, 5, 6] 2 [] kr kr kr (fun β => rfl) ⟨fun _ _ => trivial, trivial⟩ ⟨?_, ?_, ?_, ?_, ?_, ?_, ?_, ?_, ?_, ?_, ?_, ?_, ?_, trivial⟩ ?_
  · exact E_val 80 (fun β => kr) (fun β => .bool true) 68 rfl (fun β => kr) 2 [] kr rfl (fun β w hk hl hq => kr)
  · exact E_val 80 (fun β => kr) (fun β => .bool true) 69 rfl (fun β => kr) 2 [] kr rfl (fun β w hk hl hq => kr)
  · exact E_val 80 (fun β => kr) (fun β => .agg (arrF .u8 32 (alF tg ch x vv (y - x).toNat))) 70 rfl (fun β => kr) 2 [] kr rfl (fun β w hk hl hq => ((fun β => R_load (own := true) (g := aq28) (all := (arrF .u8 32 (alF tg ch x vv (y - x).toNat))) (t := 23) (fr := (0, 0)) 0 kr 23 (.tmp 19) rfl 0 kr (arrF .u8 32 (alF tg ch x vv (y - x).toNat)) (part_all _) _ Tryd.underlying23 rfl (by rw [arrF_size]; kernel_rfl)) : ∀ (β : Nat → SlR) w, HeldL (rdL _ β [] ++ [⟨true, aq28, .cells (arrF .u8 32 (alF tg ch x vv (y - x).toNat)) 23 (0, 0)⟩, ⟨true, gm, .cells (mtr rq27.n) 91 (0, 0)⟩, ⟨true, rq9.g, .cells (sl (ints .i64 (digL fo)) rq9.rest) 3 (0, 0)⟩, ⟨true, rq11.g, .cells (sl (ints .i64 (digL fo)) rq11.rest) 3 (0, 0)⟩, ⟨true, aq3, .cells (arrF .u8 32 tg) 23 (0, 0)⟩, ⟨true, aq4, .cells (arrF .u8 32 vv) 23 (0, 0)⟩]) w → _) β w hl)
  · exact E_val 80 (fun β => kr) (fun β => .pointer (some ⟨gl, 0, none⟩)) 71 rfl (fun β => kr) 2 [] kr rfl (fun β w hk hl hq => kr)
  · exact E_val 80 (fun β => kr) (fun β => .agg (arrF .u8 32 tg)) 72 rfl (fun β => kr) 2 [] kr rfl (fun β w hk hl hq => ((fun β => R_load (own := true) (g := aq3) (all := (arrF .u8 32 tg)) (t := 23) (fr := (0, 0)) 4 kr 23 (.tmp 7) rfl 0 kr (arrF .u8 32 tg) (part_all _) _ Tryd.underlying23 rfl (by rw [arrF_size]; kernel_rfl)) : ∀ (β : Nat → SlR) w, HeldL (rdL _ β [] ++ [⟨true, aq28, .cells (arrF .u8 32 (alF tg ch x vv (y - x).toNat)) 23 (0, 0)⟩, ⟨true, gm, .cells (mtr rq27.n) 91 (0, 0)⟩, ⟨true, rq9.g, .cells (sl (ints .i64 (digL fo)) rq9.rest) 3 (0, 0)⟩, ⟨true, rq11.g, .cells (sl (ints .i64 (digL fo)) rq11.rest) 3 (0, 0)⟩, ⟨true, aq3, .cells (arrF .u8 32 tg) 23 (0, 0)⟩, ⟨true, aq4, .cells (arrF .u8 32 vv) 23 (0, 0)⟩]) w → _) β w hl)
  · exact E_val 80 (fun β => kr) (fun β => .int .i64 ch) 73 rfl (fun β => kr) 2 [] kr rfl (fun β w hk hl hq => kr)
  · exact E_val 80 (fun β => kr) (fun β => .int .i64 x) 74 rfl (fun β => kr) 2 [] kr rfl (fun β w hk hl hq => kr)
  · exact E_val 80 (fun β => kr) (fun β => .int .i64 y) 75 rfl (fun β => kr) 2 [] kr rfl (fun β w hk hl hq => kr)
  · exact E_val 80 (fun β => kr) (fun β => .agg (arrF .u8 32 vv)) 76 rfl (fun β => kr) 2 [] kr rfl (fun β w hk hl hq => ((fun β => R_load (own := true) (g := aq4) (all := (arrF .u8 32 vv)) (t := 23) (fr := (0, 0)) 5 kr 23 (.tmp 11) rfl 0 kr (arrF .u8 32 vv) (part_all _) _ Tryd.underlying23 rfl (by rw [arrF_size]; kernel_rfl)) : ∀ (β : Nat → SlR) w, HeldL (rdL _ β [] ++ [⟨true, aq28, .cells (arrF .u8 32 (alF tg ch x vv (y - x).toNat)) 23 (0, 0)⟩, ⟨true, gm, .cells (mtr rq27.n) 91 (0, 0)⟩, ⟨true, rq9.g, .cells (sl (ints .i64 (digL fo)) rq9.rest) 3 (0, 0)⟩, ⟨true, rq11.g, .cells (sl (ints .i64 (digL fo)) rq11.rest) 3 (0, 0)⟩, ⟨true, aq3, .cells (arrF .u8 32 tg) 23 (0, 0)⟩, ⟨true, aq4, .cells (arrF .u8 32 vv) 23 (0, 0)⟩]) w → _) β w hl)
  · exact E_callP 80 (fun β => kr) (fun β => .agg (arrF .u8 32 (alF tg ch x vv (y - x).toNat))) 77 rfl (fun β => kr) 2 (fun β r => ⟨rfl, .inr (.inr rfl), ⟨rfl, .inr (.inr rfl), ⟨rfl, .inr (.inr rfl), ⟨rfl, .inr (.inr rfl), ⟨rfl, .inr (.inr rfl), ⟨rfl, .inr (.inr rfl), ⟨rfl, .inr (.inr rfl), ⟨rfl, .inr (.inr rfl), ⟨rfl, .inr (.inr rfl), ⟨rfl, .inl rfl, ⟨rfl, .inr (.inr rfl), ⟨rfl, .inr (.inr rfl), ⟨rfl, .inr (.inr rfl), trivial⟩⟩⟩⟩⟩⟩⟩⟩⟩⟩⟩⟩⟩) 20 (fun β => #[.pointer (some ⟨gl, 0, none⟩), .agg (arrF .u8 32 tg), .int .i64 ch, .int .i64 x, .int .i64 y, .agg (arrF .u8 32 vv)]) (fun β w => kr) 2 [] 0 0 _ _ rfl rfl kr kr rfl (fun β w hk hl hq hm => (lalong_any gl 0 tg htg (ch) (x) (y) (by omega) (by omega) vv hvv _ hm).mono (fun _ _ ⟨r, q1, q2⟩ => ⟨r, q1, q2⟩))
  · exact E_val 80 (fun β => kr) (fun β => .bool true) 78 rfl (fun β => kr) 2 [] kr rfl (fun β w hk hl hq => R_eqK (x := (.tmp 70)) (y := (.tmp 77)) rfl (alF tg ch x vv (y - x).toNat) (alF tg ch x vv (y - x).toNat) kr kr true ⟨fun _ _ _ => rfl, fun _ => rfl⟩ w)
  · exact E_val 80 (fun β => kr) (fun β => .bool true) 79 rfl (fun β => kr) 2 [] kr rfl (fun β w hk hl hq => kr)
  · exact E_val 80 (fun β => kr) (fun β => .bool true) 12 rfl (fun β => kr) 2 [] kr rfl (fun β w hk hl hq => kr)
  clear F H; intro β a v Q F H
  replace H : Hp [] w [⟨true, gl, .cells (lgr (β 9).n) 32 (0, 0)⟩, ⟨true, aq28, .cells (arrF .u8 32 (alF tg ch x vv (y - x).toNat)) 23 (0, 0)⟩, ⟨true, gm, .cells (mtr rq27.n) 91 (0, 0)⟩, ⟨true, rq9.g, .cells (sl (ints .i64 (digL fo)) rq9.rest) 3 (0, 0)⟩, ⟨true, rq11.g, .cells (sl (ints .i64 (digL fo)) rq11.rest) 3 (0, 0)⟩, ⟨true, aq3, .cells (arrF .u8 32 tg) 23 (0, 0)⟩, ⟨true, aq4, .cells (arrF .u8 32 vv) 23 (0, 0)⟩] v := H
  replace F : Fm 80 [] [(12, .bool true), (79, .bool true), (78, .bool true), (77, .agg (arrF .u8 32 (alF tg ch x vv (y - x).toNat))), (76, .agg (arrF .u8 32 vv)), (75, .int .i64 y), (74, .int .i64 x), (73, .int .i64 ch), (72, .agg (arrF .u8 32 tg)), (71, .pointer (some ⟨gl, 0, none⟩)), (70, .agg (arrF .u8 32 (alF tg ch x vv (y - x).toNat))), (69, .bool true), (68, .bool true), (19, .pointer (some ⟨aq28, 0, none⟩)), (67, .agg (arrF .u8 32 (alF tg ch x vv (y - x).toNat))), (66, .agg (arrF .u8 32 vv)), (65, .int .i64 y), (64, .int .i64 x), (63, .int .i64 ch), (62, .agg (arrF .u8 32 tg)), (61, .pointer (some ⟨gm, 0, none⟩)), (18, .pointer (some ⟨gl, 0, none⟩)), (60, .pointer (some ⟨gl, 0, none⟩)), (59, .agg #[.bool false, .int .i64 0, .slice none 0 0]), (17, .pointer (some ⟨gm, 0, none⟩)), (58, .pointer (some ⟨gm, 0, none⟩)), (46, .bool false), (45, .int .i64 ((67 : Nat) : Int)), (44, .slice (some ⟨rq9.g, 0, none⟩) 67 rq9.cap), (43, .int .i64 ((67 : Nat) : Int)), (16, .int .i64 ((67 : Nat) : Int)), (14, .slice (some ⟨rq9.g, 0, none⟩) 67 rq9.cap), (15, .slice (some ⟨rq11.g, 0, none⟩) 67 rq11.cap), (13, .bool true), (2, .int .i64 ch), (3, .int .i64 x), (4, .int .i64 y), (7, .pointer (some ⟨aq3, 0, none⟩)), (11, .pointer (some ⟨aq4, 0, none⟩))] a := F.weak _ (⟨rfl, ⟨rfl, ⟨rfl, ⟨rfl, ⟨rfl, ⟨rfl, ⟨rfl, ⟨rfl, ⟨rfl, ⟨rfl, ⟨rfl, ⟨rfl, ⟨rfl, ⟨rfl, ⟨rfl, ⟨rfl, ⟨rfl, ⟨rfl, ⟨rfl, ⟨rfl, ⟨rfl, ⟨rfl, ⟨rfl, ⟨rfl, ⟨rfl, ⟨rfl, ⟨rfl, ⟨rfl, ⟨rfl, ⟨rfl, ⟨rfl, ⟨rfl, ⟨rfl, ⟨rfl, ⟨rfl, ⟨rfl, ⟨rfl, ⟨rfl, ⟨rfl, trivial⟩⟩⟩⟩⟩⟩⟩⟩⟩⟩⟩⟩⟩⟩⟩⟩⟩⟩⟩⟩⟩⟩⟩⟩⟩⟩⟩⟩⟩⟩⟩⟩⟩⟩⟩⟩⟩⟩⟩)
  clear Q
  generalize β 9 = rq30 at F H
  skip
  refine ?_
  refine hK29 _ _ ?_
  clear hK29
  try clear K29
  refine wp_ret ?_
  exact C_ret F H (rs := [.tmp 12]) rfl (vs := [.bool true]) (.tmp rfl .nil) (.bool true) rfl ⟨rfl, H.kept⟩

theorem otsDigits_any (fo : Nat → Nat) (hfo : ∀ i, i < 32 → fo i < 256) (tg : Nat → Nat) (htg : ∀ i, i < 32 → tg i < 256) (ch x y : Int) (vv : Nat → Nat) (hvv : ∀ i, i < 32 → vv i < 256) (w : World) (hW : Laid w) : Calls Tryd.prog 3 #[.agg (arrF .u8 32 fo), .agg (arrF .u8 32 tg), .int .i64 ch, .int .i64 x, .int .i64 y, .agg (arrF .u8 32 vv)] w fun e w' => e = .returned (.bool true) ∧ Kept [] w w' := by
  by_cases h1 : x < -1000
  · exact digits1 fo hfo tg htg ch x y vv hvv h1 w hW
  by_cases h2 : 100000 < x
  · exact digits2 fo hfo tg htg ch x y vv hvv h2 w hW
  by_cases h3 : x + 20 < y
  · exact digits3 fo hfo tg htg ch x y vv hvv (by omega) (by omega) h3 w hW
  exact digits4 fo hfo tg htg ch x y vv hvv (by omega) (by omega) (by omega) w hW
end Go.Proofs.YtdejhenkdbjakaaDoor
