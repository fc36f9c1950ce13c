/- Walks: OtsRecovers. -/
import Derived.Test.YtdejhenkdbjakaaDoorVB
set_option linter.unusedVariables false
set_option linter.unusedSimpArgs false
namespace Go.Proofs.YtdejhenkdbjakaaDoor
open Go Go.RowKit
set_option maxRecDepth 100000 in
set_option maxHeartbeats 4000000 in
theorem recLong (tag : Nat → Nat) (ht : ∀ i, i < 32 → tag i < 256) (fd : Nat → Nat) (hfd : ∀ i, i < 32 → fd i < 256) (ad : Option Addr) (len cp : Nat) (hlen : 80 < len) (w : World) (hW : Laid w) : Calls Tryd.prog 5 #[.agg (arrF .u8 32 tag), .agg (arrF .u8 32 fd), .slice ad len cp] w fun e w' => e = .returned (.bool true) ∧ Kept [] w w' := by
  refine C_enter Tryd.func5 rfl 49 Tryd.ntmps5 (Nat.le_of_ble_eq_true rfl) (fun a F => ?_)
  have H := Hp.start [] w
  replace F : Fm 49 [] [(0, .agg (arrF .u8 32 tag)), (1, .agg (arrF .u8 32 fd)), (2, .slice ad len cp)] a := F.weak _ (⟨rfl, ⟨rfl, ⟨rfl, trivial⟩⟩⟩)
  refine C_seqK (fun K1 hK1 => ?_)
  refine C_region ?_
  refine T_new F H kr (fun ad => .pointer (some ⟨ad, 0, none⟩)) (.cells (arrF .u8 32 tag) 23 (0, 0)) (fun w => kr) ?_
  clear F H; intro aq2 a v F H
  refine T_new F H kr (fun ad => .pointer (some ⟨ad, 0, none⟩)) (.cells (arrF .u8 32 fd) 23 (0, 0)) (fun w => kr) ?_
  clear F H; intro aq3 a v F H
  refine T_val F H kr (.bool false) (fun _ _ => kr) ?_
  clear F; intro a F
  refine wpList_nil ?_
  refine hK1 _ _ ?_
  clear hK1
  try clear K1
  refine C_seqK (fun K4 hK4 => ?_)
  refine C_region ?_
  refine T_call F H kr 15 #[] (.bool true) (fun w => kr) (awake_any _ (hW.kept H.kept List.not_mem_nil List.not_mem_nil)) ?_
  clear F H; intro a v F H
  refine T_val F H kr (.bool true) (fun _ _ => kr) ?_
  clear F; intro a F
  refine wpList_nil ?_
  refine hK4 _ _ ?_
  clear hK4
  try clear K4
  refine C_seqK (fun K5 hK5 => ?_)
  refine C_seqK (fun K6 hK6 => ?_)
  refine C_region ?_
  refine T_val F H kr (.slice ad len cp) (fun _ _ => kr) ?_
  clear F; intro a F
  refine T_val F H kr (.int .i64 ((len : Nat) : Int)) (fun _ _ => kr) ?_
  clear F; intro a F
  refine T_val F H kr (.bool true) (fun w _ => R_bin (x := (.tmp 16)) (y := (.const (.int .i64 80))) rfl (k := .i64) (a := ((len : Nat) : Int)) (b := ((80 : Nat) : Int)) kr kr (i_gtn (by omega)) w) ?_
  clear F; intro a F
  refine wpList_nil ?_
  refine hK6 _ _ ?_
  clear hK6
  try clear K6
  refine C_if F true rfl rfl ?_
  refine C_seqK (fun K7 hK7 => ?_)
  refine C_region ?_
  refine T_val F H kr (.bool true) (fun _ _ => kr) ?_
  clear F; intro a F
  refine T_val F H kr (.bool true) (fun _ _ => kr) ?_
  clear F; intro a F
  refine wpList_nil ?_
  refine hK7 _ _ ?_
  clear hK7
  try clear K7
  refine wp_ret ?_
  repeat (first | with_reducible refine then_ret ?_ | with_reducible refine inB_ret ?_)
  exact C_ret F H (rs := [.tmp 6]) rfl (vs := [.bool true]) (.tmp rfl .nil) (.bool true) rfl ⟨rfl, H.kept⟩

set_option maxRecDepth 100000 in
set_option maxHeartbeats 4000000 in
theorem recShort (tag : Nat → Nat) (ht : ∀ i, i < 32 → tag i < 256) (fd : Nat → Nat) (hfd : ∀ i, i < 32 → fd i < 256) (ad : Option Addr) (len cp : Nat) (hlen : len ≤ 80 ∧ len ≠ 67) (w : World) (hW : Laid w) : Calls Tryd.prog 5 #[.agg (arrF .u8 32 tag), .agg (arrF .u8 32 fd), .slice ad len cp] w fun e w' => e = .returned (.bool true) ∧ Kept [] w w' := by
  refine C_enter Tryd.func5 rfl 49 Tryd.ntmps5 (Nat.le_of_ble_eq_true rfl) (fun a F => ?_)
  have H := Hp.start [] w
  replace F : Fm 49 [] [(0, .agg (arrF .u8 32 tag)), (1, .agg (arrF .u8 32 fd)), (2, .slice ad len cp)] a := F.weak _ (⟨rfl, ⟨rfl, ⟨rfl, trivial⟩⟩⟩)
  refine C_seqK (fun K1 hK1 => ?_)
  refine C_region ?_
  refine T_new F H kr (fun ad => .pointer (some ⟨ad, 0, none⟩)) (.cells (arrF .u8 32 tag) 23 (0, 0)) (fun w => kr) ?_
  clear F H; intro aq2 a v F H
  refine T_new F H kr (fun ad => .pointer (some ⟨ad, 0, none⟩)) (.cells (arrF .u8 32 fd) 23 (0, 0)) (fun w => kr) ?_
  clear F H; intro aq3 a v F H
  refine T_val F H kr (.bool false) (fun _ _ => kr) ?_
  clear F; intro a F
  refine wpList_nil ?_
  refine hK1 _ _ ?_
  clear hK1
  try clear K1
  refine C_seqK (fun K4 hK4 => ?_)
  refine C_region ?_
  refine T_call F H kr 15 #[] (.bool true) (fun w => kr) (awake_any _ (hW.kept H.kept List.not_mem_nil List.not_mem_nil)) ?_
  clear F H; intro a v F H
  refine T_val F H kr (.bool true) (fun _ _ => kr) ?_
  clear F; intro a F
  refine wpList_nil ?_
  refine hK4 _ _ ?_
  clear hK4
  try clear K4
  refine C_seqK (fun K5 hK5 => ?_)
  refine C_seqK (fun K6 hK6 => ?_)
  refine C_region ?_
  refine T_val F H kr (.slice ad len cp) (fun _ _ => kr) ?_
  clear F; intro a F
  refine T_val F H kr (.int .i64 ((len : Nat) : Int)) (fun _ _ => kr) ?_
  clear F; intro a F
  refine T_val F H kr (.bool false) (fun w _ => R_bin (x := (.tmp 16)) (y := (.const (.int .i64 80))) rfl (k := .i64) (a := ((len : Nat) : Int)) (b := ((80 : Nat) : Int)) kr kr (i_ngtn (by omega)) w) ?_
  clear F; intro a F
  refine wpList_nil ?_
  refine hK6 _ _ ?_
  clear hK6
  try clear K6
  refine C_if F false rfl rfl ?_
  refine wp_skip ?_
  refine hK5 _ _ ?_
  clear hK5
  try clear K5
  refine C_seqK (fun K7 hK7 => ?_)
  refine C_region ?_
  refine T_callX (α := SlR) F H kr 18 #[.bool false] (fun rX => .pointer (some ⟨rX.g, 0, none⟩)) (fun rX => [⟨true, rX.g, .cells (mtr 0) 91 (0, 0)⟩, ⟨true, aq3, .cells (arrF .u8 32 fd) 23 (0, 0)⟩, ⟨true, aq2, .cells (arrF .u8 32 tag) 23 (0, 0)⟩]) (fun rX => True) (fun w => kr) (fun w H => callsX_newV H (newM_any _)) ?_
  clear F H; intro rq8 a v Qrq8 F H
  refine T_val F H kr (.pointer (some ⟨rq8.g, 0, none⟩)) (fun _ _ => kr) ?_
  clear F; intro a F
  refine wpList_nil ?_
  generalize rq8.g = gm at F H
  refine hK7 _ _ ?_
  clear hK7
  try clear K7
  refine C_seqK (fun K9 hK9 => ?_)
  refine C_region ?_
  refine T_val F H kr (.agg #[.bool false, .int .i64 0, .slice none 0 0]) (fun _ _ => kr) ?_
  clear F; intro a F
  refine T_new F H kr (fun ad => .pointer (some ⟨ad, 0, none⟩)) (.cells #[.bool false, .int .i64 0, .slice none 0 0] 32 (0, 0)) (fun w => kr) ?_
  clear F H; intro aq10 a v F H
  refine T_val F H kr (.pointer (some ⟨aq10, 0, none⟩)) (fun _ _ => kr) ?_
  clear F; intro a F
  refine wpList_nil ?_
  rw [show (#[.bool false, .int .i64 0, .slice none 0 0] : Array Value) = lgr 0 from kr] at H
  generalize aq10 = gl at F H
  refine hK9 _ _ ?_
  clear hK9
  try clear K9
  refine C_seqK (fun K11 hK11 => ?_)
  refine C_region ?_
  refine T_val F H kr (.pointer (some ⟨gm, 0, none⟩)) (fun _ _ => kr) ?_
  clear F; intro a F
  refine T_val F H kr (.agg (arrF .u8 32 tag)) (R_load (own := true) (g := aq2) (all := (arrF .u8 32 tag)) (t := 23) (fr := (0, 0)) 3 kr 23 (.tmp 3) rfl 0 kr (arrF .u8 32 tag) (part_all _) _ Tryd.underlying23 rfl (by rw [arrF_size]; kernel_rfl)) ?_
  clear F; intro a F
  refine T_val F H kr (.agg (arrF .u8 32 fd)) (R_load (own := true) (g := aq3) (all := (arrF .u8 32 fd)) (t := 23) (fr := (0, 0)) 2 kr 23 (.tmp 4) rfl 0 kr (arrF .u8 32 fd) (part_all _) _ Tryd.underlying23 rfl (by rw [arrF_size]; kernel_rfl)) ?_
  clear F; intro a F
  refine T_val F H kr (.slice ad len cp) (fun _ _ => kr) ?_
  clear F; intro a F
  refine T_call F H kr 27 #[.pointer (some ⟨gm, 0, none⟩), .agg (arrF .u8 32 tag), .agg (arrF .u8 32 fd), .slice ad len cp] (.tuple #[.agg (arrF .u8 32 zF), .int .i64 ((40 : Nat) : Int)]) (fun w => kr) (recover_no _ tag fd ad len cp (by omega) _) ?_
  clear F H; intro a v F H
  refine T_val F H kr (.tuple #[.agg (arrF .u8 32 zF), .int .i64 ((40 : Nat) : Int)]) (fun _ _ => kr) ?_
  clear F; intro a F
  refine T_val F H kr (.agg (arrF .u8 32 zF)) (fun _ _ => kr) ?_
  clear F; intro a F
  refine T_val F H kr (.int .i64 ((40 : Nat) : Int)) (fun _ _ => kr) ?_
  clear F; intro a F
  refine T_new F H kr (fun ad => .pointer (some ⟨ad, 0, none⟩)) (.cells #[.int .u8 0, .int .u8 0, .int .u8 0, .int .u8 0, .int .u8 0, .int .u8 0, .int .u8 0, .int .u8 0, .int .u8 0, .int .u8 0, .int .u8 0, .int .u8 0, .int .u8 0, .int .u8 0, .int .u8 0, .int .u8 0, .int .u8 0, .int .u8 0, .int .u8 0, .int .u8 0, .int .u8 0, .int .u8 0, .int .u8 0, .int .u8 0, .int .u8 0, .int .u8 0, .int .u8 0, .int .u8 0, .int .u8 0, .int .u8 0, .int .u8 0, .int .u8 0] 23 (0, 0)) (fun w => kr) ?_
  clear F H; intro aq12 a v F H
  refine T_set F H kr rfl 0 rfl (arrF .u8 32 zF) (S_row 0 rfl 23 (.tmp 10) (.tmp 28) rfl kr (arrF .u8 32 zF) kr (by rw [arrF_size]; kernel_rfl) (by rw [arrF_size]; kernel_rfl) (arrF_one _ _ _)) [⟨true, aq12, .cells (arrF .u8 32 zF) 23 (0, 0)⟩, ⟨true, gl, .cells (lgr 0) 32 (0, 0)⟩, ⟨true, gm, .cells (mtr 0) 91 (0, 0)⟩, ⟨true, aq3, .cells (arrF .u8 32 fd) 23 (0, 0)⟩, ⟨true, aq2, .cells (arrF .u8 32 tag) 23 (0, 0)⟩] rfl ?_
  clear F H; intro a v F H
  refine T_val F H kr (.int .i64 ((40 : Nat) : Int)) (fun _ _ => kr) ?_
  clear F; intro a F
  refine wpList_nil ?_
  refine hK11 _ _ ?_
  clear hK11
  try clear K11
  refine C_seqK (fun K13 hK13 => ?_)
  refine C_region ?_
  refine T_val F H kr (.pointer (some ⟨gl, 0, none⟩)) (fun _ _ => kr) ?_
  clear F; intro a F
  refine T_val F H kr (.agg (arrF .u8 32 tag)) (R_load (own := true) (g := aq2) (all := (arrF .u8 32 tag)) (t := 23) (fr := (0, 0)) 4 kr 23 (.tmp 3) rfl 0 kr (arrF .u8 32 tag) (part_all _) _ Tryd.underlying23 rfl (by rw [arrF_size]; kernel_rfl)) ?_
  clear F; intro a F
  refine T_val F H kr (.agg (arrF .u8 32 fd)) (R_load (own := true) (g := aq3) (all := (arrF .u8 32 fd)) (t := 23) (fr := (0, 0)) 3 kr 23 (.tmp 4) rfl 0 kr (arrF .u8 32 fd) (part_all _) _ Tryd.underlying23 rfl (by rw [arrF_size]; kernel_rfl)) ?_
  clear F; intro a F
  refine T_val F H kr (.slice ad len cp) (fun _ _ => kr) ?_
  clear F; intro a F
  refine T_call F H kr 28 #[.pointer (some ⟨gl, 0, none⟩), .agg (arrF .u8 32 tag), .agg (arrF .u8 32 fd), .slice ad len cp] (.tuple #[.agg (arrF .u8 32 zF), .int .i64 ((40 : Nat) : Int)]) (fun w => kr) (lrecover_no _ tag fd ad len cp (by omega) _) ?_
  clear F H; intro a v F H
  refine T_val F H kr (.tuple #[.agg (arrF .u8 32 zF), .int .i64 ((40 : Nat) : Int)]) (fun _ _ => kr) ?_
  clear F; intro a F
  refine T_val F H kr (.agg (arrF .u8 32 zF)) (fun _ _ => kr) ?_
  clear F; intro a F
  refine T_val F H kr (.int .i64 ((40 : Nat) : Int)) (fun _ _ => kr) ?_
  clear F; intro a F
  refine T_new F H kr (fun ad => .pointer (some ⟨ad, 0, none⟩)) (.cells #[.int .u8 0, .int .u8 0, .int .u8 0, .int .u8 0, .int .u8 0, .int .u8 0, .int .u8 0, .int .u8 0, .int .u8 0, .int .u8 0, .int .u8 0, .int .u8 0, .int .u8 0, .int .u8 0, .int .u8 0, .int .u8 0, .int .u8 0, .int .u8 0, .int .u8 0, .int .u8 0, .int .u8 0, .int .u8 0, .int .u8 0, .int .u8 0, .int .u8 0, .int .u8 0, .int .u8 0, .int .u8 0, .int .u8 0, .int .u8 0, .int .u8 0, .int .u8 0] 23 (0, 0)) (fun w => kr) ?_
  clear F H; intro aq14 a v F H
  refine T_set F H kr rfl 0 rfl (arrF .u8 32 zF) (S_row 0 rfl 23 (.tmp 12) (.tmp 36) rfl kr (arrF .u8 32 zF) kr (by rw [arrF_size]; kernel_rfl) (by rw [arrF_size]; kernel_rfl) (arrF_one _ _ _)) [⟨true, aq14, .cells (arrF .u8 32 zF) 23 (0, 0)⟩, ⟨true, aq12, .cells (arrF .u8 32 zF) 23 (0, 0)⟩, ⟨true, gl, .cells (lgr 0) 32 (0, 0)⟩, ⟨true, gm, .cells (mtr 0) 91 (0, 0)⟩, ⟨true, aq3, .cells (arrF .u8 32 fd) 23 (0, 0)⟩, ⟨true, aq2, .cells (arrF .u8 32 tag) 23 (0, 0)⟩] rfl ?_
  clear F H; intro a v F H
  refine T_val F H kr (.int .i64 ((40 : Nat) : Int)) (fun _ _ => kr) ?_
  clear F; intro a F
  refine wpList_nil ?_
  refine hK13 _ _ ?_
  clear hK13
  try clear K13
  refine C_seqK (fun K15 hK15 => ?_)
  refine C_region ?_
  refine T_val F H kr (.bool true) (fun _ _ => kr) ?_
  clear F; intro a F
  refine T_val F H kr (.bool true) (fun _ _ => kr) ?_
  clear F; intro a F
  refine T_val F H kr (.agg (arrF .u8 32 zF)) (R_load (own := true) (g := aq12) (all := (arrF .u8 32 zF)) (t := 23) (fr := (0, 0)) 1 kr 23 (.tmp 10) rfl 0 kr (arrF .u8 32 zF) (part_all _) _ Tryd.underlying23 rfl (by rw [arrF_size]; kernel_rfl)) ?_
  clear F; intro a F
  refine T_val F H kr (.agg (arrF .u8 32 zF)) (R_load (own := true) (g := aq14) (all := (arrF .u8 32 zF)) (t := 23) (fr := (0, 0)) 0 kr 23 (.tmp 12) rfl 0 kr (arrF .u8 32 zF) (part_all _) _ Tryd.underlying23 rfl (by rw [arrF_size]; kernel_rfl)) ?_
  clear F; intro a F
  refine T_val F H kr (.bool true) (fun w _ => R_eqK (x := (.tmp 40)) (y := (.tmp 41)) rfl zF zF kr kr true ⟨fun _ _ _ => rfl, fun _ => rfl⟩ w) ?_
  clear F; intro a F
  refine T_val F H kr (.bool true) (fun _ _ => kr) ?_
  clear F; intro a F
  refine T_val F H kr (.bool true) (fun _ _ => kr) ?_
  clear F; intro a F
  refine T_val F H kr (.int .i64 ((40 : Nat) : Int)) (fun _ _ => kr) ?_
  clear F; intro a F
  refine T_val F H kr (.int .i64 ((40 : Nat) : Int)) (fun _ _ => kr) ?_
  clear F; intro a F
  refine T_val F H kr (.bool true) (fun _ _ => kr) ?_
  clear F; intro a F
  refine T_val F H kr (.bool true) (fun _ _ => kr) ?_
  clear F; intro a F
  refine T_val F H kr (.bool true) (fun _ _ => kr) ?_
  clear F; intro a F
  refine wpList_nil ?_
  refine hK15 _ _ ?_
  clear hK15
  try clear K15
  refine wp_ret ?_
  exact C_ret F H (rs := [.tmp 6]) rfl (vs := [.bool true]) (.tmp rfl .nil) (.bool true) rfl ⟨rfl, H.kept⟩

set_option maxRecDepth 100000 in
set_option maxHeartbeats 4000000 in
theorem recOne (tag : Nat → Nat) (ht : ∀ i, i < 32 → tag i < 256) (fd : Nat → Nat) (hfd : ∀ i, i < 32 → fd i < 256) (K : Nat → Nat → Nat) (hK : ∀ k i, i < 32 → K k i < 256) (lb off cp : Nat) (arr : Array Value) (tyl : TypeId) (fr : Nat × Nat) (harr : ∀ k, k < 67 → ∀ j v, (arrF .u8 32 (K k))[j]? = some v → arr[(off + k * 32) + j]? = some v) (w : World) (hW : Laid w) (hl : w.heap[lb]? = some (.cells arr tyl fr)) : Calls Tryd.prog 5 #[.agg (arrF .u8 32 tag), .agg (arrF .u8 32 fd), .slice (some ⟨lb, off, none⟩) 67 cp] w fun e w' => e = .returned (.bool true) ∧ Kept [] w w' := by
  obtain ⟨ky, hky⟩ : ∃ ky, ky = shaK (endK tag (rcK tag fd K) 67) := ⟨_, rfl⟩
  refine C_enter Tryd.func5 rfl 49 Tryd.ntmps5 (Nat.le_of_ble_eq_true rfl) (fun a F => ?_)
  have H := Hp.start1 [] hl
  replace F : Fm 49 [] [(0, .agg (arrF .u8 32 tag)), (1, .agg (arrF .u8 32 fd)), (2, .slice (some ⟨lb, off, none⟩) 67 cp)] a := F.weak _ (⟨rfl, ⟨rfl, ⟨rfl, trivial⟩⟩⟩)
  refine C_seqK (fun K1 hK1 => ?_)
  refine C_region ?_
  refine T_new F H kr (fun ad => .pointer (some ⟨ad, 0, none⟩)) (.cells (arrF .u8 32 tag) 23 (0, 0)) (fun w => kr) ?_
  clear F H; intro aq2 a v F H
  refine T_new F H kr (fun ad => .pointer (some ⟨ad, 0, none⟩)) (.cells (arrF .u8 32 fd) 23 (0, 0)) (fun w => kr) ?_
  clear F H; intro aq3 a v F H
  refine T_val F H kr (.bool false) (fun _ _ => kr) ?_
  clear F; intro a F
  refine wpList_nil ?_
  refine hK1 _ _ ?_
  clear hK1
  try clear K1
  refine C_seqK (fun K4 hK4 => ?_)
  refine C_region ?_
  refine T_call F H kr 15 #[] (.bool true) (fun w => kr) (awake_any _ (hW.kept H.kept List.not_mem_nil List.not_mem_nil)) ?_
  clear F H; intro a v F H
  refine T_val F H kr (.bool true) (fun _ _ => kr) ?_
  clear F; intro a F
  refine wpList_nil ?_
  refine hK4 _ _ ?_
  clear hK4
  try clear K4
  refine C_seqK (fun K5 hK5 => ?_)
  refine C_seqK (fun K6 hK6 => ?_)
  refine C_region ?_
  refine T_val F H kr (.slice (some ⟨lb, off, none⟩) 67 cp) (fun _ _ => kr) ?_
  clear F; intro a F
  refine T_val F H kr (.int .i64 ((67 : Nat) : Int)) (fun _ _ => kr) ?_
  clear F; intro a F
  refine T_val F H kr (.bool false) (fun _ _ => kr) ?_
  clear F; intro a F
  refine wpList_nil ?_
  refine hK6 _ _ ?_
  clear hK6
  try clear K6
  refine C_if F false rfl rfl ?_
  refine wp_skip ?_
  refine hK5 _ _ ?_
  clear hK5
  try clear K5
  refine C_seqK (fun K7 hK7 => ?_)
  refine C_region ?_
  refine T_callX (α := SlR) F H kr 18 #[.bool false] (fun rX => .pointer (some ⟨rX.g, 0, none⟩)) (fun rX => [⟨true, rX.g, .cells (mtr 0) 91 (0, 0)⟩, ⟨true, aq3, .cells (arrF .u8 32 fd) 23 (0, 0)⟩, ⟨true, aq2, .cells (arrF .u8 32 tag) 23 (0, 0)⟩, ⟨false, lb, .cells arr tyl fr⟩]) (fun rX => True) (fun w => kr) (fun w H => callsX_newV H (newM_any _)) ?_
  clear F H; intro rq8 a v Qrq8 F H
  refine T_val F H kr (.pointer (some ⟨rq8.g, 0, none⟩)) (fun _ _ => kr) ?_
  clear F; intro a F
  refine wpList_nil ?_
  generalize rq8.g = gm at F H
  refine hK7 _ _ ?_
  clear hK7
  try clear K7
  refine C_seqK (fun K9 hK9 => ?_)
  refine C_region ?_
  refine T_val F H kr (.agg #[.bool false, .int .i64 0, .slice none 0 0]) (fun _ _ => kr) ?_
  clear F; intro a F
  refine T_new F H kr (fun ad => .pointer (some ⟨ad, 0, none⟩)) (.cells #[.bool false, .int .i64 0, .slice none 0 0] 32 (0, 0)) (fun w => kr) ?_
  clear F H; intro aq10 a v F H
  refine T_val F H kr (.pointer (some ⟨aq10, 0, none⟩)) (fun _ _ => kr) ?_
  clear F; intro a F
  refine wpList_nil ?_
  rw [show (#[.bool false, .int .i64 0, .slice none 0 0] : Array Value) = lgr 0 from kr] at H
  generalize aq10 = gl at F H
  refine hK9 _ _ ?_
  clear hK9
  try clear K9
  refine C_seqK (fun K11 hK11 => ?_)
  have hne_gm : gm ≠ lb := H.apart (i := 1) (j := 4) rfl rfl (by decide)
  have hne_gl : gl ≠ lb := H.apart (i := 0) (j := 4) rfl rfl (by decide)
  refine C_region ?_
  refine T_val F H kr (.pointer (some ⟨gm, 0, none⟩)) (fun _ _ => kr) ?_
  clear F; intro a F
  refine T_val F H kr (.agg (arrF .u8 32 tag)) (R_load (own := true) (g := aq2) (all := (arrF .u8 32 tag)) (t := 23) (fr := (0, 0)) 3 kr 23 (.tmp 3) rfl 0 kr (arrF .u8 32 tag) (part_all _) _ Tryd.underlying23 rfl (by rw [arrF_size]; kernel_rfl)) ?_
  clear F; intro a F
  refine T_val F H kr (.agg (arrF .u8 32 fd)) (R_load (own := true) (g := aq3) (all := (arrF .u8 32 fd)) (t := 23) (fr := (0, 0)) 2 kr 23 (.tmp 4) rfl 0 kr (arrF .u8 32 fd) (part_all _) _ Tryd.underlying23 rfl (by rw [arrF_size]; kernel_rfl)) ?_
  clear F; intro a F
  refine T_val F H kr (.slice (some ⟨lb, off, none⟩) 67 cp) (fun _ _ => kr) ?_
  clear F; intro a F
  refine T_callX (α := SlR) F H kr 27 #[.pointer (some ⟨gm, 0, none⟩), .agg (arrF .u8 32 tag), .agg (arrF .u8 32 fd), .slice (some ⟨lb, off, none⟩) 67 cp] (fun rX => .tuple #[.agg (arrF .u8 32 ky), .int .i64 ((0 : Nat) : Int)]) (fun rX => [⟨true, gl, .cells (lgr 0) 32 (0, 0)⟩, ⟨true, gm, .cells (mtr rX.n) 91 (0, 0)⟩, ⟨true, aq3, .cells (arrF .u8 32 fd) 23 (0, 0)⟩, ⟨true, aq2, .cells (arrF .u8 32 tag) 23 (0, 0)⟩, ⟨false, lb, .cells arr tyl fr⟩]) (fun rX => True) (fun w => kr) (fun w H => callsX_putV H (k := 1) rfl ((recoverS_any gm 0 tag ht fd hfd K hK lb off cp arr tyl fr harr _ (hW.kept H.kept List.not_mem_nil List.not_mem_nil) (H.at_ (k := 1) rfl) (H.at_ (k := 4) rfl) (by exact hne_gm)).mono (fun _ _ ⟨r, q1, q2⟩ => ⟨r, by rw [q1, hky]; rfl, q2⟩))) ?_
  clear F H; intro rq12 a v Qrq12 F H
  refine T_val F H kr (.tuple #[.agg (arrF .u8 32 ky), .int .i64 ((0 : Nat) : Int)]) (fun _ _ => kr) ?_
  clear F; intro a F
  refine T_val F H kr (.agg (arrF .u8 32 ky)) (fun _ _ => kr) ?_
  clear F; intro a F
  refine T_val F H kr (.int .i64 ((0 : Nat) : Int)) (fun _ _ => kr) ?_
  clear F; intro a F
  refine T_new F H kr (fun ad => .pointer (some ⟨ad, 0, none⟩)) (.cells #[.int .u8 0, .int .u8 0, .int .u8 0, .int .u8 0, .int .u8 0, .int .u8 0, .int .u8 0, .int .u8 0, .int .u8 0, .int .u8 0, .int .u8 0, .int .u8 0, .int .u8 0, .int .u8 0, .int .u8 0, .int .u8 0, .int .u8 0, .int .u8 0, .int .u8 0, .int .u8 0, .int .u8 0, .int .u8 0, .int .u8 0, .int .u8 0, .int .u8 0, .int .u8 0, .int .u8 0, .int .u8 0, .int .u8 0, .int .u8 0, .int .u8 0, .int .u8 0] 23 (0, 0)) (fun w => kr) ?_
  clear F H; intro aq13 a v F H
  refine T_set F H kr rfl 0 rfl (arrF .u8 32 ky) (S_row 0 rfl 23 (.tmp 10) (.tmp 28) rfl kr (arrF .u8 32 ky) kr (by rw [arrF_size]; kernel_rfl) (by rw [arrF_size]; kernel_rfl) (arrF_one _ _ _)) [⟨true, aq13, .cells (arrF .u8 32 ky) 23 (0, 0)⟩, ⟨true, gl, .cells (lgr 0) 32 (0, 0)⟩, ⟨true, gm, .cells (mtr rq12.n) 91 (0, 0)⟩, ⟨true, aq3, .cells (arrF .u8 32 fd) 23 (0, 0)⟩, ⟨true, aq2, .cells (arrF .u8 32 tag) 23 (0, 0)⟩, ⟨false, lb, .cells arr tyl fr⟩] rfl ?_
  clear F H; intro a v F H
  refine T_val F H kr (.int .i64 ((0 : Nat) : Int)) (fun _ _ => kr) ?_
  clear F; intro a F
  refine wpList_nil ?_
  refine hK11 _ _ ?_
  clear hK11
  try clear K11
  refine C_seqK (fun K14 hK14 => ?_)
  refine C_region ?_
  refine T_val F H kr (.pointer (some ⟨gl, 0, none⟩)) (fun _ _ => kr) ?_
  clear F; intro a F
  refine T_val F H kr (.agg (arrF .u8 32 tag)) (R_load (own := true) (g := aq2) (all := (arrF .u8 32 tag)) (t := 23) (fr := (0, 0)) 4 kr 23 (.tmp 3) rfl 0 kr (arrF .u8 32 tag) (part_all _) _ Tryd.underlying23 rfl (by rw [arrF_size]; kernel_rfl)) ?_
  clear F; intro a F
  refine T_val F H kr (.agg (arrF .u8 32 fd)) (R_load (own := true) (g := aq3) (all := (arrF .u8 32 fd)) (t := 23) (fr := (0, 0)) 3 kr 23 (.tmp 4) rfl 0 kr (arrF .u8 32 fd) (part_all _) _ Tryd.underlying23 rfl (by rw [arrF_size]; kernel_rfl)) ?_
  clear F; intro a F
  refine T_val F H kr (.slice (some ⟨lb, off, none⟩) 67 cp) (fun _ _ => kr) ?_
  clear F; intro a F
  refine T_callX (α := SlR) F H kr 28 #[.pointer (some ⟨gl, 0, none⟩), .agg (arrF .u8 32 tag), .agg (arrF .u8 32 fd), .slice (some ⟨lb, off, none⟩) 67 cp] (fun rX => .tuple #[.agg (arrF .u8 32 ky), .int .i64 ((0 : Nat) : Int)]) (fun rX => [⟨true, aq13, .cells (arrF .u8 32 ky) 23 (0, 0)⟩, ⟨true, gl, .cells (lgr rX.n) 32 (0, 0)⟩, ⟨true, gm, .cells (mtr rq12.n) 91 (0, 0)⟩, ⟨true, aq3, .cells (arrF .u8 32 fd) 23 (0, 0)⟩, ⟨true, aq2, .cells (arrF .u8 32 tag) 23 (0, 0)⟩, ⟨false, lb, .cells arr tyl fr⟩]) (fun rX => True) (fun w => kr) (fun w H => callsX_putV H (k := 1) rfl ((lrecover_any gl 0 tag ht fd hfd K hK lb off cp arr tyl fr harr _ (H.at_ (k := 1) rfl) (H.at_ (k := 5) rfl) hne_gl).mono (fun _ _ ⟨r, q1, q2⟩ => ⟨r, by rw [q1, hky]; rfl, q2⟩))) ?_
  clear F H; intro rq15 a v Qrq15 F H
  refine T_val F H kr (.tuple #[.agg (arrF .u8 32 ky), .int .i64 ((0 : Nat) : Int)]) (fun _ _ => kr) ?_
  clear F; intro a F
  refine T_val F H kr (.agg (arrF .u8 32 ky)) (fun _ _ => kr) ?_
  clear F; intro a F
  refine T_val F H kr (.int .i64 ((0 : Nat) : Int)) (fun _ _ => kr) ?_
  clear F; intro a F
  refine T_new F H kr (fun ad => .pointer (some ⟨ad, 0, none⟩)) (.cells #[.int .u8 0, .int .u8 0, .int .u8 0, .int .u8 0, .int .u8 0, .int .u8 0, .int .u8 0, .int .u8 0, .int .u8 0, .int .u8 0, .int .u8 0, .int .u8 0, .int .u8 0, .int .u8 0, .int .u8 0, .int .u8 0, .int .u8 0, .int .u8 0, .int .u8 0, .int .u8 0, .int .u8 0, .int .u8 0, .int .u8 0, .int .u8 0, .int .u8 0, .int .u8 0, .int .u8 0, .int .u8 0, .int .u8 0, .int .u8 0, .int .u8 0, .int .u8 0] 23 (0, 0)) (fun w => kr) ?_
  clear F H; intro aq16 a v F H
  refine T_set F H kr rfl 0 rfl (arrF .u8 32 ky) (S_row 0 rfl 23 (.tmp 12) (.tmp 36) rfl kr (arrF .u8 32 ky) kr (by rw [arrF_size]; kernel_rfl) (by rw [arrF_size]; kernel_rfl) (arrF_one _ _ _)) [⟨true, aq16, .cells (arrF .u8 32 ky) 23 (0, 0)⟩, ⟨true, aq13, .cells (arrF .u8 32 ky) 23 (0, 0)⟩, ⟨true, gl, .cells (lgr rq15.n) 32 (0, 0)⟩, ⟨true, gm, .cells (mtr rq12.n) 91 (0, 0)⟩, ⟨true, aq3, .cells (arrF .u8 32 fd) 23 (0, 0)⟩, ⟨true, aq2, .cells (arrF .u8 32 tag) 23 (0, 0)⟩, ⟨false, lb, .cells arr tyl fr⟩] rfl ?_
  clear F H; intro a v F H
  refine T_val F H kr (.int .i64 ((0 : Nat) : Int)) (fun _ _ => kr) ?_
  clear F; intro a F
  refine wpList_nil ?_
  refine hK14 _ _ ?_
  clear hK14
  try clear K14
  refine C_seqK (fun K17 hK17 => ?_)
  refine C_region ?_
  refine T_val F H kr (.bool true) (fun _ _ => kr) ?_
  clear F; intro a F
  refine T_val F H kr (.bool true) (fun _ _ => kr) ?_
  clear F; intro a F
  refine T_val F H kr (.agg (arrF .u8 32 ky)) (R_load (own := true) (g := aq13) (all := (arrF .u8 32 ky)) (t := 23) (fr := (0, 0)) 1 kr 23 (.tmp 10) rfl 0 kr (arrF .u8 32 ky) (part_all _) _ Tryd.underlying23 rfl (by rw [arrF_size]; kernel_rfl)) ?_
  clear F; intro a F
  refine T_val F H kr (.agg (arrF .u8 32 ky)) (R_load (own := true) (g := aq16) (all := (arrF .u8 32 ky)) (t := 23) (fr := (0, 0)) 0 kr 23 (.tmp 12) rfl 0 kr (arrF .u8 32 ky) (part_all _) _ Tryd.underlying23 rfl (by rw [arrF_size]; kernel_rfl)) ?_
  clear F; intro a F
  refine T_val F H kr (.bool true) (fun w _ => R_eqK (x := (.tmp 40)) (y := (.tmp 41)) rfl ky ky kr kr true ⟨fun _ _ _ => rfl, fun _ => rfl⟩ w) ?_
  clear F; intro a F
  refine T_val F H kr (.bool true) (fun _ _ => kr) ?_
  clear F; intro a F
  refine T_val F H kr (.bool true) (fun _ _ => kr) ?_
  clear F; intro a F
  refine T_val F H kr (.int .i64 ((0 : Nat) : Int)) (fun _ _ => kr) ?_
  clear F; intro a F
  refine T_val F H kr (.int .i64 ((0 : Nat) : Int)) (fun _ _ => kr) ?_
  clear F; intro a F
  refine T_val F H kr (.bool true) (fun _ _ => kr) ?_
  clear F; intro a F
  refine T_val F H kr (.bool true) (fun _ _ => kr) ?_
  clear F; intro a F
  refine T_val F H kr (.bool true) (fun _ _ => kr) ?_
  clear F; intro a F
  refine wpList_nil ?_
  refine hK17 _ _ ?_
  clear hK17
  try clear K17
  refine wp_ret ?_
  exact C_ret F H (rs := [.tmp 6]) rfl (vs := [.bool true]) (.tmp rfl .nil) (.bool true) rfl ⟨rfl, H.kept⟩

theorem otsRecovers_any (tag : Nat → Nat) (ht : ∀ i, i < 32 → tag i < 256) (fd : Nat → Nat) (hfd : ∀ i, i < 32 → fd i < 256) (ad : Option Addr) (len cp : Nat) (w : World) (hW : Laid w) (hl : 0 < len → ∃ (g off : Nat) (arr : Array Value) (t : TypeId) (fr : Nat × Nat) (K : Nat → Nat → Nat), ad = some ⟨g, off, none⟩ ∧ len ≤ cp ∧ g < w.heap.size ∧ w.heap[g]? = some (.cells arr t fr) ∧ (∀ k i, i < 32 → K k i < 256) ∧ ∀ k, k < len → ∀ j v, (arrF .u8 32 (K k))[j]? = some v → arr[(off + k * 32) + j]? = some v) : Calls Tryd.prog 5 #[.agg (arrF .u8 32 tag), .agg (arrF .u8 32 fd), .slice ad len cp] w fun e w' => e = .returned (.bool true) ∧ Kept [] w w' := by
  by_cases h1 : 80 < len
  · exact recLong tag ht fd hfd ad len cp h1 w hW
  by_cases h2 : len = 67
  · subst h2
    obtain ⟨g, off, arr, t, fr, K, rfl, _, _, h3, h4, h5⟩ := hl (by decide)
    exact recOne tag ht fd hfd K h4 g off cp arr t fr h5 w hW h3
  · exact recShort tag ht fd hfd ad len cp ⟨by omega, h2⟩ w hW
end Go.Proofs.YtdejhenkdbjakaaDoor
