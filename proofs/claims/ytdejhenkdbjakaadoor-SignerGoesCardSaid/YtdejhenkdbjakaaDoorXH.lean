/- Walks: SignerGoes. -/
import Derived.Test.YtdejhenkdbjakaaDoorXD
import Derived.Test.YtdejhenkdbjakaaDoorXE
set_option linter.unusedVariables false
set_option linter.unusedSimpArgs false
namespace Go.Proofs.YtdejhenkdbjakaaDoor
open Go Go.RowKit
theorem i_gtd {k : IntKind} {a b : Nat} : intRes .gtr k (a : Int) (b : Int) = some (.bool (decide (b < a))) := by
  unfold intRes
  exact congrArg (fun q => some (Value.bool q)) (decide_eq_decide.2 (by omega))
theorem i_geqt {k : IntKind} {a b : Nat} (h : b ≤ a) : intRes .geq k (a : Int) (b : Int) = some (.bool true) := by
  have : (b : Int) ≤ (a : Int) := by omega
  simp [intRes, this]
theorem i_geqf {k : IntKind} {a b : Nat} (h : a < b) : intRes .geq k (a : Int) (b : Int) = some (.bool false) := by
  have : ¬ (b : Int) ≤ (a : Int) := by omega
  simp [intRes]; omega

set_option maxRecDepth 100000 in
set_option maxHeartbeats 4000000 in
theorem sg_big (seed : Nat → Nat) (hseed : ∀ i, i < 32 → seed i < 256) (nn : Nat) (hnn : nn < 4294967296) (ad : Option Addr) (ln cp : Nat) (h1 : 2147483648 ≤ nn) (w : World) (hW : Laid w) : Calls Tryd.prog 10 #[.agg (arrF .u8 32 seed), .int .u32 ((nn : Nat) : Int), .slice ad ln cp] w fun e w' => e = .returned (.bool true) ∧ Kept [] w w' := by
  refine C_enter Tryd.func10 rfl 98 Tryd.ntmps10 (Nat.le_of_ble_eq_true rfl) (fun a F => ?_)
  have H := Hp.start [] w
  replace F : Fm 98 [] [(0, kyV seed), (1, nw nn), (2, .slice ad ln cp)] a := F.weak _ (subL_of kr)
  refine C_seqK (fun K1 hK1 => ?_)
  refine C_region ?_
  refine T_new F H kr (fun ad => pt ad 0) (ce (arrF .u8 32 seed) 23) (fun w => kr) ?_
  clear F H; intro aq2 a v F H
  refine T_k F H (.bool false) ?_
  clear F; intro a F
  refine wpList_nil ?_
  refine hK1 _ _ ?_
  clear hK1
  try clear K1
  refine C_seqK (fun K3 hK3 => ?_)
  refine C_region ?_
  refine T_call F H kr 30 #[] (.bool true) (fun w => kr) (awake17_any _ (hW.kept H.kept List.not_mem_nil List.not_mem_nil)) ?_
  clear F H; intro a v F H
  refine T_k F H (.bool true) ?_
  clear F; intro a F
  refine wpList_nil ?_
  refine hK3 _ _ ?_
  clear hK3
  try clear K3
  refine C_seqK (fun K4 hK4 => ?_)
  refine C_seqK (fun K5 hK5 => ?_)
  refine C_region ?_
  refine T_k F H (nw nn) ?_
  clear F; intro a F
  refine T_val F H kr (.bool true) (fun w _ => R_bin (x := (.tmp 17)) (y := (.const (.int .u32 2147483648))) rfl (k := .u32) (a := ((nn : Nat) : Int)) (b := ((2147483648 : Nat) : Int)) kr kr (i_geqt (by omega)) w) ?_
  clear F; intro a F
  refine T_k F H (.bool true) ?_
  clear F; intro a F
  refine T_skip F kr kr ?_
  clear F; intro a F
  refine T_skip F kr kr ?_
  clear F; intro a F
  refine T_skip F kr kr ?_
  clear F; intro a F
  refine T_k F H (.bool true) ?_
  clear F; intro a F
  refine wpList_nil ?_
  refine hK5 _ _ ?_
  clear hK5
  try clear K5
  refine C_if F true rfl rfl ?_
  refine C_seqK (fun K6 hK6 => ?_)
  refine C_region ?_
  refine T_k F H (.bool true) ?_
  clear F; intro a F
  refine T_k F H (.bool true) ?_
  clear F; intro a F
  refine wpList_nil ?_
  refine hK6 _ _ ?_
  clear hK6
  try clear K6
  refine wp_ret ?_
  repeat (first | with_reducible refine then_ret ?_ | with_reducible refine inB_ret ?_)
  exact C_ret F H (rs := [.tmp 6]) rfl (vs := [.bool true]) (.tmp rfl .nil) (.bool true) rfl ⟨rfl, H.kept⟩

set_option maxRecDepth 100000 in
set_option maxHeartbeats 4000000 in
theorem sg_long (seed : Nat → Nat) (hseed : ∀ i, i < 32 → seed i < 256) (nn : Nat) (hnn : nn < 4294967296) (ad : Option Addr) (ln cp : Nat) (h1 : nn < 2147483648) (h2 : 3 < ln) (w : World) (hW : Laid w) : Calls Tryd.prog 10 #[.agg (arrF .u8 32 seed), .int .u32 ((nn : Nat) : Int), .slice ad ln cp] w fun e w' => e = .returned (.bool true) ∧ Kept [] w w' := by
  refine C_enter Tryd.func10 rfl 98 Tryd.ntmps10 (Nat.le_of_ble_eq_true rfl) (fun a F => ?_)
  have H := Hp.start [] w
  replace F : Fm 98 [] [(0, kyV seed), (1, nw nn), (2, .slice ad ln cp)] a := F.weak _ (subL_of kr)
  refine C_seqK (fun K1 hK1 => ?_)
  refine C_region ?_
  refine T_new F H kr (fun ad => pt ad 0) (ce (arrF .u8 32 seed) 23) (fun w => kr) ?_
  clear F H; intro aq2 a v F H
  refine T_k F H (.bool false) ?_
  clear F; intro a F
  refine wpList_nil ?_
  refine hK1 _ _ ?_
  clear hK1
  try clear K1
  refine C_seqK (fun K3 hK3 => ?_)
  refine C_region ?_
  refine T_call F H kr 30 #[] (.bool true) (fun w => kr) (awake17_any _ (hW.kept H.kept List.not_mem_nil List.not_mem_nil)) ?_
  clear F H; intro a v F H
  refine T_k F H (.bool true) ?_
  clear F; intro a F
  refine wpList_nil ?_
  refine hK3 _ _ ?_
  clear hK3
  try clear K3
  refine C_seqK (fun K4 hK4 => ?_)
  refine C_seqK (fun K5 hK5 => ?_)
  refine C_region ?_
  refine T_k F H (nw nn) ?_
  clear F; intro a F
  refine T_val F H kr (.bool false) (fun w _ => R_bin (x := (.tmp 17)) (y := (.const (.int .u32 2147483648))) rfl (k := .u32) (a := ((nn : Nat) : Int)) (b := ((2147483648 : Nat) : Int)) kr kr (i_geqf (by omega)) w) ?_
  clear F; intro a F
  refine T_k F H (.bool false) ?_
  clear F; intro a F
  refine T_k F H (.slice ad ln cp) ?_
  clear F; intro a F
  refine T_k F H (ni ln) ?_
  clear F; intro a F
  refine T_val F H kr (.bool true) (fun w _ => R_bin (x := (.tmp 21)) (y := (.const (.int .i64 3))) rfl (k := .i64) (a := ((ln : Nat) : Int)) (b := ((3 : Nat) : Int)) kr kr (i_gtn (by omega)) w) ?_
  clear F; intro a F
  refine T_k F H (.bool true) ?_
  clear F; intro a F
  refine wpList_nil ?_
  refine hK5 _ _ ?_
  clear hK5
  try clear K5
  refine C_if F true rfl rfl ?_
  refine C_seqK (fun K6 hK6 => ?_)
  refine C_region ?_
  refine T_k F H (.bool true) ?_
  clear F; intro a F
  refine T_k F H (.bool true) ?_
  clear F; intro a F
  refine wpList_nil ?_
  refine hK6 _ _ ?_
  clear hK6
  try clear K6
  refine wp_ret ?_
  repeat (first | with_reducible refine then_ret ?_ | with_reducible refine inB_ret ?_)
  exact C_ret F H (rs := [.tmp 6]) rfl (vs := [.bool true]) (.tmp rfl .nil) (.bool true) rfl ⟨rfl, H.kept⟩

set_option maxRecDepth 100000 in
set_option maxHeartbeats 4000000 in
theorem sg_none (seed : Nat → Nat) (hseed : ∀ i, i < 32 → seed i < 256) (nn : Nat) (hnn : nn < 4294967296) (ad : Option Addr) (cp : Nat) (h1 : nn < 2147483648) (w : World) (hW : Laid w) : Calls Tryd.prog 10 #[.agg (arrF .u8 32 seed), .int .u32 ((nn : Nat) : Int), .slice ad 0 cp] w fun e w' => e = .returned (.bool true) ∧ Kept [] w w' := by
  refine C_enter Tryd.func10 rfl 98 Tryd.ntmps10 (Nat.le_of_ble_eq_true rfl) (fun a F => ?_)
  have H := Hp.start [] w
  replace F : Fm 98 [] [(0, kyV seed), (1, nw nn), (2, .slice ad 0 cp)] a := F.weak _ (subL_of kr)
  refine C_seqK (fun K1 hK1 => ?_)
  refine C_region ?_
  refine T_new F H kr (fun ad => pt ad 0) (ce (arrF .u8 32 seed) 23) (fun w => kr) ?_
  clear F H; intro aq2 a v F H
  refine T_k F H (.bool false) ?_
  clear F; intro a F
  refine wpList_nil ?_
  refine hK1 _ _ ?_
  clear hK1
  try clear K1
  refine C_seqK (fun K3 hK3 => ?_)
  refine C_region ?_
  refine T_call F H kr 30 #[] (.bool true) (fun w => kr) (awake17_any _ (hW.kept H.kept List.not_mem_nil List.not_mem_nil)) ?_
  clear F H; intro a v F H
  refine T_k F H (.bool true) ?_
  clear F; intro a F
  refine wpList_nil ?_
  refine hK3 _ _ ?_
  clear hK3
  try clear K3
  refine C_seqK (fun K4 hK4 => ?_)
  refine C_seqK (fun K5 hK5 => ?_)
  refine C_region ?_
  refine T_k F H (nw nn) ?_
  clear F; intro a F
  refine T_val F H kr (.bool false) (fun w _ => R_bin (x := (.tmp 17)) (y := (.const (.int .u32 2147483648))) rfl (k := .u32) (a := ((nn : Nat) : Int)) (b := ((2147483648 : Nat) : Int)) kr kr (i_geqf (by omega)) w) ?_
  clear F; intro a F
  refine T_k F H (.bool false) ?_
  clear F; intro a F
  refine T_k F H (.slice ad 0 cp) ?_
  clear F; intro a F
  refine T_k F H (ni 0) ?_
  clear F; intro a F
  refine T_val F H kr (.bool false) (fun w _ => R_bin (x := (.tmp 21)) (y := (.const (.int .i64 3))) rfl (k := .i64) (a := ((0 : Nat) : Int)) (b := ((3 : Nat) : Int)) kr kr (i_ngtn (by omega)) w) ?_
  clear F; intro a F
  refine T_k F H (.bool false) ?_
  clear F; intro a F
  refine wpList_nil ?_
  refine hK5 _ _ ?_
  clear hK5
  try clear K5
  refine C_if F false rfl rfl ?_
  refine wp_skip ?_
  refine hK4 _ _ ?_
  clear hK4
  try clear K4
  refine C_seqK (fun K6 hK6 => ?_)
  refine C_region ?_
  refine T_callX (α := SlR) F H kr 18 #[.bool false] (fun rX => pt rX.g 0) (fun rX => [bk rX.g (mtr 0) 91, bk aq2 (arrF .u8 32 seed) 23]) (fun rX => True) (fun w => kr) (fun w H => callsX_newV H (newM_any _)) ?_
  clear F H; intro rq7 a v Qrq7 F H
  refine T_k F H (pt rq7.g 0) ?_
  clear F; intro a F
  refine wpList_nil ?_
  generalize rq7.g = gm at F H
  refine hK6 _ _ ?_
  clear hK6
  try clear K6
  refine C_seqK (fun K8 hK8 => ?_)
  refine C_region ?_
  refine T_val F H kr (kyV seed) (R_load (own := true) (g := aq2) (all := (arrF .u8 32 seed)) (t := 23) (fr := (0, 0)) 1 kr 23 (.tmp 3) rfl 0 kr (arrF .u8 32 seed) (part_all _) _ Tryd.underlying23 rfl (by rw [arrF_size]; kernel_rfl)) ?_
  clear F; intro a F
  refine T_k F H (nw nn) ?_
  clear F; intro a F
  refine T_k F H (.agg (chA seed nn)) ?_
  clear F; intro a F
  refine T_new F H kr (fun ad => pt ad 0) (ce (chA seed nn) 60) (fun w => kr) ?_
  clear F H; intro aq9 a v F H
  refine T_k F H (pt aq9 0) ?_
  clear F; intro a F
  refine wpList_nil ?_
  generalize aq9 = cb at F H
  have hov : ∀ x ∈ [gm, cb], w.heap.size ≤ x := fun x hx => by
    simp only [List.mem_cons, List.not_mem_nil, or_false] at hx
    rcases hx with hx | hx
    · subst hx
      exact (H.own _ (List.mem_of_getElem? (i := 1) rfl) rfl).resolve_right List.not_mem_nil
    · subst hx
      exact (H.own _ (List.mem_of_getElem? (i := 0) rfl) rfl).resolve_right List.not_mem_nil
  refine hK8 _ _ ?_
  clear hK8
  try clear K8
  refine C_seqK (fun K10 hK10 => ?_)
  refine C_region ?_
  refine T_k F H (pt cb 0) ?_
  clear F; intro a F
  refine T_k F H (pt gm 0) ?_
  clear F; intro a F
  refine T_callX (α := SlR) F H kr 33 #[pt cb 0, pt gm 0] (fun rX => kyV (pubN seed (nn + 0))) (fun rX => [bk cb (chA seed nn) 60, bk gm (mtr rX.n) 91, bk aq2 (arrF .u8 32 seed) 23]) (fun rX => True) (fun w => kr) (fun w H => callsX_putV H (k := 1) rfl (cpub_any gm 0 cb seed hseed nn hnn _ (hW.kept H.kept List.not_mem_nil List.not_mem_nil) (H.at_ (k := 1) rfl) (H.at_ (k := 0) rfl))) ?_
  clear F H; intro rq11 a v Qrq11 F H
  refine T_new F H kr (fun ad => pt ad 0) (ce z8 23) (fun w => kr) ?_
  clear F H; intro aq12 a v F H
  refine T_set F H kr rfl 0 rfl (arrF .u8 32 (pubN seed (nn + 0))) (S_row 0 rfl 23 (.tmp 10) (.tmp 32) rfl kr (arrF .u8 32 (pubN seed (nn + 0))) kr (by rw [arrF_size]; kernel_rfl) (by rw [arrF_size]; kernel_rfl) (arrF_one _ _ _)) [bk aq12 (arrF .u8 32 (pubN seed (nn + 0))) 23, bk cb (chA seed nn) 60, bk gm (mtr rq11.n) 91, bk aq2 (arrF .u8 32 seed) 23] rfl ?_
  clear F H; intro a v F H
  refine wpList_nil ?_
  refine hK10 _ _ ?_
  clear hK10
  try clear K10
  refine C_seqK (fun K13 hK13 => ?_)
  refine C_seqK (fun K14 hK14 => ?_)
  refine C_region ?_
  refine T_k F H (ni 0) ?_
  clear F; intro a F
  refine wpList_nil ?_
  replace F : Fm 98 [] [(11, ni 0), (10, pt aq12 0), (9, pt cb 0), (8, pt gm 0), (7, .bool true), (1, nw nn), (2, .slice ad 0 cp)] a := F.weak _ (subL_of kr)
  replace H : Hp [] w [bk aq12 (arrF .u8 32 (pubN seed (nn + 0))) 23, bk cb (chA seed nn) 60, bk gm (mtr rq11.n) 91] v := H.pick [0, 1, 2] kr _ rfl
  refine hK14 _ _ ?_
  clear hK14
  try clear K14
  refine wp_block ?_
  refine C_loop (fun m a v => Fm 98 [] [(11, ni 0), (10, pt aq12 0), (9, pt cb 0), (8, pt gm 0), (7, .bool true), (1, nw nn), (2, .slice ad 0 cp)] a ∧ Hp [] w [bk aq12 (arrF .u8 32 (pubN seed (nn + 0))) 23, bk cb (chA seed nn) 60, bk gm (mtr rq11.n) 91] v) 0 ⟨F, H⟩ ?_
  clear F H
  intro m a v ⟨F, H⟩
  refine C_seqK (fun K15 hK15 => ?_)
  refine C_seqK (fun K16 hK16 => ?_)
  refine C_region ?_
  refine T_k F H (ni 0) ?_
  clear F; intro a F
  refine T_k F H (.slice ad 0 cp) ?_
  clear F; intro a F
  refine T_k F H (ni 0) ?_
  clear F; intro a F
  refine T_k F H (.bool false) ?_
  clear F; intro a F
  refine wpList_nil ?_
  refine hK16 _ _ ?_
  clear hK16
  try clear K16
  refine C_if F false rfl rfl ?_
  refine wp_exit ?_
  refine hK13 _ _ ?_
  clear hK13
  try clear K13
  refine C_seqK (fun K17 hK17 => ?_)
  refine C_region ?_
  refine T_k F H (.bool true) ?_
  clear F; intro a F
  refine T_k F H (.bool true) ?_
  clear F; intro a F
  refine wpList_nil ?_
  refine hK17 _ _ ?_
  clear hK17
  try clear K17
  refine wp_ret ?_
  repeat (first | with_reducible refine then_ret ?_ | with_reducible refine inB_ret ?_)
  exact C_ret F H (rs := [.tmp 6]) rfl (vs := [.bool true]) (.tmp rfl .nil) (.bool true) rfl ⟨rfl, H.kept⟩

set_option maxRecDepth 100000 in
set_option maxHeartbeats 4000000 in
theorem sg_run (seed : Nat → Nat) (hseed : ∀ i, i < 32 → seed i < 256) (nn : Nat) (hnn : nn < 4294967296) (lb off ln cp : Nat) (arr : Array Value) (tyl : TypeId) (fr : Nat × Nat) (q : Nat → SlP) (h1 : nn < 2147483648) (h2 : ln ≤ 3) (w : World) (hW : Laid w) (hl : w.heap[lb]? = some (.cells arr tyl fr)) (hq : ∀ k, k < ln → arr[off + k]? = some (.slice (q k).ad (q k).n (q k).c) ∧ (∀ x ∈ (q k).l, x < 256) ∧ (q k).l.length = (q k).n ∧ RdK [] w (q k)) : Calls Tryd.prog 10 #[.agg (arrF .u8 32 seed), .int .u32 ((nn : Nat) : Int), .slice (some ⟨lb, off, none⟩) ln cp] w fun e w' => e = .returned (.bool true) ∧ Kept [] w w' := by
  refine C_enter Tryd.func10 rfl 98 Tryd.ntmps10 (Nat.le_of_ble_eq_true rfl) (fun a F => ?_)
  have H := Hp.start1 [] hl
  replace F : Fm 98 [] [(0, kyV seed), (1, nw nn), (2, sc lb off ln cp)] a := F.weak _ (subL_of kr)
  refine C_seqK (fun K1 hK1 => ?_)
  refine C_region ?_
  refine T_new F H kr (fun ad => pt ad 0) (ce (arrF .u8 32 seed) 23) (fun w => kr) ?_
  clear F H; intro aq2 a v F H
  refine T_k F H (.bool false) ?_
  clear F; intro a F
  refine wpList_nil ?_
  refine hK1 _ _ ?_
  clear hK1
  try clear K1
  refine C_seqK (fun K3 hK3 => ?_)
  refine C_region ?_
  refine T_call F H kr 30 #[] (.bool true) (fun w => kr) (awake17_any _ (hW.kept H.kept List.not_mem_nil List.not_mem_nil)) ?_
  clear F H; intro a v F H
  refine T_k F H (.bool true) ?_
  clear F; intro a F
  refine wpList_nil ?_
  refine hK3 _ _ ?_
  clear hK3
  try clear K3
  refine C_seqK (fun K4 hK4 => ?_)
  refine C_seqK (fun K5 hK5 => ?_)
  refine C_region ?_
  refine T_k F H (nw nn) ?_
  clear F; intro a F
  refine T_val F H kr (.bool false) (fun w _ => R_bin (x := (.tmp 17)) (y := (.const (.int .u32 2147483648))) rfl (k := .u32) (a := ((nn : Nat) : Int)) (b := ((2147483648 : Nat) : Int)) kr kr (i_geqf (by omega)) w) ?_
  clear F; intro a F
  refine T_k F H (.bool false) ?_
  clear F; intro a F
  refine T_k F H (sc lb off ln cp) ?_
  clear F; intro a F
  refine T_k F H (ni ln) ?_
  clear F; intro a F
  refine T_val F H kr (.bool false) (fun w _ => R_bin (x := (.tmp 21)) (y := (.const (.int .i64 3))) rfl (k := .i64) (a := ((ln : Nat) : Int)) (b := ((3 : Nat) : Int)) kr kr (i_ngtn (by omega)) w) ?_
  clear F; intro a F
  refine T_k F H (.bool false) ?_
  clear F; intro a F
  refine wpList_nil ?_
  refine hK5 _ _ ?_
  clear hK5
  try clear K5
  refine C_if F false rfl rfl ?_
  refine wp_skip ?_
  refine hK4 _ _ ?_
  clear hK4
  try clear K4
  refine C_seqK (fun K6 hK6 => ?_)
  refine C_region ?_
  refine T_callX (α := SlR) F H kr 18 #[.bool false] (fun rX => pt rX.g 0) (fun rX => [bk rX.g (mtr 0) 91, bk aq2 (arrF .u8 32 seed) 23, ⟨false, lb, .cells arr tyl fr⟩]) (fun rX => True) (fun w => kr) (fun w H => callsX_newV H (newM_any _)) ?_
  clear F H; intro rq7 a v Qrq7 F H
  refine T_k F H (pt rq7.g 0) ?_
  clear F; intro a F
  refine wpList_nil ?_
  generalize rq7.g = gm at F H
  refine hK6 _ _ ?_
  clear hK6
  try clear K6
  refine C_seqK (fun K8 hK8 => ?_)
  refine C_region ?_
  refine T_val F H kr (kyV seed) (R_load (own := true) (g := aq2) (all := (arrF .u8 32 seed)) (t := 23) (fr := (0, 0)) 1 kr 23 (.tmp 3) rfl 0 kr (arrF .u8 32 seed) (part_all _) _ Tryd.underlying23 rfl (by rw [arrF_size]; kernel_rfl)) ?_
  clear F; intro a F
  refine T_k F H (nw nn) ?_
  clear F; intro a F
  refine T_k F H (.agg (chA seed nn)) ?_
  clear F; intro a F
  refine T_new F H kr (fun ad => pt ad 0) (ce (chA seed nn) 60) (fun w => kr) ?_
  clear F H; intro aq9 a v F H
  refine T_k F H (pt aq9 0) ?_
  clear F; intro a F
  refine wpList_nil ?_
  generalize aq9 = cb at F H
  have hov : ∀ x ∈ [gm, cb], w.heap.size ≤ x := fun x hx => by
    simp only [List.mem_cons, List.not_mem_nil, or_false] at hx
    rcases hx with hx | hx
    · subst hx
      exact (H.own _ (List.mem_of_getElem? (i := 1) rfl) rfl).resolve_right List.not_mem_nil
    · subst hx
      exact (H.own _ (List.mem_of_getElem? (i := 0) rfl) rfl).resolve_right List.not_mem_nil
  refine hK8 _ _ ?_
  clear hK8
  try clear K8
  refine C_seqK (fun K10 hK10 => ?_)
  refine C_region ?_
  refine T_k F H (pt cb 0) ?_
  clear F; intro a F
  refine T_k F H (pt gm 0) ?_
  clear F; intro a F
  refine T_callX (α := SlR) F H kr 33 #[pt cb 0, pt gm 0] (fun rX => kyV (pubN seed (nn + 0))) (fun rX => [bk cb (chA seed nn) 60, bk gm (mtr rX.n) 91, bk aq2 (arrF .u8 32 seed) 23, ⟨false, lb, .cells arr tyl fr⟩]) (fun rX => True) (fun w => kr) (fun w H => callsX_putV H (k := 1) rfl (cpub_any gm 0 cb seed hseed nn hnn _ (hW.kept H.kept List.not_mem_nil List.not_mem_nil) (H.at_ (k := 1) rfl) (H.at_ (k := 0) rfl))) ?_
  clear F H; intro rq11 a v Qrq11 F H
  refine T_new F H kr (fun ad => pt ad 0) (ce z8 23) (fun w => kr) ?_
  clear F H; intro aq12 a v F H
  refine T_set F H kr rfl 0 rfl (arrF .u8 32 (pubN seed (nn + 0))) (S_row 0 rfl 23 (.tmp 10) (.tmp 32) rfl kr (arrF .u8 32 (pubN seed (nn + 0))) kr (by rw [arrF_size]; kernel_rfl) (by rw [arrF_size]; kernel_rfl) (arrF_one _ _ _)) [bk aq12 (arrF .u8 32 (pubN seed (nn + 0))) 23, bk cb (chA seed nn) 60, bk gm (mtr rq11.n) 91, bk aq2 (arrF .u8 32 seed) 23, ⟨false, lb, .cells arr tyl fr⟩] rfl ?_
  clear F H; intro a v F H
  refine wpList_nil ?_
  refine hK10 _ _ ?_
  clear hK10
  try clear K10
  refine C_seqK (fun K13 hK13 => ?_)
  refine C_seqK (fun K14 hK14 => ?_)
  refine C_region ?_
  refine T_k F H (ni 0) ?_
  clear F; intro a F
  refine wpList_nil ?_
  replace F : Fm 98 [] [(11, ni 0), (10, pt aq12 0), (9, pt cb 0), (8, pt gm 0), (7, .bool true), (1, nw nn), (2, sc lb off ln cp)] a := F.weak _ (subL_of kr)
  replace H : Hp [] w [bk aq12 (arrF .u8 32 (pubN seed (nn + 0))) 23, bk cb (chA seed nn) 60, bk gm (mtr rq11.n) 91, ⟨false, lb, .cells arr tyl fr⟩] v := H.pick [0, 1, 2, 4] kr _ rfl
  refine hK14 _ _ ?_
  clear hK14
  try clear K14
  have hz : chA seed nn = chA seed (nn + 0) := rfl
  rw [hz] at H
  refine wp_block ?_
  refine C_loop (fun m a v => ∃ (k : Nat) (c : Nat), k + m = ln ∧ Fm 98 [] [(11, ni k), (10, pt aq12 0), (9, pt cb 0), (8, pt gm 0), (7, .bool true), (1, nw nn), (2, sc lb off ln cp)] a ∧ Hp [] w [bk aq12 (arrF .u8 32 (pubN seed (nn + k))) 23, bk cb (chA seed (nn + k)) 60, bk gm (mtr c) 91, ⟨false, lb, .cells arr tyl fr⟩] v) (ln) ⟨0, rq11.n, Nat.zero_add _, F, H⟩ ?_
  clear F H
  intro m a v ⟨k, c, hk, F, H⟩
  rcases m with _ | m
  rotate_left
  · skip
    obtain ⟨hqa, hqb, hqn, hqr⟩ := hq k (by omega)
    have ha1 : add32 (nn + k) (1) = nn + (k + 1) := by unfold add32; omega
    have ha2 : add32 (nn) (k) = nn + k := by unfold add32; omega
    have ha3 : nn + (k + 1) = add32 (add32 (nn) (k)) (1) := by unfold add32; omega
    have hov1 : ∀ x ∈ [gm], w.heap.size ≤ x := fun x hx => hov x (List.mem_cons.2 (.inl (List.mem_singleton.1 hx)))
    refine C_seqK (fun K15 hK15 => ?_)
    refine C_seqK (fun K16 hK16 => ?_)
    refine C_region ?_
    refine T_k F H (ni k) ?_
    clear F; intro a F
    refine T_k F H (sc lb off ln cp) ?_
    clear F; intro a F
    refine T_k F H (ni ln) ?_
    clear F; intro a F
    refine T_val F H kr (.bool true) (fun w _ => R_bin (x := (.tmp 33)) (y := (.tmp 35)) rfl (k := .i64) (a := ((k : Nat) : Int)) (b := ((ln : Nat) : Int)) kr kr (i_lt (by omega)) w) ?_
    clear F; intro a F
    refine wpList_nil ?_
    refine hK16 _ _ ?_
    clear hK16
    try clear K16
    refine C_if F true rfl rfl ?_
    refine wp_skip ?_
    refine hK15 _ _ ?_
    clear hK15
    try clear K15
    refine C_seqK (fun K17 hK17 => ?_)
    refine wp_block ?_
    refine C_seqK (fun K18 hK18 => ?_)
    refine C_seqK (fun K19 hK19 => ?_)
    refine C_region ?_
    refine T_k F H (sc lb off ln cp) ?_
    clear F; intro a F
    refine T_k F H (ni k) ?_
    clear F; intro a F
    refine T_val F H kr (pt lb (off + (k) * 1)) (fun w _ => R_indexS (k := .i64) (g := lb) (off := off) (len := ln) (cap := cp) (x := (.tmp 39)) (y := (.tmp 40)) rfl Tryd.underlying30 kr (k) kr (by omega) (sz := 1) kr w) ?_
    clear F; intro a F
    refine T_val F H kr (.slice (q k).ad (q k).n (q k).c) (R_cell (own := false) (g := lb) (all := arr) (t := tyl) (fr := fr) 3 kr 54 (.tmp 41) rfl (off + (k) * 1) kr (.slice (q k).ad (q k).n (q k).c) ((congrArg (fun z => arr[z]?) (show off + (k) * 1 = off + k by omega)).trans hqa) _ Tryd.underlying54 rfl) ?_
    clear F; intro a F
    refine T_k F H (ni ((q k).n)) ?_
    clear F; intro a F
    refine T_val F H kr (.bool (decide (200 < (q k).n))) (fun w _ => R_bin (x := (.tmp 43)) (y := (.const (.int .i64 200))) rfl (k := .i64) (a := (((q k).n : Nat) : Int)) (b := ((200 : Nat) : Int)) kr kr i_gtd w) ?_
    clear F; intro a F
    refine wpList_nil ?_
    refine hK19 _ _ ?_
    clear hK19
    try clear K19
    by_cases hc : 200 < (q k).n
    · rw [decide_eq_true hc] at F
      refine C_if F true rfl rfl ?_
      refine C_seqK (fun K20 hK20 => ?_)
      refine C_region ?_
      refine T_k F H (.bool true) ?_
      clear F; intro a F
      refine T_k F H (.bool true) ?_
      clear F; intro a F
      refine wpList_nil ?_
      refine hK20 _ _ ?_
      clear hK20
      try clear K20
      refine wp_ret ?_
      repeat (first | with_reducible refine then_ret ?_ | with_reducible refine inB_ret ?_)
      exact C_ret F H (rs := [.tmp 6]) rfl (vs := [.bool true]) (.tmp rfl .nil) (.bool true) rfl ⟨rfl, H.kept⟩
    rw [decide_eq_false hc] at F
    refine C_if F false rfl rfl ?_
    refine wp_skip ?_
    refine hK18 _ _ ?_
    clear hK18
    try clear K18
    refine C_seqK (fun K21 hK21 => ?_)
    refine C_region ?_
    refine T_k F H (pt cb 0) ?_
    clear F; intro a F
    refine T_k F H (pt gm 0) ?_
    clear F; intro a F
    refine T_callX (α := SlR) F H kr 34 #[pt cb 0, pt gm 0] (fun rX => kyV (pubN seed (nn + (k + 1)))) (fun rX => [bk aq12 (arrF .u8 32 (pubN seed (nn + k))) 23, bk cb (chA seed (nn + k)) 60, bk gm (mtr rX.n) 91, ⟨false, lb, .cells arr tyl fr⟩]) (fun rX => True) (fun w => kr) (fun w H => callsX_putV H (k := 2) rfl ((by rw [← ha1]; exact cnext_any gm c cb seed hseed (nn + k) (by omega) _ (hW.kept H.kept List.not_mem_nil List.not_mem_nil) (H.at_ (k := 2) rfl) (H.at_ (k := 1) rfl)))) ?_
    clear F H; intro rq22 a v Qrq22 F H
    refine T_new F H kr (fun ad => pt ad 0) (ce z8 23) (fun w => kr) ?_
    clear F H; intro aq23 a v F H
    refine T_set F H kr rfl 0 rfl (arrF .u8 32 (pubN seed (nn + (k + 1)))) (S_row 0 rfl 23 (.tmp 12) (.tmp 48) rfl kr (arrF .u8 32 (pubN seed (nn + (k + 1)))) kr (by rw [arrF_size]; kernel_rfl) (by rw [arrF_size]; kernel_rfl) (arrF_one _ _ _)) [bk aq23 (arrF .u8 32 (pubN seed (nn + (k + 1)))) 23, bk aq12 (arrF .u8 32 (pubN seed (nn + k))) 23, bk cb (chA seed (nn + k)) 60, bk gm (mtr rq22.n) 91, ⟨false, lb, .cells arr tyl fr⟩] rfl ?_
    clear F H; intro a v F H
    refine wpList_nil ?_
    refine hK21 _ _ ?_
    clear hK21
    try clear K21
    refine C_seqK (fun K24 hK24 => ?_)
    refine C_region ?_
    refine T_k F H (pt cb 0) ?_
    clear F; intro a F
    refine T_k F H (pt gm 0) ?_
    clear F; intro a F
    refine T_k F H (sc lb off ln cp) ?_
    clear F; intro a F
    refine T_k F H (ni k) ?_
    clear F; intro a F
    refine T_val F H kr (pt lb (off + (k) * 1)) (fun w _ => R_indexS (k := .i64) (g := lb) (off := off) (len := ln) (cap := cp) (x := (.tmp 52)) (y := (.tmp 53)) rfl Tryd.underlying30 kr (k) kr (by omega) (sz := 1) kr w) ?_
    clear F; intro a F
    refine T_val F H kr (.slice (q k).ad (q k).n (q k).c) (R_cell (own := false) (g := lb) (all := arr) (t := tyl) (fr := fr) 4 kr 54 (.tmp 54) rfl (off + (k) * 1) kr (.slice (q k).ad (q k).n (q k).c) ((congrArg (fun z => arr[z]?) (show off + (k) * 1 = off + k by omega)).trans hqa) _ Tryd.underlying54 rfl) ?_
    clear F; intro a F
    refine T_callX (α := SlR) F H kr 35 #[pt cb 0, pt gm 0, .slice (q k).ad (q k).n (q k).c] (fun rX => .tuple #[sc rX.g 0 67 rX.cap, ni 0]) (fun rX => [bk rX.g (sl (keysC (sigN seed (nn + k) (q k).l) 67) rX.rest) 23, bk aq23 (arrF .u8 32 (pubN seed (nn + (k + 1)))) 23, bk aq12 (arrF .u8 32 (pubN seed (nn + k))) 23, bk cb (chA seed (nn + (k + 1))) 60, bk gm (mtr rX.n) 91, ⟨false, lb, .cells arr tyl fr⟩]) (fun rX => Own (keysC (sigN seed (nn + k) (q k).l) 67) rX.rest 67 rX.cap 32) (fun w => kr) (fun w H => callsX_new2 H (k := 3) (k2 := 2) rfl rfl (by decide) ((by rw [← ha1]; exact csign_any gm rq22.n cb seed hseed (nn + k) (by omega) (by omega) (q k) hqb hqn (by omega) _ (hqr.from H.kept hov) (hW.kept H.kept List.not_mem_nil List.not_mem_nil) (H.at_ (k := 3) rfl) (H.at_ (k := 2) rfl)))) ?_
    clear F H; intro rq25 a v Qrq25 F H
    refine T_k F H (.tuple #[sc rq25.g 0 67 rq25.cap, ni 0]) ?_
    clear F; intro a F
    refine T_k F H (sc rq25.g 0 67 rq25.cap) ?_
    clear F; intro a F
    refine T_k F H (ni 0) ?_
    clear F; intro a F
    refine T_k F H (sc rq25.g 0 67 rq25.cap) ?_
    clear F; intro a F
    refine T_k F H (ni 0) ?_
    clear F; intro a F
    refine wpList_nil ?_
    refine hK24 _ _ ?_
    clear hK24
    try clear K24
    refine C_seqK (fun K26 hK26 => ?_)
    refine E_region F H (fun β => [(59, pt gm 0), (60, kyV (pubN seed (nn + k))), (61, nw nn), (62, ni k), (63, nw k), (64, nw (add32 (nn) (k))), (65, sc lb off ln cp), (66, ni k), (67, pt lb (off + (k) * 1)), (68, .slice (q k).ad (q k).n (q k).c), (69, sc rq25.g 0 67 rq25.cap), (70, ni 0), (15, ni 0)]) [59, 60, 61, 62, 63, 64, 65, 66, 67, 68, 69, 70, 15] [⟨none, none, gm, [], fun q_ => ce (mtr rq25.n) 91, gT, [⟨11, [11], fun q_ => ce (mtr (gh q_ 0).n) 91, gT⟩]⟩] [bk rq25.g (sl (keysC (sigN seed (nn + k) (q k).l) 67) rq25.rest) 23, bk aq23 (arrF .u8 32 (pubN seed (nn + (k + 1)))) 23, bk aq12 (arrF .u8 32 (pubN seed (nn + k))) 23, bk cb (chA seed (nn + (k + 1))) 60, ⟨false, lb, .cells arr tyl fr⟩] [4, 0, 1, 2, 3, 5] 2 [] kr kr kr (fun β => rfl) ⟨fun _ _ => trivial, trivial⟩ ⟨?_, ?_, ?_, ?_, ?_, ?_, ?_, ?_, ?_, ?_, ?_, ?_, ?_, trivial⟩ ?_
    · exact E_k 98 (fun β => pt gm 0) 59 2
    · exact E_v 98 (fun β => kyV (pubN seed (nn + k))) 60 2 [] (fun β w hk hl hq => R_loadH hl (own := true) (g := aq12) (all := (arrF .u8 32 (pubN seed (nn + k)))) (t := 23) (fr := (0, 0)) 2 kr 23 (.tmp 10) rfl 0 kr (arrF .u8 32 (pubN seed (nn + k))) (part_all _) _ Tryd.underlying23 rfl (by rw [arrF_size]; kernel_rfl))
    · exact E_k 98 (fun β => nw nn) 61 2
    · exact E_k 98 (fun β => ni k) 62 2
    · exact E_v 98 (fun β => nw k) 63 2 [] (fun β w hk hl hq => R_conv (x := (.tmp 62)) rfl (k0 := .i64) kr kr (k := .i64) (a := ((k : Nat) : Int)) kr (wru32 (a := k) (by omega)) w)
    · exact E_v 98 (fun β => nw (add32 (nn) (k))) 64 2 [] (fun β w hk hl hq => R_bin (x := (.tmp 61)) (y := (.tmp 63)) rfl (k := .u32) (a := ((nn : Nat) : Int)) (b := ((k : Nat) : Int)) kr kr (i_add32 (a := nn) (b := k)) w)
    · exact E_k 98 (fun β => sc lb off ln cp) 65 2
    · exact E_k 98 (fun β => ni k) 66 2
    · exact E_v 98 (fun β => pt lb (off + (k) * 1)) 67 2 [] (fun β w hk hl hq => R_indexS (k := .i64) (g := lb) (off := off) (len := ln) (cap := cp) (x := (.tmp 65)) (y := (.tmp 66)) rfl Tryd.underlying30 kr (k) kr (by omega) (sz := 1) kr w)
    · exact E_v 98 (fun β => .slice (q k).ad (q k).n (q k).c) 68 2 [] (fun β w hk hl hq => R_cellH hl (own := false) (g := lb) (all := arr) (t := tyl) (fr := fr) 4 kr 54 (.tmp 67) rfl (off + (k) * 1) kr (.slice (q k).ad (q k).n (q k).c) ((congrArg (fun z => arr[z]?) (show off + (k) * 1 = off + k by omega)).trans hqa) _ Tryd.underlying54 rfl)
    · exact E_k 98 (fun β => sc rq25.g 0 67 rq25.cap) 69 2
    · exact E_callP 98 kq (fun β => ni 0) 70 rfl kq 2 (fun β r => offAt2_of kr kr) 31 (fun β => #[pt gm 0, kyV (pubN seed (nn + k)), nw (add32 (nn) (k)), .slice (q k).ad (q k).n (q k).c, sc rq25.g 0 67 rq25.cap]) (fun β w => kr) 2 [] 0 0 _ _ rfl rfl kr kr rfl (fun β w hk hl hq hm => (by rw [ha2]; exact verify_yes gm rq25.n (pubN seed (nn + k)) (pubN_lt _ _) (nn + k) (by omega) (q k) hqb hqn (by omega) (sigN seed (nn + k) (q k).l) (sigN_lt _ _ _) rq25.g 0 _ _ 23 (0, 0) (fun k hk => keys_part _ _ hk) (fun i _ => congrFun (vf_sig seed (nn + k) (q k).l) i) _ (hqr.from hk hov1) (hW.kept hk List.not_mem_nil List.not_mem_nil) hm (hl.at_ (k := 0) rfl) (ne_of_ty hm (hl.at_ (k := 0) rfl) rfl)))
    · exact E_k 98 (fun β => ni 0) 15 2
    clear F H; intro β a v Q F H
    replace H : Hp [] w [bk gm (mtr (β 11).n) 91, bk rq25.g (sl (keysC (sigN seed (nn + k) (q k).l) 67) rq25.rest) 23, bk aq23 (arrF .u8 32 (pubN seed (nn + (k + 1)))) 23, bk aq12 (arrF .u8 32 (pubN seed (nn + k))) 23, bk cb (chA seed (nn + (k + 1))) 60, ⟨false, lb, .cells arr tyl fr⟩] v := H
    replace F : Fm 98 [] [(15, ni 0), (70, ni 0), (69, sc rq25.g 0 67 rq25.cap), (68, .slice (q k).ad (q k).n (q k).c), (67, pt lb (off + (k) * 1)), (66, ni k), (65, sc lb off ln cp), (64, nw (add32 (nn) (k))), (63, nw k), (62, ni k), (61, nw nn), (60, kyV (pubN seed (nn + k))), (59, pt gm 0), (14, ni 0), (13, sc rq25.g 0 67 rq25.cap), (58, ni 0), (57, sc rq25.g 0 67 rq25.cap), (49, .tuple #[sc rq25.g 0 67 rq25.cap, ni 0]), (56, .tuple #[sc rq25.g 0 67 rq25.cap, ni 0]), (55, .slice (q k).ad (q k).n (q k).c), (54, pt lb (off + (k) * 1)), (53, ni k), (52, sc lb off ln cp), (51, pt gm 0), (50, pt cb 0), (12, pt aq23 0), (48, kyV (pubN seed (nn + (k + 1)))), (47, pt gm 0), (46, pt cb 0), (44, .bool false), (43, ni ((q k).n)), (42, .slice (q k).ad (q k).n (q k).c), (41, pt lb (off + (k) * 1)), (40, ni k), (39, sc lb off ln cp), (36, .bool true), (35, ni ln), (34, sc lb off ln cp), (33, ni k), (11, ni k), (10, pt aq12 0), (9, pt cb 0), (8, pt gm 0), (7, .bool true), (1, nw nn), (2, sc lb off ln cp)] a := F.weak _ (subL_of kr)
    clear Q
    generalize β 11 = rq27 at F H
    skip
    refine ?_
    refine hK26 _ _ ?_
    clear hK26
    try clear K26
    refine C_seqK (fun K28 hK28 => ?_)
    refine C_region ?_
    refine T_k F H (pt cb 0) ?_
    clear F; intro a F
    refine T_k F H (pt gm 0) ?_
    clear F; intro a F
    refine T_callX (α := SlR) F H kr 33 #[pt cb 0, pt gm 0] (fun rX => kyV (pubN seed (nn + (k + 1)))) (fun rX => [bk gm (mtr rX.n) 91, bk rq25.g (sl (keysC (sigN seed (nn + k) (q k).l) 67) rq25.rest) 23, bk aq23 (arrF .u8 32 (pubN seed (nn + (k + 1)))) 23, bk aq12 (arrF .u8 32 (pubN seed (nn + k))) 23, bk cb (chA seed (nn + (k + 1))) 60, ⟨false, lb, .cells arr tyl fr⟩]) (fun rX => True) (fun w => kr) (fun w H => callsX_putV H (k := 0) rfl (cpub_any gm rq27.n cb seed hseed (nn + (k + 1)) (by omega) _ (hW.kept H.kept List.not_mem_nil List.not_mem_nil) (H.at_ (k := 0) rfl) (H.at_ (k := 4) rfl))) ?_
    clear F H; intro rq29 a v Qrq29 F H
    refine T_set F H kr rfl 3 rfl (arrF .u8 32 (pubN seed (nn + (k + 1)))) (S_row 3 rfl 23 (.tmp 10) (.tmp 73) rfl kr (arrF .u8 32 (pubN seed (nn + (k + 1)))) kr (by rw [arrF_size]; kernel_rfl) ((arrF_size _ _ _).trans (arrF_size _ _ _).symm) (arrF_one _ _ _)) [bk gm (mtr rq29.n) 91, bk rq25.g (sl (keysC (sigN seed (nn + k) (q k).l) 67) rq25.rest) 23, bk aq23 (arrF .u8 32 (pubN seed (nn + (k + 1)))) 23, bk aq12 (arrF .u8 32 (pubN seed (nn + (k + 1)))) 23, bk cb (chA seed (nn + (k + 1))) 60, ⟨false, lb, .cells arr tyl fr⟩] rfl ?_
    clear F H; intro a v F H
    refine wpList_nil ?_
    refine hK28 _ _ ?_
    clear hK28
    try clear K28
    refine C_seqK (fun K30 hK30 => ?_)
    refine C_region ?_
    refine T_k F H (ni 0) ?_
    clear F; intro a F
    refine T_k F H (.bool false) ?_
    clear F; intro a F
    refine T_k F H (.bool false) ?_
    clear F; intro a F
    refine T_k F H (ni 0) ?_
    clear F; intro a F
    refine T_k F H (.bool false) ?_
    clear F; intro a F
    refine T_k F H (.bool false) ?_
    clear F; intro a F
    refine T_k F H (.bool false) ?_
    clear F; intro a F
    refine T_val F H kr (kyV (pubN seed (nn + (k + 1)))) (R_load (own := true) (g := aq12) (all := (arrF .u8 32 (pubN seed (nn + (k + 1))))) (t := 23) (fr := (0, 0)) 3 kr 23 (.tmp 10) rfl 0 kr (arrF .u8 32 (pubN seed (nn + (k + 1)))) (part_all _) _ Tryd.underlying23 rfl (by rw [arrF_size]; kernel_rfl)) ?_
    clear F; intro a F
    refine T_val F H kr (kyV (pubN seed (nn + (k + 1)))) (R_load (own := true) (g := aq23) (all := (arrF .u8 32 (pubN seed (nn + (k + 1))))) (t := 23) (fr := (0, 0)) 2 kr 23 (.tmp 12) rfl 0 kr (arrF .u8 32 (pubN seed (nn + (k + 1)))) (part_all _) _ Tryd.underlying23 rfl (by rw [arrF_size]; kernel_rfl)) ?_
    clear F; intro a F
    refine T_val F H kr (.bool false) (fun w _ => R_neK (x := (.tmp 81)) (y := (.tmp 82)) rfl (pubN seed (nn + (k + 1))) (pubN seed (nn + (k + 1))) kr kr true ⟨fun _ _ _ => rfl, fun _ => rfl⟩ w) ?_
    clear F; intro a F
    refine T_k F H (.bool false) ?_
    clear F; intro a F
    refine T_k F H (.bool false) ?_
    clear F; intro a F
    refine T_k F H (pt cb 0) ?_
    clear F; intro a F
    refine T_k F H (pt cb 0) ?_
    clear F; intro a F
    refine T_k F H (pt cb 32) ?_
    clear F; intro a F
    refine T_val F H kr (nw (nn + (k + 1))) (R_cell (own := true) (g := cb) (all := (chA seed (nn + (k + 1)))) (t := 60) (fr := (0, 0)) 4 kr 53 (.tmp 88) rfl 32 kr (nw (nn + (k + 1))) kr _ Tryd.underlying53 rfl) ?_
    clear F; intro a F
    refine T_k F H (nw nn) ?_
    clear F; intro a F
    refine T_k F H (ni k) ?_
    clear F; intro a F
    refine T_val F H kr (nw k) (fun w _ => R_conv (x := (.tmp 91)) rfl (k0 := .i64) kr kr (k := .i64) (a := ((k : Nat) : Int)) kr (wru32 (a := k) (by omega)) w) ?_
    clear F; intro a F
    refine T_val F H kr (nw (add32 (nn) (k))) (fun w _ => R_bin (x := (.tmp 90)) (y := (.tmp 92)) rfl (k := .u32) (a := ((nn : Nat) : Int)) (b := ((k : Nat) : Int)) kr kr (i_add32 (a := nn) (b := k)) w) ?_
    clear F; intro a F
    refine T_val F H kr (nw (add32 (add32 (nn) (k)) (1))) (fun w _ => R_bin (x := (.tmp 93)) (y := (.const (.int .u32 1))) rfl (k := .u32) (a := ((add32 (nn) (k) : Nat) : Int)) (b := ((1 : Nat) : Int)) kr kr (i_add32 (a := add32 (nn) (k)) (b := 1)) w) ?_
    clear F; intro a F
    refine T_val F H kr (.bool false) (fun w _ => R_bin (x := (.tmp 89)) (y := (.tmp 94)) rfl (k := .u32) (a := (((nn + (k + 1)) : Nat) : Int)) (b := ((add32 (add32 (nn) (k)) (1) : Nat) : Int)) kr kr (i_eqn' ha3) w) ?_
    clear F; intro a F
    refine T_k F H (.bool false) ?_
    clear F; intro a F
    refine wpList_nil ?_
    refine hK30 _ _ ?_
    clear hK30
    try clear K30
    refine C_if F false rfl rfl ?_
    refine wp_skip ?_
    refine hK17 _ _ ?_
    clear hK17
    try clear K17
    refine C_region ?_
    refine T_k F H (ni k) ?_
    clear F; intro a F
    refine T_val F H kr (ni (k + 1)) (fun w _ => R_bin (x := (.tmp 37)) (y := (.const (.int .i64 1))) rfl (k := .i64) (a := ((k : Nat) : Int)) (b := ((1 : Nat) : Int)) kr kr (i_addn64 (a := k) (b := 1) (by omega)) w) ?_
    clear F; intro a F
    refine T_k F H (ni (k + 1)) ?_
    clear F; intro a F
    refine wpList_nil ?_
    replace F : Fm 98 [] [(11, ni (k + 1)), (10, pt aq12 0), (9, pt cb 0), (8, pt gm 0), (7, .bool true), (1, nw nn), (2, sc lb off ln cp)] a := F.weak _ (subL_of kr)
    replace H : Hp [] w [bk aq12 (arrF .u8 32 (pubN seed (nn + (k + 1)))) 23, bk cb (chA seed (nn + (k + 1))) 60, bk gm (mtr rq29.n) 91, ⟨false, lb, .cells arr tyl fr⟩] v := H.pick [3, 4, 0, 5] kr _ rfl
    replace F : Fm 98 [] [(11, ni (k + 1)), (10, pt aq12 0), (9, pt cb 0), (8, pt gm 0), (7, .bool true), (1, nw nn), (2, sc lb off ln cp)] a := F.weak _ (subL_of kr)
    replace H : Hp [] w [bk aq12 (arrF .u8 32 (pubN seed (nn + (k + 1)))) 23, bk cb (chA seed (nn + (k + 1))) 60, bk gm (mtr rq29.n) 91, ⟨false, lb, .cells arr tyl fr⟩] v := H
    exact ⟨m, Nat.lt_succ_self m, k + 1, rq29.n, by omega, F, H⟩
  have hkt : k = ln := by omega
  try rw [hkt] at F
  try rw [hkt] at H
  clear hk
  refine C_seqK (fun K31 hK31 => ?_)
  refine C_seqK (fun K32 hK32 => ?_)
  refine C_region ?_
  refine T_k F H (ni ln) ?_
  clear F; intro a F
  refine T_k F H (sc lb off ln cp) ?_
  clear F; intro a F
  refine T_k F H (ni ln) ?_
  clear F; intro a F
  refine T_val F H kr (.bool false) (fun w _ => R_bin (x := (.tmp 33)) (y := (.tmp 35)) rfl (k := .i64) (a := ((ln : Nat) : Int)) (b := ((ln : Nat) : Int)) kr kr (i_nlt (by omega)) w) ?_
  clear F; intro a F
  refine wpList_nil ?_
  refine hK32 _ _ ?_
  clear hK32
  try clear K32
  refine C_if F false rfl rfl ?_
  refine wp_exit ?_
  refine hK13 _ _ ?_
  clear hK13
  try clear K13
  refine C_seqK (fun K33 hK33 => ?_)
  refine C_region ?_
  refine T_k F H (.bool true) ?_
  clear F; intro a F
  refine T_k F H (.bool true) ?_
  clear F; intro a F
  refine wpList_nil ?_
  refine hK33 _ _ ?_
  clear hK33
  try clear K33
  refine wp_ret ?_
  repeat (first | with_reducible refine then_ret ?_ | with_reducible refine inB_ret ?_)
  exact C_ret F H (rs := [.tmp 6]) rfl (vs := [.bool true]) (.tmp rfl .nil) (.bool true) rfl ⟨rfl, H.kept⟩

theorem signerGoes_any (seed : Nat → Nat) (hseed : ∀ i, i < 32 → seed i < 256) (nn : Nat) (hnn : nn < 4294967296) (ad : Option Addr) (ln cp : Nat) (w : World) (hW : Laid w) (hl : 0 < ln → ∃ (lb off : Nat) (arr : Array Value) (t : TypeId) (fr : Nat × Nat) (q : Nat → SlP), ad = some ⟨lb, off, none⟩ ∧ w.heap[lb]? = some (.cells arr t fr) ∧ ∀ k, k < ln → arr[off + k]? = some (.slice (q k).ad (q k).n (q k).c) ∧ (∀ x ∈ (q k).l, x < 256) ∧ (q k).l.length = (q k).n ∧ RdK [] w (q k)) : Calls Tryd.prog 10 #[.agg (arrF .u8 32 seed), .int .u32 ((nn : Nat) : Int), .slice ad ln cp] w fun e w' => e = .returned (.bool true) ∧ Kept [] w w' := by
  by_cases h0 : 2147483648 ≤ nn
  · exact sg_big seed hseed nn hnn ad ln cp h0 w hW
  by_cases h1 : 3 < ln
  · exact sg_long seed hseed nn hnn ad ln cp (by omega) h1 w hW
  rcases Nat.eq_zero_or_pos ln with h2 | h2
  · subst h2
    exact sg_none seed hseed nn hnn ad cp (by omega) w hW
  · obtain ⟨lb, off, arr, t, fr, q, rfl, h3, h4⟩ := hl h2
    exact sg_run seed hseed nn hnn lb off ln cp arr t fr q (by omega) (by omega) w hW h3 h4
end Go.Proofs.YtdejhenkdbjakaaDoor
