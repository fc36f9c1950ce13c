/- Walks: SealEnds. -/
import Derived.Test.YtdejhenkdbjakaaDoorYQ
import Derived.Test.YtdejhenkdbjakaaDoorYP
import Derived.Test.YtdejhenkdbjakaaDoorVG
set_option linter.unusedVariables false
set_option linter.unusedSimpArgs false
namespace Go.Proofs.YtdejhenkdbjakaaDoor
open Go Go.RowKit
theorem xor_mid (x y m : Nat) : (x ^^^ m) ^^^ (y ^^^ m) = x ^^^ y := by
  rw [Nat.xor_assoc, Nat.xor_comm y m, ← Nat.xor_assoc m m y, Nat.xor_self, Nat.zero_xor]
theorem box_xor (key : Nat → Nat) (la tl ul : List Nat) (n m : Nat) {i : Nat} (h1 : i < n) (h2 : i < m) : (boxP key la tl n).getD i 0 ^^^ (boxP key la ul m).getD i 0 = tl.getD i 0 ^^^ ul.getD i 0 := by
  rw [box_front _ _ _ _ h1, box_front _ _ _ _ h2, xor_mid]

set_option maxRecDepth 100000 in
set_option maxHeartbeats 4000000 in
theorem se_long1 (key : Nat → Nat) (hkey : ∀ i, i < 32 → key i < 256) (pa : SlP) (hba : ∀ x ∈ pa.l, x < 256) (hna : pa.l.length = pa.n) (h1 : 200 < pa.n) (dx : Option Addr) (nx cx : Nat) (dy : Option Addr) (ny cy : Nat) (w : World) (hW : LaidS w) (hrda : RdK [] w pa) : Calls Tryd.prog 14 #[.agg (arrF .u8 32 key), .slice pa.ad pa.n pa.c, .slice dx nx cx, .slice dy ny cy] w fun e w' => e = .returned (.bool true) ∧ Kept [] w w' := by
  refine C_enter Tryd.func14 rfl 119 Tryd.ntmps14 (Nat.le_of_ble_eq_true rfl) (fun a F => ?_)
  have H := Hp.start [] w
  replace F : Fm 119 [] [(0, kyV key), (1, .slice pa.ad pa.n pa.c), (2, .slice dx nx cx), (3, .slice dy ny cy)] a := F.weak _ (subL_of kr)
  refine C_seqK (fun K1 hK1 => ?_)
  refine C_region ?_
  refine T_new F H kr (fun ad => pt ad 0) (ce (arrF .u8 32 key) 23) (fun w => kr) ?_
  clear F H; intro aq2 a v F H
  refine T_k F H (.bool false) ?_
  clear F; intro a F
  refine wpList_nil ?_
  refine hK1 _ _ ?_
  clear hK1
  try clear K1
  refine C_seqK (fun K3 hK3 => ?_)
  refine C_region ?_
  refine T_call F H kr 39 #[] (.bool true) (fun w => kr) (awake05_any _ (hW.keptS H.kept (fun _ _ => List.not_mem_nil))) ?_
  clear F H; intro a v F H
  refine T_k F H (.bool true) ?_
  clear F; intro a F
  refine wpList_nil ?_
  refine hK3 _ _ ?_
  clear hK3
  try clear K3
  refine C_seqK (fun K4 hK4 => ?_)
  refine C_seqK (fun K5 hK5 => ?_)
  refine C_region ?_
  refine T_k F H (.slice pa.ad pa.n pa.c) ?_
  clear F; intro a F
  refine T_k F H (ni pa.n) ?_
  clear F; intro a F
  refine T_val F H kr (.bool true) (fun w _ => R_bin (x := (.tmp 19)) (y := (.const (.int .i64 200))) rfl (k := .i64) (a := ((pa.n : Nat) : Int)) (b := ((200 : Nat) : Int)) kr kr (i_gtn (by omega)) w) ?_
  clear F; intro a F
  refine T_k F H (.bool true) ?_
  clear F; intro a F
  refine T_skip F kr kr ?_
  clear F; intro a F
  refine T_skip F kr kr ?_
  clear F; intro a F
  refine T_skip F kr kr ?_
  clear F; intro a F
  refine T_k F H (.bool true) ?_
  clear F; intro a F
  refine T_k F H (.bool true) ?_
  clear F; intro a F
  refine T_skip F kr kr ?_
  clear F; intro a F
  refine T_skip F kr kr ?_
  clear F; intro a F
  refine T_skip F kr kr ?_
  clear F; intro a F
  refine T_k F H (.bool true) ?_
  clear F; intro a F
  refine wpList_nil ?_
  refine hK5 _ _ ?_
  clear hK5
  try clear K5
  refine C_if F true rfl rfl ?_
  refine C_seqK (fun K6 hK6 => ?_)
  refine C_region ?_
  refine T_k F H (.bool true) ?_
  clear F; intro a F
  refine T_k F H (.bool true) ?_
  clear F; intro a F
  refine wpList_nil ?_
  refine hK6 _ _ ?_
  clear hK6
  try clear K6
  refine wp_ret ?_
  repeat (first | with_reducible refine then_ret ?_ | with_reducible refine inB_ret ?_)
  exact C_ret F H (rs := [.tmp 8]) rfl (vs := [.bool true]) (.tmp rfl .nil) (.bool true) rfl ⟨rfl, H.kept⟩

set_option maxRecDepth 100000 in
set_option maxHeartbeats 4000000 in
theorem se_long2 (key : Nat → Nat) (hkey : ∀ i, i < 32 → key i < 256) (pa : SlP) (hba : ∀ x ∈ pa.l, x < 256) (hna : pa.l.length = pa.n) (h1 : pa.n ≤ 200) (dx : Option Addr) (nx cx : Nat) (dy : Option Addr) (ny cy : Nat) (h2 : 200 < nx) (w : World) (hW : LaidS w) (hrda : RdK [] w pa) : Calls Tryd.prog 14 #[.agg (arrF .u8 32 key), .slice pa.ad pa.n pa.c, .slice dx nx cx, .slice dy ny cy] w fun e w' => e = .returned (.bool true) ∧ Kept [] w w' := by
  refine C_enter Tryd.func14 rfl 119 Tryd.ntmps14 (Nat.le_of_ble_eq_true rfl) (fun a F => ?_)
  have H := Hp.start [] w
  replace F : Fm 119 [] [(0, kyV key), (1, .slice pa.ad pa.n pa.c), (2, .slice dx nx cx), (3, .slice dy ny cy)] a := F.weak _ (subL_of kr)
  refine C_seqK (fun K1 hK1 => ?_)
  refine C_region ?_
  refine T_new F H kr (fun ad => pt ad 0) (ce (arrF .u8 32 key) 23) (fun w => kr) ?_
  clear F H; intro aq2 a v F H
  refine T_k F H (.bool false) ?_
  clear F; intro a F
  refine wpList_nil ?_
  refine hK1 _ _ ?_
  clear hK1
  try clear K1
  refine C_seqK (fun K3 hK3 => ?_)
  refine C_region ?_
  refine T_call F H kr 39 #[] (.bool true) (fun w => kr) (awake05_any _ (hW.keptS H.kept (fun _ _ => List.not_mem_nil))) ?_
  clear F H; intro a v F H
  refine T_k F H (.bool true) ?_
  clear F; intro a F
  refine wpList_nil ?_
  refine hK3 _ _ ?_
  clear hK3
  try clear K3
  refine C_seqK (fun K4 hK4 => ?_)
  refine C_seqK (fun K5 hK5 => ?_)
  refine C_region ?_
  refine T_k F H (.slice pa.ad pa.n pa.c) ?_
  clear F; intro a F
  refine T_k F H (ni pa.n) ?_
  clear F; intro a F
  refine T_val F H kr (.bool false) (fun w _ => R_bin (x := (.tmp 19)) (y := (.const (.int .i64 200))) rfl (k := .i64) (a := ((pa.n : Nat) : Int)) (b := ((200 : Nat) : Int)) kr kr (i_ngtn (by omega)) w) ?_
  clear F; intro a F
  refine T_k F H (.bool false) ?_
  clear F; intro a F
  refine T_k F H (.slice dx nx cx) ?_
  clear F; intro a F
  refine T_k F H (ni nx) ?_
  clear F; intro a F
  refine T_val F H kr (.bool true) (fun w _ => R_bin (x := (.tmp 23)) (y := (.const (.int .i64 200))) rfl (k := .i64) (a := ((nx : Nat) : Int)) (b := ((200 : Nat) : Int)) kr kr (i_gtn (by omega)) w) ?_
  clear F; intro a F
  refine T_k F H (.bool true) ?_
  clear F; intro a F
  refine T_k F H (.bool true) ?_
  clear F; intro a F
  refine T_skip F kr kr ?_
  clear F; intro a F
  refine T_skip F kr kr ?_
  clear F; intro a F
  refine T_skip F kr kr ?_
  clear F; intro a F
  refine T_k F H (.bool true) ?_
  clear F; intro a F
  refine wpList_nil ?_
  refine hK5 _ _ ?_
  clear hK5
  try clear K5
  refine C_if F true rfl rfl ?_
  refine C_seqK (fun K6 hK6 => ?_)
  refine C_region ?_
  refine T_k F H (.bool true) ?_
  clear F; intro a F
  refine T_k F H (.bool true) ?_
  clear F; intro a F
  refine wpList_nil ?_
  refine hK6 _ _ ?_
  clear hK6
  try clear K6
  refine wp_ret ?_
  repeat (first | with_reducible refine then_ret ?_ | with_reducible refine inB_ret ?_)
  exact C_ret F H (rs := [.tmp 8]) rfl (vs := [.bool true]) (.tmp rfl .nil) (.bool true) rfl ⟨rfl, H.kept⟩

set_option maxRecDepth 100000 in
set_option maxHeartbeats 4000000 in
theorem se_long3 (key : Nat → Nat) (hkey : ∀ i, i < 32 → key i < 256) (pa : SlP) (hba : ∀ x ∈ pa.l, x < 256) (hna : pa.l.length = pa.n) (h1 : pa.n ≤ 200) (dx : Option Addr) (nx cx : Nat) (dy : Option Addr) (ny cy : Nat) (h2 : nx ≤ 200) (h3 : 200 < ny) (w : World) (hW : LaidS w) (hrda : RdK [] w pa) : Calls Tryd.prog 14 #[.agg (arrF .u8 32 key), .slice pa.ad pa.n pa.c, .slice dx nx cx, .slice dy ny cy] w fun e w' => e = .returned (.bool true) ∧ Kept [] w w' := by
  refine C_enter Tryd.func14 rfl 119 Tryd.ntmps14 (Nat.le_of_ble_eq_true rfl) (fun a F => ?_)
  have H := Hp.start [] w
  replace F : Fm 119 [] [(0, kyV key), (1, .slice pa.ad pa.n pa.c), (2, .slice dx nx cx), (3, .slice dy ny cy)] a := F.weak _ (subL_of kr)
  refine C_seqK (fun K1 hK1 => ?_)
  refine C_region ?_
  refine T_new F H kr (fun ad => pt ad 0) (ce (arrF .u8 32 key) 23) (fun w => kr) ?_
  clear F H; intro aq2 a v F H
  refine T_k F H (.bool false) ?_
  clear F; intro a F
  refine wpList_nil ?_
  refine hK1 _ _ ?_
  clear hK1
  try clear K1
  refine C_seqK (fun K3 hK3 => ?_)
  refine C_region ?_
  refine T_call F H kr 39 #[] (.bool true) (fun w => kr) (awake05_any _ (hW.keptS H.kept (fun _ _ => List.not_mem_nil))) ?_
  clear F H; intro a v F H
  refine T_k F H (.bool true) ?_
  clear F; intro a F
  refine wpList_nil ?_
  refine hK3 _ _ ?_
  clear hK3
  try clear K3
  refine C_seqK (fun K4 hK4 => ?_)
  refine C_seqK (fun K5 hK5 => ?_)
  refine C_region ?_
  refine T_k F H (.slice pa.ad pa.n pa.c) ?_
  clear F; intro a F
  refine T_k F H (ni pa.n) ?_
  clear F; intro a F
  refine T_val F H kr (.bool false) (fun w _ => R_bin (x := (.tmp 19)) (y := (.const (.int .i64 200))) rfl (k := .i64) (a := ((pa.n : Nat) : Int)) (b := ((200 : Nat) : Int)) kr kr (i_ngtn (by omega)) w) ?_
  clear F; intro a F
  refine T_k F H (.bool false) ?_
  clear F; intro a F
  refine T_k F H (.slice dx nx cx) ?_
  clear F; intro a F
  refine T_k F H (ni nx) ?_
  clear F; intro a F
  refine T_val F H kr (.bool false) (fun w _ => R_bin (x := (.tmp 23)) (y := (.const (.int .i64 200))) rfl (k := .i64) (a := ((nx : Nat) : Int)) (b := ((200 : Nat) : Int)) kr kr (i_ngtn (by omega)) w) ?_
  clear F; intro a F
  refine T_k F H (.bool false) ?_
  clear F; intro a F
  refine T_k F H (.bool false) ?_
  clear F; intro a F
  refine T_k F H (.slice dy ny cy) ?_
  clear F; intro a F
  refine T_k F H (ni ny) ?_
  clear F; intro a F
  refine T_val F H kr (.bool true) (fun w _ => R_bin (x := (.tmp 28)) (y := (.const (.int .i64 200))) rfl (k := .i64) (a := ((ny : Nat) : Int)) (b := ((200 : Nat) : Int)) kr kr (i_gtn (by omega)) w) ?_
  clear F; intro a F
  refine T_k F H (.bool true) ?_
  clear F; intro a F
  refine wpList_nil ?_
  refine hK5 _ _ ?_
  clear hK5
  try clear K5
  refine C_if F true rfl rfl ?_
  refine C_seqK (fun K6 hK6 => ?_)
  refine C_region ?_
  refine T_k F H (.bool true) ?_
  clear F; intro a F
  refine T_k F H (.bool true) ?_
  clear F; intro a F
  refine wpList_nil ?_
  refine hK6 _ _ ?_
  clear hK6
  try clear K6
  refine wp_ret ?_
  repeat (first | with_reducible refine then_ret ?_ | with_reducible refine inB_ret ?_)
  exact C_ret F H (rs := [.tmp 8]) rfl (vs := [.bool true]) (.tmp rfl .nil) (.bool true) rfl ⟨rfl, H.kept⟩

set_option maxRecDepth 100000 in
set_option maxHeartbeats 4000000 in
theorem se_nn (key : Nat → Nat) (hkey : ∀ i, i < 32 → key i < 256) (pa : SlP) (hba : ∀ x ∈ pa.l, x < 256) (hna : pa.l.length = pa.n) (h1 : pa.n ≤ 200) (dx : Option Addr) (cx : Nat) (dy : Option Addr) (cy : Nat) (w : World) (hW : LaidS w) (hrda : RdK [] w pa) : Calls Tryd.prog 14 #[.agg (arrF .u8 32 key), .slice pa.ad pa.n pa.c, .slice dx 0 cx, .slice dy 0 cy] w fun e w' => e = .returned (.bool true) ∧ Kept [] w w' := by
  refine C_enter Tryd.func14 rfl 119 Tryd.ntmps14 (Nat.le_of_ble_eq_true rfl) (fun a F => ?_)
  have H := Hp.start [] w
  replace F : Fm 119 [] [(0, kyV key), (1, .slice pa.ad pa.n pa.c), (2, .slice dx 0 cx), (3, .slice dy 0 cy)] a := F.weak _ (subL_of kr)
  refine C_seqK (fun K1 hK1 => ?_)
  refine C_region ?_
  refine T_new F H kr (fun ad => pt ad 0) (ce (arrF .u8 32 key) 23) (fun w => kr) ?_
  clear F H; intro aq2 a v F H
  refine T_k F H (.bool false) ?_
  clear F; intro a F
  refine wpList_nil ?_
  refine hK1 _ _ ?_
  clear hK1
  try clear K1
  refine C_seqK (fun K3 hK3 => ?_)
  refine C_region ?_
  refine T_call F H kr 39 #[] (.bool true) (fun w => kr) (awake05_any _ (hW.keptS H.kept (fun _ _ => List.not_mem_nil))) ?_
  clear F H; intro a v F H
  refine T_k F H (.bool true) ?_
  clear F; intro a F
  refine wpList_nil ?_
  refine hK3 _ _ ?_
  clear hK3
  try clear K3
  refine C_seqK (fun K4 hK4 => ?_)
  refine C_seqK (fun K5 hK5 => ?_)
  refine C_region ?_
  refine T_k F H (.slice pa.ad pa.n pa.c) ?_
  clear F; intro a F
  refine T_k F H (ni pa.n) ?_
  clear F; intro a F
  refine T_val F H kr (.bool false) (fun w _ => R_bin (x := (.tmp 19)) (y := (.const (.int .i64 200))) rfl (k := .i64) (a := ((pa.n : Nat) : Int)) (b := ((200 : Nat) : Int)) kr kr (i_ngtn (by omega)) w) ?_
  clear F; intro a F
  refine T_k F H (.bool false) ?_
  clear F; intro a F
  refine T_k F H (.slice dx 0 cx) ?_
  clear F; intro a F
  refine T_k F H (ni 0) ?_
  clear F; intro a F
  refine T_k F H (.bool false) ?_
  clear F; intro a F
  refine T_k F H (.bool false) ?_
  clear F; intro a F
  refine T_k F H (.bool false) ?_
  clear F; intro a F
  refine T_k F H (.slice dy 0 cy) ?_
  clear F; intro a F
  refine T_k F H (ni 0) ?_
  clear F; intro a F
  refine T_k F H (.bool false) ?_
  clear F; intro a F
  refine T_k F H (.bool false) ?_
  clear F; intro a F
  refine wpList_nil ?_
  refine hK5 _ _ ?_
  clear hK5
  try clear K5
  refine C_if F false rfl rfl ?_
  refine wp_skip ?_
  refine hK4 _ _ ?_
  clear hK4
  try clear K4
  refine C_seqK (fun K6 hK6 => ?_)
  refine C_region ?_
  refine T_callX (α := SlR) F H kr 18 #[.bool false] (fun rX => pt rX.g 0) (fun rX => [bk rX.g (mtr 0) 91, bk aq2 (arrF .u8 32 key) 23]) (fun rX => True) (fun w => kr) (fun w H => callsX_newV H (newM_any _)) ?_
  clear F H; intro rq7 a v Qrq7 F H
  refine T_k F H (pt rq7.g 0) ?_
  clear F; intro a F
  refine wpList_nil ?_
  generalize rq7.g = gm at F H
  refine hK6 _ _ ?_
  clear hK6
  try clear K6
  refine C_seqK (fun K8 hK8 => ?_)
  have hov_gm : w.heap.size ≤ gm := (H.own _ (List.mem_of_getElem? (i := 0) rfl) rfl).resolve_right List.not_mem_nil
  have hovs : ∀ x ∈ [gm], w.heap.size ≤ x := fun x hx => by rw [List.mem_singleton.1 hx]; exact hov_gm
  refine C_region ?_
  refine T_k F H (pt gm 0) ?_
  clear F; intro a F
  refine T_val F H kr (kyV key) (R_load (own := true) (g := aq2) (all := (arrF .u8 32 key)) (t := 23) (fr := (0, 0)) 1 kr 23 (.tmp 4) rfl 0 kr (arrF .u8 32 key) (part_all _) _ Tryd.underlying23 rfl (by rw [arrF_size]; kernel_rfl)) ?_
  clear F; intro a F
  refine T_k F H (.slice pa.ad pa.n pa.c) ?_
  clear F; intro a F
  refine T_k F H (.slice dx 0 cx) ?_
  clear F; intro a F
  refine T_callX (α := SlR) F H kr 43 #[pt gm 0, kyV key, .slice pa.ad pa.n pa.c, .slice dx 0 cx] (fun rX => .tuple #[sc rX.g 0 32 rX.cap, ni 0]) (fun rX => [bk rX.g (sl (oct (boxP key pa.l [] 0)) rX.rest) 5, bk gm (mtr rX.n) 91, bk aq2 (arrF .u8 32 key) 23]) (fun rX => (True) ∧ (Own (oct (boxP key pa.l [] 0)) rX.rest 32 rX.cap 1)) (fun w => kr) (fun w H => callsX_bothV H (k := 0) rfl (seal_none gm 0 key hkey pa hba hna (by omega) dx cx _ (hW.keptS H.kept (fun _ _ => List.not_mem_nil)) (H.at_ (k := 0) rfl) (hrda.step1 H (k := 0) rfl))) ?_
  clear F H; intro rq9 a v Qrq9 F H
  refine T_k F H (.tuple #[sc rq9.g 0 32 rq9.cap, ni 0]) ?_
  clear F; intro a F
  refine T_k F H (sc rq9.g 0 32 rq9.cap) ?_
  clear F; intro a F
  refine T_k F H (ni 0) ?_
  clear F; intro a F
  refine T_k F H (sc rq9.g 0 32 rq9.cap) ?_
  clear F; intro a F
  refine T_k F H (ni 0) ?_
  clear F; intro a F
  refine wpList_nil ?_
  refine hK8 _ _ ?_
  clear hK8
  try clear K8
  refine C_seqK (fun K10 hK10 => ?_)
  refine C_region ?_
  refine T_k F H (pt gm 0) ?_
  clear F; intro a F
  refine T_val F H kr (kyV key) (R_load (own := true) (g := aq2) (all := (arrF .u8 32 key)) (t := 23) (fr := (0, 0)) 2 kr 23 (.tmp 4) rfl 0 kr (arrF .u8 32 key) (part_all _) _ Tryd.underlying23 rfl (by rw [arrF_size]; kernel_rfl)) ?_
  clear F; intro a F
  refine T_k F H (.slice pa.ad pa.n pa.c) ?_
  clear F; intro a F
  refine T_k F H (.slice dy 0 cy) ?_
  clear F; intro a F
  refine T_callX (α := SlR) F H kr 43 #[pt gm 0, kyV key, .slice pa.ad pa.n pa.c, .slice dy 0 cy] (fun rX => .tuple #[sc rX.g 0 32 rX.cap, ni 0]) (fun rX => [bk rX.g (sl (oct (boxP key pa.l [] 0)) rX.rest) 5, bk rq9.g (sl (oct (boxP key pa.l [] 0)) rq9.rest) 5, bk gm (mtr rX.n) 91, bk aq2 (arrF .u8 32 key) 23]) (fun rX => (True) ∧ (Own (oct (boxP key pa.l [] 0)) rX.rest 32 rX.cap 1)) (fun w => kr) (fun w H => callsX_bothV H (k := 1) rfl (seal_none gm rq9.n key hkey pa hba hna (by omega) dy cy _ (hW.keptS H.kept (fun _ _ => List.not_mem_nil)) (H.at_ (k := 1) rfl) (hrda.step1 H (k := 1) rfl))) ?_
  clear F H; intro rq11 a v Qrq11 F H
  refine T_k F H (.tuple #[sc rq11.g 0 32 rq11.cap, ni 0]) ?_
  clear F; intro a F
  refine T_k F H (sc rq11.g 0 32 rq11.cap) ?_
  clear F; intro a F
  refine T_k F H (ni 0) ?_
  clear F; intro a F
  refine T_k F H (sc rq11.g 0 32 rq11.cap) ?_
  clear F; intro a F
  refine T_k F H (ni 0) ?_
  clear F; intro a F
  refine wpList_nil ?_
  refine hK10 _ _ ?_
  clear hK10
  try clear K10
  refine C_seqK (fun K12 hK12 => ?_)
  refine C_seqK (fun K13 hK13 => ?_)
  refine C_region ?_
  refine T_k F H (ni 0) ?_
  clear F; intro a F
  refine T_k F H (.bool false) ?_
  clear F; intro a F
  refine T_k F H (.bool false) ?_
  clear F; intro a F
  refine T_k F H (ni 0) ?_
  clear F; intro a F
  refine T_k F H (.bool false) ?_
  clear F; intro a F
  refine T_k F H (.bool false) ?_
  clear F; intro a F
  refine T_k F H (.bool false) ?_
  clear F; intro a F
  refine T_k F H (sc rq9.g 0 32 rq9.cap) ?_
  clear F; intro a F
  refine T_k F H (ni 32) ?_
  clear F; intro a F
  refine T_k F H (.slice dx 0 cx) ?_
  clear F; intro a F
  refine T_k F H (ni 0) ?_
  clear F; intro a F
  refine T_k F H (ni 32) ?_
  clear F; intro a F
  refine T_k F H (.bool false) ?_
  clear F; intro a F
  refine T_k F H (.bool false) ?_
  clear F; intro a F
  refine T_k F H (.bool false) ?_
  clear F; intro a F
  refine T_k F H (sc rq11.g 0 32 rq11.cap) ?_
  clear F; intro a F
  refine T_k F H (ni 32) ?_
  clear F; intro a F
  refine T_k F H (.slice dy 0 cy) ?_
  clear F; intro a F
  refine T_k F H (ni 0) ?_
  clear F; intro a F
  refine T_k F H (ni 32) ?_
  clear F; intro a F
  refine T_k F H (.bool false) ?_
  clear F; intro a F
  refine T_k F H (.bool false) ?_
  clear F; intro a F
  refine wpList_nil ?_
  refine hK13 _ _ ?_
  clear hK13
  try clear K13
  refine C_if F false rfl rfl ?_
  refine wp_skip ?_
  refine hK12 _ _ ?_
  clear hK12
  try clear K12
  refine C_seqK (fun K14 hK14 => ?_)
  have hab : rq9.g ≠ gm := H.apart (i := 1) (j := 2) rfl rfl (by decide)
  have hcap : 0 + 32 ≤ rq9.cap := Qrq9.2.le
  refine E_region F H (fun β => [(71, pt gm 0), (72, kyV key), (73, .slice pa.ad pa.n pa.c), (74, sc rq9.g 0 32 rq9.cap), (75, .slice dx 0 cx), (76, ni 0), (77, sc rq9.g 0 0 rq9.cap), (78, kyV (tagP key pa.l (hidP key [] 0))), (15, pt ((β 8).g) 0)]) [71, 72, 73, 74, 75, 76, 77, 78, 15] [⟨some 8, none, 0, [], fun q_ => ce z8 23, gT, [⟨9, [], fun q_ => ce (arrF .u8 32 (tagP key pa.l (hidP key [] 0))) 23, gT⟩]⟩,
    ⟨none, none, gm, [], fun q_ => ce (mtr rq11.n) 91, gT, [⟨7, [7], fun q_ => ce (mtr (gh q_ 0).n) 91, gT⟩]⟩] [bk rq11.g (sl (oct (boxP key pa.l [] 0)) rq11.rest) 5, bk rq9.g (sl (oct (boxP key pa.l [] 0)) rq9.rest) 5, bk aq2 (arrF .u8 32 key) 23] [2, 0, 1, 3] 2 [] kr kr kr (fun β => rfl) ⟨fun h _ => Bool.noConfusion h, ⟨fun _ _ => trivial, trivial⟩⟩ ⟨?_, ?_, ?_, ?_, ?_, ?_, ?_, ?_, ?_, ?_, trivial⟩ ?_
  · exact E_k 119 (fun β => pt gm 0) 71 2
  · exact E_v 119 (fun β => kyV key) 72 2 [] (fun β w hk hl hq => R_loadH hl (own := true) (g := aq2) (all := (arrF .u8 32 key)) (t := 23) (fr := (0, 0)) 2 kr 23 (.tmp 4) rfl 0 kr (arrF .u8 32 key) (part_all _) _ Tryd.underlying23 rfl (by rw [arrF_size]; kernel_rfl))
  · exact E_k 119 (fun β => .slice pa.ad pa.n pa.c) 73 2
  · exact E_k 119 (fun β => sc rq9.g 0 32 rq9.cap) 74 2
  · exact E_k 119 (fun β => .slice dx 0 cx) 75 2
  · exact E_k 119 (fun β => ni 0) 76 2
  · exact E_v 119 (fun β => sc rq9.g 0 0 rq9.cap) 77 2 [] (fun β w hk hl hq => R_slice (x := (.tmp 74)) (lo := none) (hi := (some (.tmp 76))) rfl Tryd.underlying54 (ad := some ⟨rq9.g, 0, none⟩) (len := 32) (cap := rq9.cap) kr (0) (0) rfl ⟨.i64, kr⟩ (Nat.zero_le _) (by omega) (sz := 1) kr _ slice0 w)
  · exact E_callP 119 kq (fun β => kyV (tagP key pa.l (hidP key [] 0))) 78 rfl kq 2 (fun β r => offAt2_of kr kr) 45 (fun β => #[pt gm 0, kyV key, .slice pa.ad pa.n pa.c, sc rq9.g 0 0 rq9.cap]) (fun β w => kr) 2 [] 1 0 _ _ rfl rfl kr kr rfl (fun β w hk hl hq hm => tag_any gm rq11.n key hkey pa ⟨some ⟨rq9.g, 0, none⟩, 0, rq9.cap, (hidP key [] 0)⟩ hba hna (by omega) (hidP_lt key (by simp) _) (hidP_len _ _ _) (by show 0 ≤ 4000; omega) _ (hW.keptS hk (fun _ _ => List.not_mem_nil)) hm (hrda.from hk hovs) (by have h := RdK.row (X := [gm]) (m := 0) (c := rq9.cap) (hl.at_ (k := 1) rfl) (boxP_len key pa.l [] 0) (slAt (boxP_len _ _ _ _)) (by omega) (by omega) (fun h => hab (List.mem_singleton.1 h)); rw [box_take] at h; exact h))
  · exact E_new 119 kq (fun β => pt ((β 8).g) 0) 15 rfl kq 2 (fun β r => offAt2_of kr kr) 2 [] 0 _ rfl kr kr rfl (fun β w hk hl hq => ⟨⟨w.heap.size, 0, [], 0⟩, _, (show (execOp _ _).run _ w = .ok (.value (pt w.heap.size 0)) (w.alloc (ce z8 23)) from kr), trivial, Nat.le_refl _, heap_alloc_new _ _, Kept.alloc _ _⟩)
  · exact E_store 119 kq rfl 2 [] 0 0 _ _ rfl rfl kr rfl (fun _ => trivial) (fun β w hk hl hq hm => let ⟨w', h1, h2, h3⟩ := P_row (cs := (arrF .u8 32 (tagP key pa.l (hidP key [] 0)))) (old := z8) rfl rfl (ty := 23) (x := (.tmp 15)) (y := (.tmp 78)) rfl kr kr (by rw [arrF_size]; kernel_rfl) (by rw [arrF_size]; kernel_rfl) (arrF_one _ _ _) hm; ⟨w', h1, h2, h3⟩)
  clear F H; intro β a v Q F H
  replace H : Hp [] w [bk ((β 8).g) (arrF .u8 32 (tagP key pa.l (hidP key [] 0))) 23, bk gm (mtr (β 7).n) 91, bk rq11.g (sl (oct (boxP key pa.l [] 0)) rq11.rest) 5, bk rq9.g (sl (oct (boxP key pa.l [] 0)) rq9.rest) 5, bk aq2 (arrF .u8 32 key) 23] v := H
  replace F : Fm 119 [] [(15, pt ((β 8).g) 0), (78, kyV (tagP key pa.l (hidP key [] 0))), (77, sc rq9.g 0 0 rq9.cap), (76, ni 0), (75, .slice dx 0 cx), (74, sc rq9.g 0 32 rq9.cap), (73, .slice pa.ad pa.n pa.c), (72, kyV key), (71, pt gm 0), (70, .bool false), (69, .bool false), (68, ni 32), (67, ni 0), (66, .slice dy 0 cy), (65, ni 32), (64, sc rq11.g 0 32 rq11.cap), (63, .bool false), (62, .bool false), (61, .bool false), (60, ni 32), (59, ni 0), (58, .slice dx 0 cx), (57, ni 32), (56, sc rq9.g 0 32 rq9.cap), (55, .bool false), (54, .bool false), (53, .bool false), (52, ni 0), (51, .bool false), (50, .bool false), (49, ni 0), (14, ni 0), (13, sc rq11.g 0 32 rq11.cap), (48, ni 0), (47, sc rq11.g 0 32 rq11.cap), (41, .tuple #[sc rq11.g 0 32 rq11.cap, ni 0]), (46, .tuple #[sc rq11.g 0 32 rq11.cap, ni 0]), (45, .slice dy 0 cy), (44, .slice pa.ad pa.n pa.c), (43, kyV key), (42, pt gm 0), (12, ni 0), (11, sc rq9.g 0 32 rq9.cap), (40, ni 0), (39, sc rq9.g 0 32 rq9.cap), (33, .tuple #[sc rq9.g 0 32 rq9.cap, ni 0]), (38, .tuple #[sc rq9.g 0 32 rq9.cap, ni 0]), (37, .slice dx 0 cx), (36, .slice pa.ad pa.n pa.c), (35, kyV key), (34, pt gm 0), (10, pt gm 0), (32, pt gm 0), (30, .bool false), (29, .bool false), (28, ni 0), (27, .slice dy 0 cy), (26, .bool false), (25, .bool false), (24, .bool false), (23, ni 0), (22, .slice dx 0 cx), (21, .bool false), (20, .bool false), (19, ni pa.n), (18, .slice pa.ad pa.n pa.c), (9, .bool true), (17, .bool true), (8, .bool false), (4, pt aq2 0), (0, kyV key), (1, .slice pa.ad pa.n pa.c), (2, .slice dx 0 cx), (3, .slice dy 0 cy)] a := F.weak _ (subL_of kr)
  clear Q
  generalize β 8 = rq15 at F H
  generalize β 7 = rq16 at F H
  skip
  refine ?_
  refine hK14 _ _ ?_
  clear hK14
  try clear K14
  refine C_seqK (fun K17 hK17 => ?_)
  refine C_seqK (fun K18 hK18 => ?_)
  refine E_region F H (fun β => [(79, sc rq9.g 0 32 rq9.cap), (80, .slice dx 0 cx), (81, ni 0), (82, sc rq9.g 0 32 rq9.cap), (83, kyV (tagP key pa.l (hidP key [] 0))), (84, sc ((β 5).g) 0 32 (β 5).cap), (85, .bool true), (86, .bool false)]) [79, 80, 81, 82, 83, 84, 85, 86] [⟨some 5, none, 0, [5], fun q_ => ce (sl (oct (kl (tagP key pa.l (hidP key [] 0)))) (gh q_ 0).rest) 5, fun q_ => ((Own (oct (kl (tagP key pa.l (hidP key [] 0)))) (gh q_ 0).rest (32) (gh q_ 0).cap 1) ∧ (gh q_ 0).g ≠ rq9.g), []⟩] [bk rq15.g (arrF .u8 32 (tagP key pa.l (hidP key [] 0))) 23, bk gm (mtr rq16.n) 91, bk rq11.g (sl (oct (boxP key pa.l [] 0)) rq11.rest) 5, bk rq9.g (sl (oct (boxP key pa.l [] 0)) rq9.rest) 5, bk aq2 (arrF .u8 32 key) 23] [0, 1, 2, 3, 4] 2 [] kr kr kr (fun β => rfl) ⟨fun h _ => Bool.noConfusion h, trivial⟩ ⟨?_, ?_, ?_, ?_, ?_, ?_, ?_, ?_, trivial⟩ ?_
  · exact E_k 119 (fun β => sc rq9.g 0 32 rq9.cap) 79 2
  · exact E_k 119 (fun β => .slice dx 0 cx) 80 2
  · exact E_k 119 (fun β => ni 0) 81 2
  · exact E_v 119 (fun β => sc rq9.g 0 32 rq9.cap) 82 2 [] (fun β w hk hl hq => R_slice (x := (.tmp 79)) (lo := (some (.tmp 81))) (hi := none) rfl Tryd.underlying54 (ad := some ⟨rq9.g, 0, none⟩) (len := 32) (cap := rq9.cap) kr (0) (32) ⟨.i64, kr⟩ rfl (Nat.zero_le _) (by omega) (sz := 1) kr _ slice0 w)
  · exact E_v 119 (fun β => kyV (tagP key pa.l (hidP key [] 0))) 83 2 [] (fun β w hk hl hq => R_loadH hl (own := true) (g := rq15.g) (all := (arrF .u8 32 (tagP key pa.l (hidP key [] 0)))) (t := 23) (fr := (0, 0)) 0 kr 23 (.tmp 15) rfl 0 kr (arrF .u8 32 (tagP key pa.l (hidP key [] 0))) (part_all _) _ Tryd.underlying23 rfl (by rw [arrF_size]; kernel_rfl))
  · exact E_callS 119 kq (fun β => sc ((β 5).g) 0 32 (β 5).cap) 84 rfl kq 2 (fun β r => offAt2_of kr kr) 47 (fun β => #[kyV (tagP key pa.l (hidP key [] 0))]) (fun β w => kr) 2 [] 0 _ rfl kr kr rfl (fun β w hk hl hq => (bytesR_any (tagP key pa.l (hidP key [] 0)) _).mono (fun _ _ ⟨r, q1, q2, q3, q4, q5⟩ => ⟨r, q1, ⟨q2, fun e => absurd (heap_in (hl.at_ (k := 3) rfl)) (Nat.not_lt.2 (e ▸ q3))⟩, q3, q4, q5⟩))
  · exact E_call 119 kq (fun β => .bool true) 85 rfl kq 42 (fun β => #[sc rq9.g 0 32 rq9.cap, sc ((β 5).g) 0 32 (β 5).cap]) (fun β w => kr) 2 [(0, 0)] kr rfl (fun β w hk hl hq => lsame_any ((boxP key pa.l [] 0).drop 0) (kl (tagP key pa.l (hidP key [] 0))) rq9.g 0 32 rq9.cap _ 5 (0, 0) (β 5).g 0 (β 5).cap _ 5 (0, 0) (fun j hj => by rw [dropD]; exact (congrArg (fun q => (sl (oct (boxP key pa.l [] 0)) _)[q]?) (show 0 + j = 0 + j by omega)).trans (slC (by rw [boxP_len]; omega))) (slAt (kl_len _)) (by omega) true ⟨fun _ i hi => by rw [dropD, box_end _ _ _ _ hi, klD _ hi], fun _ => rfl⟩ _ (hl.at_ (k := 4) rfl) (hl.at_ (k := 0) rfl) (Ne.symm hq.1.1.2))
  · exact E_k 119 (fun β => .bool false) 86 2
  clear F H; intro β a v Q F H
  replace H : Hp [] w [bk ((β 5).g) (sl (oct (kl (tagP key pa.l (hidP key [] 0)))) (β 5).rest) 5, bk rq15.g (arrF .u8 32 (tagP key pa.l (hidP key [] 0))) 23, bk gm (mtr rq16.n) 91, bk rq11.g (sl (oct (boxP key pa.l [] 0)) rq11.rest) 5, bk rq9.g (sl (oct (boxP key pa.l [] 0)) rq9.rest) 5, bk aq2 (arrF .u8 32 key) 23] v := H
  replace F : Fm 119 [] [(86, .bool false), (85, .bool true), (84, sc ((β 5).g) 0 32 (β 5).cap), (83, kyV (tagP key pa.l (hidP key [] 0))), (82, sc rq9.g 0 32 rq9.cap), (81, ni 0), (80, .slice dx 0 cx), (79, sc rq9.g 0 32 rq9.cap), (15, pt rq15.g 0), (78, kyV (tagP key pa.l (hidP key [] 0))), (77, sc rq9.g 0 0 rq9.cap), (76, ni 0), (75, .slice dx 0 cx), (74, sc rq9.g 0 32 rq9.cap), (73, .slice pa.ad pa.n pa.c), (72, kyV key), (71, pt gm 0), (70, .bool false), (69, .bool false), (68, ni 32), (67, ni 0), (66, .slice dy 0 cy), (65, ni 32), (64, sc rq11.g 0 32 rq11.cap), (63, .bool false), (62, .bool false), (61, .bool false), (60, ni 32), (59, ni 0), (58, .slice dx 0 cx), (57, ni 32), (56, sc rq9.g 0 32 rq9.cap), (55, .bool false), (54, .bool false), (53, .bool false), (52, ni 0), (51, .bool false), (50, .bool false), (49, ni 0), (14, ni 0), (13, sc rq11.g 0 32 rq11.cap), (48, ni 0), (47, sc rq11.g 0 32 rq11.cap), (41, .tuple #[sc rq11.g 0 32 rq11.cap, ni 0]), (46, .tuple #[sc rq11.g 0 32 rq11.cap, ni 0]), (45, .slice dy 0 cy), (44, .slice pa.ad pa.n pa.c), (43, kyV key), (42, pt gm 0), (12, ni 0), (11, sc rq9.g 0 32 rq9.cap), (40, ni 0), (39, sc rq9.g 0 32 rq9.cap), (33, .tuple #[sc rq9.g 0 32 rq9.cap, ni 0]), (38, .tuple #[sc rq9.g 0 32 rq9.cap, ni 0]), (37, .slice dx 0 cx), (36, .slice pa.ad pa.n pa.c), (35, kyV key), (34, pt gm 0), (10, pt gm 0), (32, pt gm 0), (30, .bool false), (29, .bool false), (28, ni 0), (27, .slice dy 0 cy), (26, .bool false), (25, .bool false), (24, .bool false), (23, ni 0), (22, .slice dx 0 cx), (21, .bool false), (20, .bool false), (19, ni pa.n), (18, .slice pa.ad pa.n pa.c), (9, .bool true), (17, .bool true), (8, .bool false), (4, pt aq2 0), (0, kyV key), (1, .slice pa.ad pa.n pa.c), (2, .slice dx 0 cx), (3, .slice dy 0 cy)] a := F.weak _ (subL_of kr)
  have Qh19_0 : ((Own (oct (kl (tagP key pa.l (hidP key [] 0)))) (β 5).rest (32) (β 5).cap 1) ∧ (β 5).g ≠ rq9.g) := Q.1
  clear Q
  generalize β 5 = rq19 at F H Qh19_0
  skip
  refine ?_
  refine hK18 _ _ ?_
  clear hK18
  try clear K18
  refine C_if F false rfl rfl ?_
  refine wp_skip ?_
  refine hK17 _ _ ?_
  clear hK17
  try clear K17
  refine C_seqK (fun K20 hK20 => ?_)
  refine C_seqK (fun K21 hK21 => ?_)
  refine C_region ?_
  refine T_k F H (ni 0) ?_
  clear F; intro a F
  refine wpList_nil ?_
  replace F : Fm 119 [] [(16, ni 0), (11, sc rq9.g 0 32 rq9.cap), (13, sc rq11.g 0 32 rq11.cap), (2, .slice dx 0 cx), (3, .slice dy 0 cy), (9, .bool true)] a := F.weak _ (subL_of kr)
  replace H : Hp [] w [bk rq9.g (sl (oct (boxP key pa.l [] 0)) rq9.rest) 5, bk rq11.g (sl (oct (boxP key pa.l [] 0)) rq11.rest) 5] v := H.pick [4, 3] kr _ rfl
  refine hK21 _ _ ?_
  clear hK21
  try clear K21
  refine wp_block ?_
  refine C_loop (fun m a v => Fm 119 [] [(16, ni 0), (11, sc rq9.g 0 32 rq9.cap), (13, sc rq11.g 0 32 rq11.cap), (2, .slice dx 0 cx), (3, .slice dy 0 cy), (9, .bool true)] a ∧ Hp [] w [bk rq9.g (sl (oct (boxP key pa.l [] 0)) rq9.rest) 5, bk rq11.g (sl (oct (boxP key pa.l [] 0)) rq11.rest) 5] v) 0 ⟨F, H⟩ ?_
  clear F H
  intro m a v ⟨F, H⟩
  refine C_seqK (fun K22 hK22 => ?_)
  refine C_seqK (fun K23 hK23 => ?_)
  refine C_region ?_
  refine T_k F H (ni 0) ?_
  clear F; intro a F
  refine T_k F H (.slice dx 0 cx) ?_
  clear F; intro a F
  refine T_k F H (ni 0) ?_
  clear F; intro a F
  refine T_k F H (.bool false) ?_
  clear F; intro a F
  refine T_k F H (.bool false) ?_
  clear F; intro a F
  refine T_skip F kr kr ?_
  clear F; intro a F
  refine T_skip F kr kr ?_
  clear F; intro a F
  refine T_skip F kr kr ?_
  clear F; intro a F
  refine T_skip F kr kr ?_
  clear F; intro a F
  refine T_k F H (.bool false) ?_
  clear F; intro a F
  refine wpList_nil ?_
  refine hK23 _ _ ?_
  clear hK23
  try clear K23
  refine C_if F false rfl rfl ?_
  refine wp_exit ?_
  refine hK20 _ _ ?_
  clear hK20
  try clear K20
  refine C_seqK (fun K24 hK24 => ?_)
  refine C_region ?_
  refine T_k F H (.bool true) ?_
  clear F; intro a F
  refine T_k F H (.bool true) ?_
  clear F; intro a F
  refine wpList_nil ?_
  refine hK24 _ _ ?_
  clear hK24
  try clear K24
  refine wp_ret ?_
  exact C_ret F H (rs := [.tmp 8]) rfl (vs := [.bool true]) (.tmp rfl .nil) (.bool true) rfl ⟨rfl, H.kept⟩

set_option maxRecDepth 100000 in
set_option maxHeartbeats 4000000 in
theorem se_ns (key : Nat → Nat) (hkey : ∀ i, i < 32 → key i < 256) (pa : SlP) (hba : ∀ x ∈ pa.l, x < 256) (hna : pa.l.length = pa.n) (h1 : pa.n ≤ 200) (dx : Option Addr) (cx : Nat) (ul : List Nat) (hul : ∀ x ∈ ul, x < 256) (gy oy ny cy : Nat) (ay : Array Value) (ty : TypeId) (fy : Nat × Nat) (hary : ∀ j, j < ny → ay[oy + j]? = some (.int .u8 ((ul.getD j 0 : Nat) : Int))) (hly : ul.length = ny) (hcy : ny ≤ cy) (hpy : 0 < ny) (h3 : ny ≤ 200) (w : World) (hW : LaidS w) (hrda : RdK [] w pa) (hlty : gy < w.heap.size) (hgy : w.heap[gy]? = some (.cells ay ty fy)) : Calls Tryd.prog 14 #[.agg (arrF .u8 32 key), .slice pa.ad pa.n pa.c, .slice dx 0 cx, .slice (some ⟨gy, oy, none⟩) ny cy] w fun e w' => e = .returned (.bool true) ∧ Kept [] w w' := by
  refine C_enter Tryd.func14 rfl 119 Tryd.ntmps14 (Nat.le_of_ble_eq_true rfl) (fun a F => ?_)
  have H := Hp.start [] w
  replace F : Fm 119 [] [(0, kyV key), (1, .slice pa.ad pa.n pa.c), (2, .slice dx 0 cx), (3, sc gy oy ny cy)] a := F.weak _ (subL_of kr)
  refine C_seqK (fun K1 hK1 => ?_)
  refine C_region ?_
  refine T_new F H kr (fun ad => pt ad 0) (ce (arrF .u8 32 key) 23) (fun w => kr) ?_
  clear F H; intro aq2 a v F H
  refine T_k F H (.bool false) ?_
  clear F; intro a F
  refine wpList_nil ?_
  refine hK1 _ _ ?_
  clear hK1
  try clear K1
  refine C_seqK (fun K3 hK3 => ?_)
  refine C_region ?_
  refine T_call F H kr 39 #[] (.bool true) (fun w => kr) (awake05_any _ (hW.keptS H.kept (fun _ _ => List.not_mem_nil))) ?_
  clear F H; intro a v F H
  refine T_k F H (.bool true) ?_
  clear F; intro a F
  refine wpList_nil ?_
  refine hK3 _ _ ?_
  clear hK3
  try clear K3
  refine C_seqK (fun K4 hK4 => ?_)
  refine C_seqK (fun K5 hK5 => ?_)
  refine C_region ?_
  refine T_k F H (.slice pa.ad pa.n pa.c) ?_
  clear F; intro a F
  refine T_k F H (ni pa.n) ?_
  clear F; intro a F
  refine T_val F H kr (.bool false) (fun w _ => R_bin (x := (.tmp 19)) (y := (.const (.int .i64 200))) rfl (k := .i64) (a := ((pa.n : Nat) : Int)) (b := ((200 : Nat) : Int)) kr kr (i_ngtn (by omega)) w) ?_
  clear F; intro a F
  refine T_k F H (.bool false) ?_
  clear F; intro a F
  refine T_k F H (.slice dx 0 cx) ?_
  clear F; intro a F
  refine T_k F H (ni 0) ?_
  clear F; intro a F
  refine T_k F H (.bool false) ?_
  clear F; intro a F
  refine T_k F H (.bool false) ?_
  clear F; intro a F
  refine T_k F H (.bool false) ?_
  clear F; intro a F
  refine T_k F H (sc gy oy ny cy) ?_
  clear F; intro a F
  refine T_k F H (ni ny) ?_
  clear F; intro a F
  refine T_val F H kr (.bool false) (fun w _ => R_bin (x := (.tmp 28)) (y := (.const (.int .i64 200))) rfl (k := .i64) (a := ((ny : Nat) : Int)) (b := ((200 : Nat) : Int)) kr kr (i_ngtn (by omega)) w) ?_
  clear F; intro a F
  refine T_k F H (.bool false) ?_
  clear F; intro a F
  refine wpList_nil ?_
  refine hK5 _ _ ?_
  clear hK5
  try clear K5
  refine C_if F false rfl rfl ?_
  refine wp_skip ?_
  refine hK4 _ _ ?_
  clear hK4
  try clear K4
  refine C_seqK (fun K6 hK6 => ?_)
  refine C_region ?_
  refine T_callX (α := SlR) F H kr 18 #[.bool false] (fun rX => pt rX.g 0) (fun rX => [bk rX.g (mtr 0) 91, bk aq2 (arrF .u8 32 key) 23]) (fun rX => True) (fun w => kr) (fun w H => callsX_newV H (newM_any _)) ?_
  clear F H; intro rq7 a v Qrq7 F H
  refine T_k F H (pt rq7.g 0) ?_
  clear F; intro a F
  refine wpList_nil ?_
  generalize rq7.g = gm at F H
  refine hK6 _ _ ?_
  clear hK6
  try clear K6
  refine C_seqK (fun K8 hK8 => ?_)
  have hov_gm : w.heap.size ≤ gm := (H.own _ (List.mem_of_getElem? (i := 0) rfl) rfl).resolve_right List.not_mem_nil
  have hovs : ∀ x ∈ [gm], w.heap.size ≤ x := fun x hx => by rw [List.mem_singleton.1 hx]; exact hov_gm
  refine C_region ?_
  refine T_k F H (pt gm 0) ?_
  clear F; intro a F
  refine T_val F H kr (kyV key) (R_load (own := true) (g := aq2) (all := (arrF .u8 32 key)) (t := 23) (fr := (0, 0)) 1 kr 23 (.tmp 4) rfl 0 kr (arrF .u8 32 key) (part_all _) _ Tryd.underlying23 rfl (by rw [arrF_size]; kernel_rfl)) ?_
  clear F; intro a F
  refine T_k F H (.slice pa.ad pa.n pa.c) ?_
  clear F; intro a F
  refine T_k F H (.slice dx 0 cx) ?_
  clear F; intro a F
  refine T_callX (α := SlR) F H kr 43 #[pt gm 0, kyV key, .slice pa.ad pa.n pa.c, .slice dx 0 cx] (fun rX => .tuple #[sc rX.g 0 32 rX.cap, ni 0]) (fun rX => [bk rX.g (sl (oct (boxP key pa.l [] 0)) rX.rest) 5, bk gm (mtr rX.n) 91, bk aq2 (arrF .u8 32 key) 23]) (fun rX => (True) ∧ (Own (oct (boxP key pa.l [] 0)) rX.rest 32 rX.cap 1)) (fun w => kr) (fun w H => callsX_bothV H (k := 0) rfl (seal_none gm 0 key hkey pa hba hna (by omega) dx cx _ (hW.keptS H.kept (fun _ _ => List.not_mem_nil)) (H.at_ (k := 0) rfl) (hrda.step1 H (k := 0) rfl))) ?_
  clear F H; intro rq9 a v Qrq9 F H
  refine T_k F H (.tuple #[sc rq9.g 0 32 rq9.cap, ni 0]) ?_
  clear F; intro a F
  refine T_k F H (sc rq9.g 0 32 rq9.cap) ?_
  clear F; intro a F
  refine T_k F H (ni 0) ?_
  clear F; intro a F
  refine T_k F H (sc rq9.g 0 32 rq9.cap) ?_
  clear F; intro a F
  refine T_k F H (ni 0) ?_
  clear F; intro a F
  refine wpList_nil ?_
  refine hK8 _ _ ?_
  clear hK8
  try clear K8
  refine C_seqK (fun K10 hK10 => ?_)
  refine C_region ?_
  refine T_k F H (pt gm 0) ?_
  clear F; intro a F
  refine T_val F H kr (kyV key) (R_load (own := true) (g := aq2) (all := (arrF .u8 32 key)) (t := 23) (fr := (0, 0)) 2 kr 23 (.tmp 4) rfl 0 kr (arrF .u8 32 key) (part_all _) _ Tryd.underlying23 rfl (by rw [arrF_size]; kernel_rfl)) ?_
  clear F; intro a F
  refine T_k F H (.slice pa.ad pa.n pa.c) ?_
  clear F; intro a F
  refine T_k F H (sc gy oy ny cy) ?_
  clear F; intro a F
  refine T_callX (α := SlR) F H kr 43 #[pt gm 0, kyV key, .slice pa.ad pa.n pa.c, sc gy oy ny cy] (fun rX => .tuple #[sc rX.g 0 (ny + 32) rX.cap, ni 0]) (fun rX => [bk rX.g (sl (oct (boxP key pa.l ul ny)) rX.rest) 5, bk rq9.g (sl (oct (boxP key pa.l [] 0)) rq9.rest) 5, bk gm (mtr rX.n) 91, bk aq2 (arrF .u8 32 key) 23]) (fun rX => (True) ∧ (Own (oct (boxP key pa.l ul ny)) rX.rest (ny + 32) rX.cap 1)) (fun w => kr) (fun w H => callsX_bothV H (k := 1) rfl (seal_some gm rq9.n key hkey pa hba hna (by omega) ul hul gy oy ny cy ay ty fy hary hpy (by omega) hcy (fun e => Nat.not_lt.2 (by rw [e]; exact hov_gm) hlty) _ (hW.keptS H.kept (fun _ _ => List.not_mem_nil)) (H.at_ (k := 1) rfl) (hrda.step1 H (k := 1) rfl) ((H.kept.block gy hlty List.not_mem_nil).trans hgy))) ?_
  clear F H; intro rq11 a v Qrq11 F H
  refine T_k F H (.tuple #[sc rq11.g 0 (ny + 32) rq11.cap, ni 0]) ?_
  clear F; intro a F
  refine T_k F H (sc rq11.g 0 (ny + 32) rq11.cap) ?_
  clear F; intro a F
  refine T_k F H (ni 0) ?_
  clear F; intro a F
  refine T_k F H (sc rq11.g 0 (ny + 32) rq11.cap) ?_
  clear F; intro a F
  refine T_k F H (ni 0) ?_
  clear F; intro a F
  refine wpList_nil ?_
  refine hK10 _ _ ?_
  clear hK10
  try clear K10
  refine C_seqK (fun K12 hK12 => ?_)
  refine C_seqK (fun K13 hK13 => ?_)
  refine C_region ?_
  refine T_k F H (ni 0) ?_
  clear F; intro a F
  refine T_k F H (.bool false) ?_
  clear F; intro a F
  refine T_k F H (.bool false) ?_
  clear F; intro a F
  refine T_k F H (ni 0) ?_
  clear F; intro a F
  refine T_k F H (.bool false) ?_
  clear F; intro a F
  refine T_k F H (.bool false) ?_
  clear F; intro a F
  refine T_k F H (.bool false) ?_
  clear F; intro a F
  refine T_k F H (sc rq9.g 0 32 rq9.cap) ?_
  clear F; intro a F
  refine T_k F H (ni 32) ?_
  clear F; intro a F
  refine T_k F H (.slice dx 0 cx) ?_
  clear F; intro a F
  refine T_k F H (ni 0) ?_
  clear F; intro a F
  refine T_k F H (ni 32) ?_
  clear F; intro a F
  refine T_k F H (.bool false) ?_
  clear F; intro a F
  refine T_k F H (.bool false) ?_
  clear F; intro a F
  refine T_k F H (.bool false) ?_
  clear F; intro a F
  refine T_k F H (sc rq11.g 0 (ny + 32) rq11.cap) ?_
  clear F; intro a F
  refine T_k F H (ni (ny + 32)) ?_
  clear F; intro a F
  refine T_k F H (sc gy oy ny cy) ?_
  clear F; intro a F
  refine T_k F H (ni ny) ?_
  clear F; intro a F
  refine T_val F H kr (ni (ny + 32)) (fun w _ => R_bin (x := (.tmp 67)) (y := (.const (.int .i64 32))) rfl (k := .i64) (a := ((ny : Nat) : Int)) (b := ((32 : Nat) : Int)) kr kr (i_addn64 (a := ny) (b := 32) (by omega)) w) ?_
  clear F; intro a F
  refine T_val F H kr (.bool false) (fun w _ => R_bin (x := (.tmp 65)) (y := (.tmp 68)) rfl (k := .i64) (a := (((ny + 32) : Nat) : Int)) (b := (((ny + 32) : Nat) : Int)) kr kr (i_nesm rfl) w) ?_
  clear F; intro a F
  refine T_k F H (.bool false) ?_
  clear F; intro a F
  refine wpList_nil ?_
  refine hK13 _ _ ?_
  clear hK13
  try clear K13
  refine C_if F false rfl rfl ?_
  refine wp_skip ?_
  refine hK12 _ _ ?_
  clear hK12
  try clear K12
  refine C_seqK (fun K14 hK14 => ?_)
  have hab : rq9.g ≠ gm := H.apart (i := 1) (j := 2) rfl rfl (by decide)
  have hcap : 0 + 32 ≤ rq9.cap := Qrq9.2.le
  refine E_region F H (fun β => [(71, pt gm 0), (72, kyV key), (73, .slice pa.ad pa.n pa.c), (74, sc rq9.g 0 32 rq9.cap), (75, .slice dx 0 cx), (76, ni 0), (77, sc rq9.g 0 0 rq9.cap), (78, kyV (tagP key pa.l (hidP key [] 0))), (15, pt ((β 8).g) 0)]) [71, 72, 73, 74, 75, 76, 77, 78, 15] [⟨some 8, none, 0, [], fun q_ => ce z8 23, gT, [⟨9, [], fun q_ => ce (arrF .u8 32 (tagP key pa.l (hidP key [] 0))) 23, gT⟩]⟩,
    ⟨none, none, gm, [], fun q_ => ce (mtr rq11.n) 91, gT, [⟨7, [7], fun q_ => ce (mtr (gh q_ 0).n) 91, gT⟩]⟩] [bk rq11.g (sl (oct (boxP key pa.l ul ny)) rq11.rest) 5, bk rq9.g (sl (oct (boxP key pa.l [] 0)) rq9.rest) 5, bk aq2 (arrF .u8 32 key) 23] [2, 0, 1, 3] 2 [] kr kr kr (fun β => rfl) ⟨fun h _ => Bool.noConfusion h, ⟨fun _ _ => trivial, trivial⟩⟩ ⟨?_, ?_, ?_, ?_, ?_, ?_, ?_, ?_, ?_, ?_, trivial⟩ ?_
  · exact E_k 119 (fun β => pt gm 0) 71 2
  · exact E_v 119 (fun β => kyV key) 72 2 [] (fun β w hk hl hq => R_loadH hl (own := true) (g := aq2) (all := (arrF .u8 32 key)) (t := 23) (fr := (0, 0)) 2 kr 23 (.tmp 4) rfl 0 kr (arrF .u8 32 key) (part_all _) _ Tryd.underlying23 rfl (by rw [arrF_size]; kernel_rfl))
  · exact E_k 119 (fun β => .slice pa.ad pa.n pa.c) 73 2
  · exact E_k 119 (fun β => sc rq9.g 0 32 rq9.cap) 74 2
  · exact E_k 119 (fun β => .slice dx 0 cx) 75 2
  · exact E_k 119 (fun β => ni 0) 76 2
  · exact E_v 119 (fun β => sc rq9.g 0 0 rq9.cap) 77 2 [] (fun β w hk hl hq => R_slice (x := (.tmp 74)) (lo := none) (hi := (some (.tmp 76))) rfl Tryd.underlying54 (ad := some ⟨rq9.g, 0, none⟩) (len := 32) (cap := rq9.cap) kr (0) (0) rfl ⟨.i64, kr⟩ (Nat.zero_le _) (by omega) (sz := 1) kr _ slice0 w)
  · exact E_callP 119 kq (fun β => kyV (tagP key pa.l (hidP key [] 0))) 78 rfl kq 2 (fun β r => offAt2_of kr kr) 45 (fun β => #[pt gm 0, kyV key, .slice pa.ad pa.n pa.c, sc rq9.g 0 0 rq9.cap]) (fun β w => kr) 2 [] 1 0 _ _ rfl rfl kr kr rfl (fun β w hk hl hq hm => tag_any gm rq11.n key hkey pa ⟨some ⟨rq9.g, 0, none⟩, 0, rq9.cap, (hidP key [] 0)⟩ hba hna (by omega) (hidP_lt key (by simp) _) (hidP_len _ _ _) (by show 0 ≤ 4000; omega) _ (hW.keptS hk (fun _ _ => List.not_mem_nil)) hm (hrda.from hk hovs) (by have h := RdK.row (X := [gm]) (m := 0) (c := rq9.cap) (hl.at_ (k := 1) rfl) (boxP_len key pa.l [] 0) (slAt (boxP_len _ _ _ _)) (by omega) (by omega) (fun h => hab (List.mem_singleton.1 h)); rw [box_take] at h; exact h))
  · exact E_new 119 kq (fun β => pt ((β 8).g) 0) 15 rfl kq 2 (fun β r => offAt2_of kr kr) 2 [] 0 _ rfl kr kr rfl (fun β w hk hl hq => ⟨⟨w.heap.size, 0, [], 0⟩, _, (show (execOp _ _).run _ w = .ok (.value (pt w.heap.size 0)) (w.alloc (ce z8 23)) from kr), trivial, Nat.le_refl _, heap_alloc_new _ _, Kept.alloc _ _⟩)
  · exact E_store 119 kq rfl 2 [] 0 0 _ _ rfl rfl kr rfl (fun _ => trivial) (fun β w hk hl hq hm => let ⟨w', h1, h2, h3⟩ := P_row (cs := (arrF .u8 32 (tagP key pa.l (hidP key [] 0)))) (old := z8) rfl rfl (ty := 23) (x := (.tmp 15)) (y := (.tmp 78)) rfl kr kr (by rw [arrF_size]; kernel_rfl) (by rw [arrF_size]; kernel_rfl) (arrF_one _ _ _) hm; ⟨w', h1, h2, h3⟩)
  clear F H; intro β a v Q F H
  replace H : Hp [] w [bk ((β 8).g) (arrF .u8 32 (tagP key pa.l (hidP key [] 0))) 23, bk gm (mtr (β 7).n) 91, bk rq11.g (sl (oct (boxP key pa.l ul ny)) rq11.rest) 5, bk rq9.g (sl (oct (boxP key pa.l [] 0)) rq9.rest) 5, bk aq2 (arrF .u8 32 key) 23] v := H
  replace F : Fm 119 [] [(15, pt ((β 8).g) 0), (78, kyV (tagP key pa.l (hidP key [] 0))), (77, sc rq9.g 0 0 rq9.cap), (76, ni 0), (75, .slice dx 0 cx), (74, sc rq9.g 0 32 rq9.cap), (73, .slice pa.ad pa.n pa.c), (72, kyV key), (71, pt gm 0), (70, .bool false), (69, .bool false), (68, ni (ny + 32)), (67, ni ny), (66, sc gy oy ny cy), (65, ni (ny + 32)), (64, sc rq11.g 0 (ny + 32) rq11.cap), (63, .bool false), (62, .bool false), (61, .bool false), (60, ni 32), (59, ni 0), (58, .slice dx 0 cx), (57, ni 32), (56, sc rq9.g 0 32 rq9.cap), (55, .bool false), (54, .bool false), (53, .bool false), (52, ni 0), (51, .bool false), (50, .bool false), (49, ni 0), (14, ni 0), (13, sc rq11.g 0 (ny + 32) rq11.cap), (48, ni 0), (47, sc rq11.g 0 (ny + 32) rq11.cap), (41, .tuple #[sc rq11.g 0 (ny + 32) rq11.cap, ni 0]), (46, .tuple #[sc rq11.g 0 (ny + 32) rq11.cap, ni 0]), (45, sc gy oy ny cy), (44, .slice pa.ad pa.n pa.c), (43, kyV key), (42, pt gm 0), (12, ni 0), (11, sc rq9.g 0 32 rq9.cap), (40, ni 0), (39, sc rq9.g 0 32 rq9.cap), (33, .tuple #[sc rq9.g 0 32 rq9.cap, ni 0]), (38, .tuple #[sc rq9.g 0 32 rq9.cap, ni 0]), (37, .slice dx 0 cx), (36, .slice pa.ad pa.n pa.c), (35, kyV key), (34, pt gm 0), (10, pt gm 0), (32, pt gm 0), (30, .bool false), (29, .bool false), (28, ni ny), (27, sc gy oy ny cy), (26, .bool false), (25, .bool false), (24, .bool false), (23, ni 0), (22, .slice dx 0 cx), (21, .bool false), (20, .bool false), (19, ni pa.n), (18, .slice pa.ad pa.n pa.c), (9, .bool true), (17, .bool true), (8, .bool false), (4, pt aq2 0), (0, kyV key), (1, .slice pa.ad pa.n pa.c), (2, .slice dx 0 cx), (3, sc gy oy ny cy)] a := F.weak _ (subL_of kr)
  clear Q
  generalize β 8 = rq15 at F H
  generalize β 7 = rq16 at F H
  skip
  refine ?_
  refine hK14 _ _ ?_
  clear hK14
  try clear K14
  refine C_seqK (fun K17 hK17 => ?_)
  refine C_seqK (fun K18 hK18 => ?_)
  refine E_region F H (fun β => [(79, sc rq9.g 0 32 rq9.cap), (80, .slice dx 0 cx), (81, ni 0), (82, sc rq9.g 0 32 rq9.cap), (83, kyV (tagP key pa.l (hidP key [] 0))), (84, sc ((β 5).g) 0 32 (β 5).cap), (85, .bool true), (86, .bool false)]) [79, 80, 81, 82, 83, 84, 85, 86] [⟨some 5, none, 0, [5], fun q_ => ce (sl (oct (kl (tagP key pa.l (hidP key [] 0)))) (gh q_ 0).rest) 5, fun q_ => ((Own (oct (kl (tagP key pa.l (hidP key [] 0)))) (gh q_ 0).rest (32) (gh q_ 0).cap 1) ∧ (gh q_ 0).g ≠ rq9.g), []⟩] [bk rq15.g (arrF .u8 32 (tagP key pa.l (hidP key [] 0))) 23, bk gm (mtr rq16.n) 91, bk rq11.g (sl (oct (boxP key pa.l ul ny)) rq11.rest) 5, bk rq9.g (sl (oct (boxP key pa.l [] 0)) rq9.rest) 5, bk aq2 (arrF .u8 32 key) 23] [0, 1, 2, 3, 4] 2 [] kr kr kr (fun β => rfl) ⟨fun h _ => Bool.noConfusion h, trivial⟩ ⟨?_, ?_, ?_, ?_, ?_, ?_, ?_, ?_, trivial⟩ ?_
  · exact E_k 119 (fun β => sc rq9.g 0 32 rq9.cap) 79 2
  · exact E_k 119 (fun β => .slice dx 0 cx) 80 2
  · exact E_k 119 (fun β => ni 0) 81 2
  · exact E_v 119 (fun β => sc rq9.g 0 32 rq9.cap) 82 2 [] (fun β w hk hl hq => R_slice (x := (.tmp 79)) (lo := (some (.tmp 81))) (hi := none) rfl Tryd.underlying54 (ad := some ⟨rq9.g, 0, none⟩) (len := 32) (cap := rq9.cap) kr (0) (32) ⟨.i64, kr⟩ rfl (Nat.zero_le _) (by omega) (sz := 1) kr _ slice0 w)
  · exact E_v 119 (fun β => kyV (tagP key pa.l (hidP key [] 0))) 83 2 [] (fun β w hk hl hq => R_loadH hl (own := true) (g := rq15.g) (all := (arrF .u8 32 (tagP key pa.l (hidP key [] 0)))) (t := 23) (fr := (0, 0)) 0 kr 23 (.tmp 15) rfl 0 kr (arrF .u8 32 (tagP key pa.l (hidP key [] 0))) (part_all _) _ Tryd.underlying23 rfl (by rw [arrF_size]; kernel_rfl))
  · exact E_callS 119 kq (fun β => sc ((β 5).g) 0 32 (β 5).cap) 84 rfl kq 2 (fun β r => offAt2_of kr kr) 47 (fun β => #[kyV (tagP key pa.l (hidP key [] 0))]) (fun β w => kr) 2 [] 0 _ rfl kr kr rfl (fun β w hk hl hq => (bytesR_any (tagP key pa.l (hidP key [] 0)) _).mono (fun _ _ ⟨r, q1, q2, q3, q4, q5⟩ => ⟨r, q1, ⟨q2, fun e => absurd (heap_in (hl.at_ (k := 3) rfl)) (Nat.not_lt.2 (e ▸ q3))⟩, q3, q4, q5⟩))
  · exact E_call 119 kq (fun β => .bool true) 85 rfl kq 42 (fun β => #[sc rq9.g 0 32 rq9.cap, sc ((β 5).g) 0 32 (β 5).cap]) (fun β w => kr) 2 [(0, 0)] kr rfl (fun β w hk hl hq => lsame_any ((boxP key pa.l [] 0).drop 0) (kl (tagP key pa.l (hidP key [] 0))) rq9.g 0 32 rq9.cap _ 5 (0, 0) (β 5).g 0 (β 5).cap _ 5 (0, 0) (fun j hj => by rw [dropD]; exact (congrArg (fun q => (sl (oct (boxP key pa.l [] 0)) _)[q]?) (show 0 + j = 0 + j by omega)).trans (slC (by rw [boxP_len]; omega))) (slAt (kl_len _)) (by omega) true ⟨fun _ i hi => by rw [dropD, box_end _ _ _ _ hi, klD _ hi], fun _ => rfl⟩ _ (hl.at_ (k := 4) rfl) (hl.at_ (k := 0) rfl) (Ne.symm hq.1.1.2))
  · exact E_k 119 (fun β => .bool false) 86 2
  clear F H; intro β a v Q F H
  replace H : Hp [] w [bk ((β 5).g) (sl (oct (kl (tagP key pa.l (hidP key [] 0)))) (β 5).rest) 5, bk rq15.g (arrF .u8 32 (tagP key pa.l (hidP key [] 0))) 23, bk gm (mtr rq16.n) 91, bk rq11.g (sl (oct (boxP key pa.l ul ny)) rq11.rest) 5, bk rq9.g (sl (oct (boxP key pa.l [] 0)) rq9.rest) 5, bk aq2 (arrF .u8 32 key) 23] v := H
  replace F : Fm 119 [] [(86, .bool false), (85, .bool true), (84, sc ((β 5).g) 0 32 (β 5).cap), (83, kyV (tagP key pa.l (hidP key [] 0))), (82, sc rq9.g 0 32 rq9.cap), (81, ni 0), (80, .slice dx 0 cx), (79, sc rq9.g 0 32 rq9.cap), (15, pt rq15.g 0), (78, kyV (tagP key pa.l (hidP key [] 0))), (77, sc rq9.g 0 0 rq9.cap), (76, ni 0), (75, .slice dx 0 cx), (74, sc rq9.g 0 32 rq9.cap), (73, .slice pa.ad pa.n pa.c), (72, kyV key), (71, pt gm 0), (70, .bool false), (69, .bool false), (68, ni (ny + 32)), (67, ni ny), (66, sc gy oy ny cy), (65, ni (ny + 32)), (64, sc rq11.g 0 (ny + 32) rq11.cap), (63, .bool false), (62, .bool false), (61, .bool false), (60, ni 32), (59, ni 0), (58, .slice dx 0 cx), (57, ni 32), (56, sc rq9.g 0 32 rq9.cap), (55, .bool false), (54, .bool false), (53, .bool false), (52, ni 0), (51, .bool false), (50, .bool false), (49, ni 0), (14, ni 0), (13, sc rq11.g 0 (ny + 32) rq11.cap), (48, ni 0), (47, sc rq11.g 0 (ny + 32) rq11.cap), (41, .tuple #[sc rq11.g 0 (ny + 32) rq11.cap, ni 0]), (46, .tuple #[sc rq11.g 0 (ny + 32) rq11.cap, ni 0]), (45, sc gy oy ny cy), (44, .slice pa.ad pa.n pa.c), (43, kyV key), (42, pt gm 0), (12, ni 0), (11, sc rq9.g 0 32 rq9.cap), (40, ni 0), (39, sc rq9.g 0 32 rq9.cap), (33, .tuple #[sc rq9.g 0 32 rq9.cap, ni 0]), (38, .tuple #[sc rq9.g 0 32 rq9.cap, ni 0]), (37, .slice dx 0 cx), (36, .slice pa.ad pa.n pa.c), (35, kyV key), (34, pt gm 0), (10, pt gm 0), (32, pt gm 0), (30, .bool false), (29, .bool false), (28, ni ny), (27, sc gy oy ny cy), (26, .bool false), (25, .bool false), (24, .bool false), (23, ni 0), (22, .slice dx 0 cx), (21, .bool false), (20, .bool false), (19, ni pa.n), (18, .slice pa.ad pa.n pa.c), (9, .bool true), (17, .bool true), (8, .bool false), (4, pt aq2 0), (0, kyV key), (1, .slice pa.ad pa.n pa.c), (2, .slice dx 0 cx), (3, sc gy oy ny cy)] a := F.weak _ (subL_of kr)
  have Qh19_0 : ((Own (oct (kl (tagP key pa.l (hidP key [] 0)))) (β 5).rest (32) (β 5).cap 1) ∧ (β 5).g ≠ rq9.g) := Q.1
  clear Q
  generalize β 5 = rq19 at F H Qh19_0
  skip
  refine ?_
  refine hK18 _ _ ?_
  clear hK18
  try clear K18
  refine C_if F false rfl rfl ?_
  refine wp_skip ?_
  refine hK17 _ _ ?_
  clear hK17
  try clear K17
  refine C_seqK (fun K20 hK20 => ?_)
  refine C_seqK (fun K21 hK21 => ?_)
  refine C_region ?_
  refine T_k F H (ni 0) ?_
  clear F; intro a F
  refine wpList_nil ?_
  replace F : Fm 119 [] [(16, ni 0), (11, sc rq9.g 0 32 rq9.cap), (13, sc rq11.g 0 (ny + 32) rq11.cap), (2, .slice dx 0 cx), (3, sc gy oy ny cy), (9, .bool true)] a := F.weak _ (subL_of kr)
  replace H : Hp [] w [bk rq9.g (sl (oct (boxP key pa.l [] 0)) rq9.rest) 5, bk rq11.g (sl (oct (boxP key pa.l ul ny)) rq11.rest) 5] v := H.pick [4, 3] kr _ rfl
  refine hK21 _ _ ?_
  clear hK21
  try clear K21
  refine wp_block ?_
  refine C_loop (fun m a v => Fm 119 [] [(16, ni 0), (11, sc rq9.g 0 32 rq9.cap), (13, sc rq11.g 0 (ny + 32) rq11.cap), (2, .slice dx 0 cx), (3, sc gy oy ny cy), (9, .bool true)] a ∧ Hp [] w [bk rq9.g (sl (oct (boxP key pa.l [] 0)) rq9.rest) 5, bk rq11.g (sl (oct (boxP key pa.l ul ny)) rq11.rest) 5] v) 0 ⟨F, H⟩ ?_
  clear F H
  intro m a v ⟨F, H⟩
  refine C_seqK (fun K22 hK22 => ?_)
  refine C_seqK (fun K23 hK23 => ?_)
  refine C_region ?_
  refine T_k F H (ni 0) ?_
  clear F; intro a F
  refine T_k F H (.slice dx 0 cx) ?_
  clear F; intro a F
  refine T_k F H (ni 0) ?_
  clear F; intro a F
  refine T_k F H (.bool false) ?_
  clear F; intro a F
  refine T_k F H (.bool false) ?_
  clear F; intro a F
  refine T_skip F kr kr ?_
  clear F; intro a F
  refine T_skip F kr kr ?_
  clear F; intro a F
  refine T_skip F kr kr ?_
  clear F; intro a F
  refine T_skip F kr kr ?_
  clear F; intro a F
  refine T_k F H (.bool false) ?_
  clear F; intro a F
  refine wpList_nil ?_
  refine hK23 _ _ ?_
  clear hK23
  try clear K23
  refine C_if F false rfl rfl ?_
  refine wp_exit ?_
  refine hK20 _ _ ?_
  clear hK20
  try clear K20
  refine C_seqK (fun K24 hK24 => ?_)
  refine C_region ?_
  refine T_k F H (.bool true) ?_
  clear F; intro a F
  refine T_k F H (.bool true) ?_
  clear F; intro a F
  refine wpList_nil ?_
  refine hK24 _ _ ?_
  clear hK24
  try clear K24
  refine wp_ret ?_
  exact C_ret F H (rs := [.tmp 8]) rfl (vs := [.bool true]) (.tmp rfl .nil) (.bool true) rfl ⟨rfl, H.kept⟩

set_option maxRecDepth 100000 in
set_option maxHeartbeats 4000000 in
theorem se_sn (key : Nat → Nat) (hkey : ∀ i, i < 32 → key i < 256) (pa : SlP) (hba : ∀ x ∈ pa.l, x < 256) (hna : pa.l.length = pa.n) (h1 : pa.n ≤ 200) (tl : List Nat) (htl : ∀ x ∈ tl, x < 256) (gx ox nx cx : Nat) (ax : Array Value) (tx : TypeId) (fx : Nat × Nat) (harx : ∀ j, j < nx → ax[ox + j]? = some (.int .u8 ((tl.getD j 0 : Nat) : Int))) (hlx : tl.length = nx) (hcx : nx ≤ cx) (hpx : 0 < nx) (h2 : nx ≤ 200) (dy : Option Addr) (cy : Nat) (w : World) (hW : LaidS w) (hrda : RdK [] w pa) (hltx : gx < w.heap.size) (hgx : w.heap[gx]? = some (.cells ax tx fx)) : Calls Tryd.prog 14 #[.agg (arrF .u8 32 key), .slice pa.ad pa.n pa.c, .slice (some ⟨gx, ox, none⟩) nx cx, .slice dy 0 cy] w fun e w' => e = .returned (.bool true) ∧ Kept [] w w' := by
  refine C_enter Tryd.func14 rfl 119 Tryd.ntmps14 (Nat.le_of_ble_eq_true rfl) (fun a F => ?_)
  have H := Hp.start [] w
  replace F : Fm 119 [] [(0, kyV key), (1, .slice pa.ad pa.n pa.c), (2, sc gx ox nx cx), (3, .slice dy 0 cy)] a := F.weak _ (subL_of kr)
  refine C_seqK (fun K1 hK1 => ?_)
  refine C_region ?_
  refine T_new F H kr (fun ad => pt ad 0) (ce (arrF .u8 32 key) 23) (fun w => kr) ?_
  clear F H; intro aq2 a v F H
  refine T_k F H (.bool false) ?_
  clear F; intro a F
  refine wpList_nil ?_
  refine hK1 _ _ ?_
  clear hK1
  try clear K1
  refine C_seqK (fun K3 hK3 => ?_)
  refine C_region ?_
  refine T_call F H kr 39 #[] (.bool true) (fun w => kr) (awake05_any _ (hW.keptS H.kept (fun _ _ => List.not_mem_nil))) ?_
  clear F H; intro a v F H
  refine T_k F H (.bool true) ?_
  clear F; intro a F
  refine wpList_nil ?_
  refine hK3 _ _ ?_
  clear hK3
  try clear K3
  refine C_seqK (fun K4 hK4 => ?_)
  refine C_seqK (fun K5 hK5 => ?_)
  refine C_region ?_
  refine T_k F H (.slice pa.ad pa.n pa.c) ?_
  clear F; intro a F
  refine T_k F H (ni pa.n) ?_
  clear F; intro a F
  refine T_val F H kr (.bool false) (fun w _ => R_bin (x := (.tmp 19)) (y := (.const (.int .i64 200))) rfl (k := .i64) (a := ((pa.n : Nat) : Int)) (b := ((200 : Nat) : Int)) kr kr (i_ngtn (by omega)) w) ?_
  clear F; intro a F
  refine T_k F H (.bool false) ?_
  clear F; intro a F
  refine T_k F H (sc gx ox nx cx) ?_
  clear F; intro a F
  refine T_k F H (ni nx) ?_
  clear F; intro a F
  refine T_val F H kr (.bool false) (fun w _ => R_bin (x := (.tmp 23)) (y := (.const (.int .i64 200))) rfl (k := .i64) (a := ((nx : Nat) : Int)) (b := ((200 : Nat) : Int)) kr kr (i_ngtn (by omega)) w) ?_
  clear F; intro a F
  refine T_k F H (.bool false) ?_
  clear F; intro a F
  refine T_k F H (.bool false) ?_
  clear F; intro a F
  refine T_k F H (.slice dy 0 cy) ?_
  clear F; intro a F
  refine T_k F H (ni 0) ?_
  clear F; intro a F
  refine T_k F H (.bool false) ?_
  clear F; intro a F
  refine T_k F H (.bool false) ?_
  clear F; intro a F
  refine wpList_nil ?_
  refine hK5 _ _ ?_
  clear hK5
  try clear K5
  refine C_if F false rfl rfl ?_
  refine wp_skip ?_
  refine hK4 _ _ ?_
  clear hK4
  try clear K4
  refine C_seqK (fun K6 hK6 => ?_)
  refine C_region ?_
  refine T_callX (α := SlR) F H kr 18 #[.bool false] (fun rX => pt rX.g 0) (fun rX => [bk rX.g (mtr 0) 91, bk aq2 (arrF .u8 32 key) 23]) (fun rX => True) (fun w => kr) (fun w H => callsX_newV H (newM_any _)) ?_
  clear F H; intro rq7 a v Qrq7 F H
  refine T_k F H (pt rq7.g 0) ?_
  clear F; intro a F
  refine wpList_nil ?_
  generalize rq7.g = gm at F H
  refine hK6 _ _ ?_
  clear hK6
  try clear K6
  refine C_seqK (fun K8 hK8 => ?_)
  have hov_gm : w.heap.size ≤ gm := (H.own _ (List.mem_of_getElem? (i := 0) rfl) rfl).resolve_right List.not_mem_nil
  have hovs : ∀ x ∈ [gm], w.heap.size ≤ x := fun x hx => by rw [List.mem_singleton.1 hx]; exact hov_gm
  refine C_region ?_
  refine T_k F H (pt gm 0) ?_
  clear F; intro a F
  refine T_val F H kr (kyV key) (R_load (own := true) (g := aq2) (all := (arrF .u8 32 key)) (t := 23) (fr := (0, 0)) 1 kr 23 (.tmp 4) rfl 0 kr (arrF .u8 32 key) (part_all _) _ Tryd.underlying23 rfl (by rw [arrF_size]; kernel_rfl)) ?_
  clear F; intro a F
  refine T_k F H (.slice pa.ad pa.n pa.c) ?_
  clear F; intro a F
  refine T_k F H (sc gx ox nx cx) ?_
  clear F; intro a F
  refine T_callX (α := SlR) F H kr 43 #[pt gm 0, kyV key, .slice pa.ad pa.n pa.c, sc gx ox nx cx] (fun rX => .tuple #[sc rX.g 0 (nx + 32) rX.cap, ni 0]) (fun rX => [bk rX.g (sl (oct (boxP key pa.l tl nx)) rX.rest) 5, bk gm (mtr rX.n) 91, bk aq2 (arrF .u8 32 key) 23]) (fun rX => (True) ∧ (Own (oct (boxP key pa.l tl nx)) rX.rest (nx + 32) rX.cap 1)) (fun w => kr) (fun w H => callsX_bothV H (k := 0) rfl (seal_some gm 0 key hkey pa hba hna (by omega) tl htl gx ox nx cx ax tx fx harx hpx (by omega) hcx (fun e => Nat.not_lt.2 (by rw [e]; exact hov_gm) hltx) _ (hW.keptS H.kept (fun _ _ => List.not_mem_nil)) (H.at_ (k := 0) rfl) (hrda.step1 H (k := 0) rfl) ((H.kept.block gx hltx List.not_mem_nil).trans hgx))) ?_
  clear F H; intro rq9 a v Qrq9 F H
  refine T_k F H (.tuple #[sc rq9.g 0 (nx + 32) rq9.cap, ni 0]) ?_
  clear F; intro a F
  refine T_k F H (sc rq9.g 0 (nx + 32) rq9.cap) ?_
  clear F; intro a F
  refine T_k F H (ni 0) ?_
  clear F; intro a F
  refine T_k F H (sc rq9.g 0 (nx + 32) rq9.cap) ?_
  clear F; intro a F
  refine T_k F H (ni 0) ?_
  clear F; intro a F
  refine wpList_nil ?_
  refine hK8 _ _ ?_
  clear hK8
  try clear K8
  refine C_seqK (fun K10 hK10 => ?_)
  refine C_region ?_
  refine T_k F H (pt gm 0) ?_
  clear F; intro a F
  refine T_val F H kr (kyV key) (R_load (own := true) (g := aq2) (all := (arrF .u8 32 key)) (t := 23) (fr := (0, 0)) 2 kr 23 (.tmp 4) rfl 0 kr (arrF .u8 32 key) (part_all _) _ Tryd.underlying23 rfl (by rw [arrF_size]; kernel_rfl)) ?_
  clear F; intro a F
  refine T_k F H (.slice pa.ad pa.n pa.c) ?_
  clear F; intro a F
  refine T_k F H (.slice dy 0 cy) ?_
  clear F; intro a F
  refine T_callX (α := SlR) F H kr 43 #[pt gm 0, kyV key, .slice pa.ad pa.n pa.c, .slice dy 0 cy] (fun rX => .tuple #[sc rX.g 0 32 rX.cap, ni 0]) (fun rX => [bk rX.g (sl (oct (boxP key pa.l [] 0)) rX.rest) 5, bk rq9.g (sl (oct (boxP key pa.l tl nx)) rq9.rest) 5, bk gm (mtr rX.n) 91, bk aq2 (arrF .u8 32 key) 23]) (fun rX => (True) ∧ (Own (oct (boxP key pa.l [] 0)) rX.rest 32 rX.cap 1)) (fun w => kr) (fun w H => callsX_bothV H (k := 1) rfl (seal_none gm rq9.n key hkey pa hba hna (by omega) dy cy _ (hW.keptS H.kept (fun _ _ => List.not_mem_nil)) (H.at_ (k := 1) rfl) (hrda.step1 H (k := 1) rfl))) ?_
  clear F H; intro rq11 a v Qrq11 F H
  refine T_k F H (.tuple #[sc rq11.g 0 32 rq11.cap, ni 0]) ?_
  clear F; intro a F
  refine T_k F H (sc rq11.g 0 32 rq11.cap) ?_
  clear F; intro a F
  refine T_k F H (ni 0) ?_
  clear F; intro a F
  refine T_k F H (sc rq11.g 0 32 rq11.cap) ?_
  clear F; intro a F
  refine T_k F H (ni 0) ?_
  clear F; intro a F
  refine wpList_nil ?_
  refine hK10 _ _ ?_
  clear hK10
  try clear K10
  refine C_seqK (fun K12 hK12 => ?_)
  refine C_seqK (fun K13 hK13 => ?_)
  refine C_region ?_
  refine T_k F H (ni 0) ?_
  clear F; intro a F
  refine T_k F H (.bool false) ?_
  clear F; intro a F
  refine T_k F H (.bool false) ?_
  clear F; intro a F
  refine T_k F H (ni 0) ?_
  clear F; intro a F
  refine T_k F H (.bool false) ?_
  clear F; intro a F
  refine T_k F H (.bool false) ?_
  clear F; intro a F
  refine T_k F H (.bool false) ?_
  clear F; intro a F
  refine T_k F H (sc rq9.g 0 (nx + 32) rq9.cap) ?_
  clear F; intro a F
  refine T_k F H (ni (nx + 32)) ?_
  clear F; intro a F
  refine T_k F H (sc gx ox nx cx) ?_
  clear F; intro a F
  refine T_k F H (ni nx) ?_
  clear F; intro a F
  refine T_val F H kr (ni (nx + 32)) (fun w _ => R_bin (x := (.tmp 59)) (y := (.const (.int .i64 32))) rfl (k := .i64) (a := ((nx : Nat) : Int)) (b := ((32 : Nat) : Int)) kr kr (i_addn64 (a := nx) (b := 32) (by omega)) w) ?_
  clear F; intro a F
  refine T_val F H kr (.bool false) (fun w _ => R_bin (x := (.tmp 57)) (y := (.tmp 60)) rfl (k := .i64) (a := (((nx + 32) : Nat) : Int)) (b := (((nx + 32) : Nat) : Int)) kr kr (i_nesm rfl) w) ?_
  clear F; intro a F
  refine T_k F H (.bool false) ?_
  clear F; intro a F
  refine T_k F H (.bool false) ?_
  clear F; intro a F
  refine T_k F H (sc rq11.g 0 32 rq11.cap) ?_
  clear F; intro a F
  refine T_k F H (ni 32) ?_
  clear F; intro a F
  refine T_k F H (.slice dy 0 cy) ?_
  clear F; intro a F
  refine T_k F H (ni 0) ?_
  clear F; intro a F
  refine T_k F H (ni 32) ?_
  clear F; intro a F
  refine T_k F H (.bool false) ?_
  clear F; intro a F
  refine T_k F H (.bool false) ?_
  clear F; intro a F
  refine wpList_nil ?_
  refine hK13 _ _ ?_
  clear hK13
  try clear K13
  refine C_if F false rfl rfl ?_
  refine wp_skip ?_
  refine hK12 _ _ ?_
  clear hK12
  try clear K12
  refine C_seqK (fun K14 hK14 => ?_)
  have hab : rq9.g ≠ gm := H.apart (i := 1) (j := 2) rfl rfl (by decide)
  have hcap : nx + 32 ≤ rq9.cap := Qrq9.2.le
  refine E_region F H (fun β => [(71, pt gm 0), (72, kyV key), (73, .slice pa.ad pa.n pa.c), (74, sc rq9.g 0 (nx + 32) rq9.cap), (75, sc gx ox nx cx), (76, ni nx), (77, sc rq9.g 0 nx rq9.cap), (78, kyV (tagP key pa.l (hidP key tl nx))), (15, pt ((β 8).g) 0)]) [71, 72, 73, 74, 75, 76, 77, 78, 15] [⟨some 8, none, 0, [], fun q_ => ce z8 23, gT, [⟨9, [], fun q_ => ce (arrF .u8 32 (tagP key pa.l (hidP key tl nx))) 23, gT⟩]⟩,
    ⟨none, none, gm, [], fun q_ => ce (mtr rq11.n) 91, gT, [⟨7, [7], fun q_ => ce (mtr (gh q_ 0).n) 91, gT⟩]⟩] [bk rq11.g (sl (oct (boxP key pa.l [] 0)) rq11.rest) 5, bk rq9.g (sl (oct (boxP key pa.l tl nx)) rq9.rest) 5, bk aq2 (arrF .u8 32 key) 23] [2, 0, 1, 3] 2 [] kr kr kr (fun β => rfl) ⟨fun h _ => Bool.noConfusion h, ⟨fun _ _ => trivial, trivial⟩⟩ ⟨?_, ?_, ?_, ?_, ?_, ?_, ?_, ?_, ?_, ?_, trivial⟩ ?_
  · exact E_k 119 (fun β => pt gm 0) 71 2
  · exact E_v 119 (fun β => kyV key) 72 2 [] (fun β w hk hl hq => R_loadH hl (own := true) (g := aq2) (all := (arrF .u8 32 key)) (t := 23) (fr := (0, 0)) 2 kr 23 (.tmp 4) rfl 0 kr (arrF .u8 32 key) (part_all _) _ Tryd.underlying23 rfl (by rw [arrF_size]; kernel_rfl))
  · exact E_k 119 (fun β => .slice pa.ad pa.n pa.c) 73 2
  · exact E_k 119 (fun β => sc rq9.g 0 (nx + 32) rq9.cap) 74 2
  · exact E_k 119 (fun β => sc gx ox nx cx) 75 2
  · exact E_k 119 (fun β => ni nx) 76 2
  · exact E_v 119 (fun β => sc rq9.g 0 nx rq9.cap) 77 2 [] (fun β w hk hl hq => R_slice (x := (.tmp 74)) (lo := none) (hi := (some (.tmp 76))) rfl Tryd.underlying54 (ad := some ⟨rq9.g, 0, none⟩) (len := (nx + 32)) (cap := rq9.cap) kr (0) (nx) rfl ⟨.i64, kr⟩ (Nat.zero_le _) (by omega) (sz := 1) kr _ slice0 w)
  · exact E_callP 119 kq (fun β => kyV (tagP key pa.l (hidP key tl nx))) 78 rfl kq 2 (fun β r => offAt2_of kr kr) 45 (fun β => #[pt gm 0, kyV key, .slice pa.ad pa.n pa.c, sc rq9.g 0 nx rq9.cap]) (fun β w => kr) 2 [] 1 0 _ _ rfl rfl kr kr rfl (fun β w hk hl hq hm => tag_any gm rq11.n key hkey pa ⟨some ⟨rq9.g, 0, none⟩, nx, rq9.cap, (hidP key tl nx)⟩ hba hna (by omega) (hidP_lt key htl _) (hidP_len _ _ _) (by show nx ≤ 4000; omega) _ (hW.keptS hk (fun _ _ => List.not_mem_nil)) hm (hrda.from hk hovs) (by have h := RdK.row (X := [gm]) (m := nx) (c := rq9.cap) (hl.at_ (k := 1) rfl) (boxP_len key pa.l tl nx) (slAt (boxP_len _ _ _ _)) (by omega) (by omega) (fun h => hab (List.mem_singleton.1 h)); rw [box_take] at h; exact h))
  · exact E_new 119 kq (fun β => pt ((β 8).g) 0) 15 rfl kq 2 (fun β r => offAt2_of kr kr) 2 [] 0 _ rfl kr kr rfl (fun β w hk hl hq => ⟨⟨w.heap.size, 0, [], 0⟩, _, (show (execOp _ _).run _ w = .ok (.value (pt w.heap.size 0)) (w.alloc (ce z8 23)) from kr), trivial, Nat.le_refl _, heap_alloc_new _ _, Kept.alloc _ _⟩)
  · exact E_store 119 kq rfl 2 [] 0 0 _ _ rfl rfl kr rfl (fun _ => trivial) (fun β w hk hl hq hm => let ⟨w', h1, h2, h3⟩ := P_row (cs := (arrF .u8 32 (tagP key pa.l (hidP key tl nx)))) (old := z8) rfl rfl (ty := 23) (x := (.tmp 15)) (y := (.tmp 78)) rfl kr kr (by rw [arrF_size]; kernel_rfl) (by rw [arrF_size]; kernel_rfl) (arrF_one _ _ _) hm; ⟨w', h1, h2, h3⟩)
  clear F H; intro β a v Q F H
  replace H : Hp [] w [bk ((β 8).g) (arrF .u8 32 (tagP key pa.l (hidP key tl nx))) 23, bk gm (mtr (β 7).n) 91, bk rq11.g (sl (oct (boxP key pa.l [] 0)) rq11.rest) 5, bk rq9.g (sl (oct (boxP key pa.l tl nx)) rq9.rest) 5, bk aq2 (arrF .u8 32 key) 23] v := H
  replace F : Fm 119 [] [(15, pt ((β 8).g) 0), (78, kyV (tagP key pa.l (hidP key tl nx))), (77, sc rq9.g 0 nx rq9.cap), (76, ni nx), (75, sc gx ox nx cx), (74, sc rq9.g 0 (nx + 32) rq9.cap), (73, .slice pa.ad pa.n pa.c), (72, kyV key), (71, pt gm 0), (70, .bool false), (69, .bool false), (68, ni 32), (67, ni 0), (66, .slice dy 0 cy), (65, ni 32), (64, sc rq11.g 0 32 rq11.cap), (63, .bool false), (62, .bool false), (61, .bool false), (60, ni (nx + 32)), (59, ni nx), (58, sc gx ox nx cx), (57, ni (nx + 32)), (56, sc rq9.g 0 (nx + 32) rq9.cap), (55, .bool false), (54, .bool false), (53, .bool false), (52, ni 0), (51, .bool false), (50, .bool false), (49, ni 0), (14, ni 0), (13, sc rq11.g 0 32 rq11.cap), (48, ni 0), (47, sc rq11.g 0 32 rq11.cap), (41, .tuple #[sc rq11.g 0 32 rq11.cap, ni 0]), (46, .tuple #[sc rq11.g 0 32 rq11.cap, ni 0]), (45, .slice dy 0 cy), (44, .slice pa.ad pa.n pa.c), (43, kyV key), (42, pt gm 0), (12, ni 0), (11, sc rq9.g 0 (nx + 32) rq9.cap), (40, ni 0), (39, sc rq9.g 0 (nx + 32) rq9.cap), (33, .tuple #[sc rq9.g 0 (nx + 32) rq9.cap, ni 0]), (38, .tuple #[sc rq9.g 0 (nx + 32) rq9.cap, ni 0]), (37, sc gx ox nx cx), (36, .slice pa.ad pa.n pa.c), (35, kyV key), (34, pt gm 0), (10, pt gm 0), (32, pt gm 0), (30, .bool false), (29, .bool false), (28, ni 0), (27, .slice dy 0 cy), (26, .bool false), (25, .bool false), (24, .bool false), (23, ni nx), (22, sc gx ox nx cx), (21, .bool false), (20, .bool false), (19, ni pa.n), (18, .slice pa.ad pa.n pa.c), (9, .bool true), (17, .bool true), (8, .bool false), (4, pt aq2 0), (0, kyV key), (1, .slice pa.ad pa.n pa.c), (2, sc gx ox nx cx), (3, .slice dy 0 cy)] a := F.weak _ (subL_of kr)
  clear Q
  generalize β 8 = rq15 at F H
  generalize β 7 = rq16 at F H
  skip
  refine ?_
  refine hK14 _ _ ?_
  clear hK14
  try clear K14
  refine C_seqK (fun K17 hK17 => ?_)
  refine C_seqK (fun K18 hK18 => ?_)
  refine E_region F H (fun β => [(79, sc rq9.g 0 (nx + 32) rq9.cap), (80, sc gx ox nx cx), (81, ni nx), (82, sc rq9.g (0 + nx) 32 (rq9.cap - nx)), (83, kyV (tagP key pa.l (hidP key tl nx))), (84, sc ((β 5).g) 0 32 (β 5).cap), (85, .bool true), (86, .bool false)]) [79, 80, 81, 82, 83, 84, 85, 86] [⟨some 5, none, 0, [5], fun q_ => ce (sl (oct (kl (tagP key pa.l (hidP key tl nx)))) (gh q_ 0).rest) 5, fun q_ => ((Own (oct (kl (tagP key pa.l (hidP key tl nx)))) (gh q_ 0).rest (32) (gh q_ 0).cap 1) ∧ (gh q_ 0).g ≠ rq9.g), []⟩] [bk rq15.g (arrF .u8 32 (tagP key pa.l (hidP key tl nx))) 23, bk gm (mtr rq16.n) 91, bk rq11.g (sl (oct (boxP key pa.l [] 0)) rq11.rest) 5, bk rq9.g (sl (oct (boxP key pa.l tl nx)) rq9.rest) 5, bk aq2 (arrF .u8 32 key) 23] [0, 1, 2, 3, 4] 2 [] kr kr kr (fun β => rfl) ⟨fun h _ => Bool.noConfusion h, trivial⟩ ⟨?_, ?_, ?_, ?_, ?_, ?_, ?_, ?_, trivial⟩ ?_
  · exact E_k 119 (fun β => sc rq9.g 0 (nx + 32) rq9.cap) 79 2
  · exact E_k 119 (fun β => sc gx ox nx cx) 80 2
  · exact E_k 119 (fun β => ni nx) 81 2
  · exact E_v 119 (fun β => sc rq9.g (0 + nx) 32 (rq9.cap - nx)) 82 2 [] (fun β w hk hl hq => R_slice (x := (.tmp 79)) (lo := (some (.tmp 81))) (hi := none) rfl Tryd.underlying54 (ad := some ⟨rq9.g, 0, none⟩) (len := (nx + 32)) (cap := rq9.cap) kr (nx) ((nx + 32)) ⟨.i64, kr⟩ rfl (by omega) (by omega) (sz := 1) kr _ ((sliceAt (by omega)).trans (by rw [Nat.add_sub_cancel_left])) w)
  · exact E_v 119 (fun β => kyV (tagP key pa.l (hidP key tl nx))) 83 2 [] (fun β w hk hl hq => R_loadH hl (own := true) (g := rq15.g) (all := (arrF .u8 32 (tagP key pa.l (hidP key tl nx)))) (t := 23) (fr := (0, 0)) 0 kr 23 (.tmp 15) rfl 0 kr (arrF .u8 32 (tagP key pa.l (hidP key tl nx))) (part_all _) _ Tryd.underlying23 rfl (by rw [arrF_size]; kernel_rfl))
  · exact E_callS 119 kq (fun β => sc ((β 5).g) 0 32 (β 5).cap) 84 rfl kq 2 (fun β r => offAt2_of kr kr) 47 (fun β => #[kyV (tagP key pa.l (hidP key tl nx))]) (fun β w => kr) 2 [] 0 _ rfl kr kr rfl (fun β w hk hl hq => (bytesR_any (tagP key pa.l (hidP key tl nx)) _).mono (fun _ _ ⟨r, q1, q2, q3, q4, q5⟩ => ⟨r, q1, ⟨q2, fun e => absurd (heap_in (hl.at_ (k := 3) rfl)) (Nat.not_lt.2 (e ▸ q3))⟩, q3, q4, q5⟩))
  · exact E_call 119 kq (fun β => .bool true) 85 rfl kq 42 (fun β => #[sc rq9.g (0 + nx) 32 (rq9.cap - nx), sc ((β 5).g) 0 32 (β 5).cap]) (fun β w => kr) 2 [(0, 0)] kr rfl (fun β w hk hl hq => lsame_any ((boxP key pa.l tl nx).drop nx) (kl (tagP key pa.l (hidP key tl nx))) rq9.g (0 + nx) 32 (rq9.cap - nx) _ 5 (0, 0) (β 5).g 0 (β 5).cap _ 5 (0, 0) (fun j hj => by rw [dropD]; exact (congrArg (fun q => (sl (oct (boxP key pa.l tl nx)) _)[q]?) (show (0 + nx) + j = nx + j by omega)).trans (slC (by rw [boxP_len]; omega))) (slAt (kl_len _)) (by omega) true ⟨fun _ i hi => by rw [dropD, box_end _ _ _ _ hi, klD _ hi], fun _ => rfl⟩ _ (hl.at_ (k := 4) rfl) (hl.at_ (k := 0) rfl) (Ne.symm hq.1.1.2))
  · exact E_k 119 (fun β => .bool false) 86 2
  clear F H; intro β a v Q F H
  replace H : Hp [] w [bk ((β 5).g) (sl (oct (kl (tagP key pa.l (hidP key tl nx)))) (β 5).rest) 5, bk rq15.g (arrF .u8 32 (tagP key pa.l (hidP key tl nx))) 23, bk gm (mtr rq16.n) 91, bk rq11.g (sl (oct (boxP key pa.l [] 0)) rq11.rest) 5, bk rq9.g (sl (oct (boxP key pa.l tl nx)) rq9.rest) 5, bk aq2 (arrF .u8 32 key) 23] v := H
  replace F : Fm 119 [] [(86, .bool false), (85, .bool true), (84, sc ((β 5).g) 0 32 (β 5).cap), (83, kyV (tagP key pa.l (hidP key tl nx))), (82, sc rq9.g (0 + nx) 32 (rq9.cap - nx)), (81, ni nx), (80, sc gx ox nx cx), (79, sc rq9.g 0 (nx + 32) rq9.cap), (15, pt rq15.g 0), (78, kyV (tagP key pa.l (hidP key tl nx))), (77, sc rq9.g 0 nx rq9.cap), (76, ni nx), (75, sc gx ox nx cx), (74, sc rq9.g 0 (nx + 32) rq9.cap), (73, .slice pa.ad pa.n pa.c), (72, kyV key), (71, pt gm 0), (70, .bool false), (69, .bool false), (68, ni 32), (67, ni 0), (66, .slice dy 0 cy), (65, ni 32), (64, sc rq11.g 0 32 rq11.cap), (63, .bool false), (62, .bool false), (61, .bool false), (60, ni (nx + 32)), (59, ni nx), (58, sc gx ox nx cx), (57, ni (nx + 32)), (56, sc rq9.g 0 (nx + 32) rq9.cap), (55, .bool false), (54, .bool false), (53, .bool false), (52, ni 0), (51, .bool false), (50, .bool false), (49, ni 0), (14, ni 0), (13, sc rq11.g 0 32 rq11.cap), (48, ni 0), (47, sc rq11.g 0 32 rq11.cap), (41, .tuple #[sc rq11.g 0 32 rq11.cap, ni 0]), (46, .tuple #[sc rq11.g 0 32 rq11.cap, ni 0]), (45, .slice dy 0 cy), (44, .slice pa.ad pa.n pa.c), (43, kyV key), (42, pt gm 0), (12, ni 0), (11, sc rq9.g 0 (nx + 32) rq9.cap), (40, ni 0), (39, sc rq9.g 0 (nx + 32) rq9.cap), (33, .tuple #[sc rq9.g 0 (nx + 32) rq9.cap, ni 0]), (38, .tuple #[sc rq9.g 0 (nx + 32) rq9.cap, ni 0]), (37, sc gx ox nx cx), (36, .slice pa.ad pa.n pa.c), (35, kyV key), (34, pt gm 0), (10, pt gm 0), (32, pt gm 0), (30, .bool false), (29, .bool false), (28, ni 0), (27, .slice dy 0 cy), (26, .bool false), (25, .bool false), (24, .bool false), (23, ni nx), (22, sc gx ox nx cx), (21, .bool false), (20, .bool false), (19, ni pa.n), (18, .slice pa.ad pa.n pa.c), (9, .bool true), (17, .bool true), (8, .bool false), (4, pt aq2 0), (0, kyV key), (1, .slice pa.ad pa.n pa.c), (2, sc gx ox nx cx), (3, .slice dy 0 cy)] a := F.weak _ (subL_of kr)
  have Qh19_0 : ((Own (oct (kl (tagP key pa.l (hidP key tl nx)))) (β 5).rest (32) (β 5).cap 1) ∧ (β 5).g ≠ rq9.g) := Q.1
  clear Q
  generalize β 5 = rq19 at F H Qh19_0
  skip
  refine ?_
  refine hK18 _ _ ?_
  clear hK18
  try clear K18
  refine C_if F false rfl rfl ?_
  refine wp_skip ?_
  refine hK17 _ _ ?_
  clear hK17
  try clear K17
  refine C_seqK (fun K20 hK20 => ?_)
  refine C_seqK (fun K21 hK21 => ?_)
  refine C_region ?_
  refine T_k F H (ni 0) ?_
  clear F; intro a F
  refine wpList_nil ?_
  replace F : Fm 119 [] [(16, ni 0), (11, sc rq9.g 0 (nx + 32) rq9.cap), (13, sc rq11.g 0 32 rq11.cap), (2, sc gx ox nx cx), (3, .slice dy 0 cy), (9, .bool true)] a := F.weak _ (subL_of kr)
  replace H : Hp [] w [bk rq9.g (sl (oct (boxP key pa.l tl nx)) rq9.rest) 5, bk rq11.g (sl (oct (boxP key pa.l [] 0)) rq11.rest) 5] v := H.pick [4, 3] kr _ rfl
  refine hK21 _ _ ?_
  clear hK21
  try clear K21
  refine wp_block ?_
  refine C_loop (fun m a v => Fm 119 [] [(16, ni 0), (11, sc rq9.g 0 (nx + 32) rq9.cap), (13, sc rq11.g 0 32 rq11.cap), (2, sc gx ox nx cx), (3, .slice dy 0 cy), (9, .bool true)] a ∧ Hp [] w [bk rq9.g (sl (oct (boxP key pa.l tl nx)) rq9.rest) 5, bk rq11.g (sl (oct (boxP key pa.l [] 0)) rq11.rest) 5] v) 0 ⟨F, H⟩ ?_
  clear F H
  intro m a v ⟨F, H⟩
  refine C_seqK (fun K22 hK22 => ?_)
  refine C_seqK (fun K23 hK23 => ?_)
  refine C_region ?_
  refine T_k F H (ni 0) ?_
  clear F; intro a F
  refine T_k F H (sc gx ox nx cx) ?_
  clear F; intro a F
  refine T_k F H (ni nx) ?_
  clear F; intro a F
  refine T_val F H kr (.bool true) (fun w _ => R_bin (x := (.tmp 87)) (y := (.tmp 89)) rfl (k := .i64) (a := ((0 : Nat) : Int)) (b := ((nx : Nat) : Int)) kr kr (i_lt (by omega)) w) ?_
  clear F; intro a F
  refine T_k F H (.bool true) ?_
  clear F; intro a F
  refine T_k F H (ni 0) ?_
  clear F; intro a F
  refine T_k F H (.slice dy 0 cy) ?_
  clear F; intro a F
  refine T_k F H (ni 0) ?_
  clear F; intro a F
  refine T_k F H (.bool false) ?_
  clear F; intro a F
  refine T_k F H (.bool false) ?_
  clear F; intro a F
  refine wpList_nil ?_
  refine hK23 _ _ ?_
  clear hK23
  try clear K23
  refine C_if F false rfl rfl ?_
  refine wp_exit ?_
  refine hK20 _ _ ?_
  clear hK20
  try clear K20
  refine C_seqK (fun K24 hK24 => ?_)
  refine C_region ?_
  refine T_k F H (.bool true) ?_
  clear F; intro a F
  refine T_k F H (.bool true) ?_
  clear F; intro a F
  refine wpList_nil ?_
  refine hK24 _ _ ?_
  clear hK24
  try clear K24
  refine wp_ret ?_
  exact C_ret F H (rs := [.tmp 8]) rfl (vs := [.bool true]) (.tmp rfl .nil) (.bool true) rfl ⟨rfl, H.kept⟩

set_option maxRecDepth 100000 in
set_option maxHeartbeats 4000000 in
theorem se_le (key : Nat → Nat) (hkey : ∀ i, i < 32 → key i < 256) (pa : SlP) (hba : ∀ x ∈ pa.l, x < 256) (hna : pa.l.length = pa.n) (h1 : pa.n ≤ 200) (tl : List Nat) (htl : ∀ x ∈ tl, x < 256) (gx ox nx cx : Nat) (ax : Array Value) (tx : TypeId) (fx : Nat × Nat) (harx : ∀ j, j < nx → ax[ox + j]? = some (.int .u8 ((tl.getD j 0 : Nat) : Int))) (hlx : tl.length = nx) (hcx : nx ≤ cx) (hpx : 0 < nx) (h2 : nx ≤ 200) (ul : List Nat) (hul : ∀ x ∈ ul, x < 256) (gy oy ny cy : Nat) (ay : Array Value) (ty : TypeId) (fy : Nat × Nat) (hary : ∀ j, j < ny → ay[oy + j]? = some (.int .u8 ((ul.getD j 0 : Nat) : Int))) (hly : ul.length = ny) (hcy : ny ≤ cy) (hpy : 0 < ny) (h3 : ny ≤ 200) (hle : nx ≤ ny) (w : World) (hW : LaidS w) (hrda : RdK [] w pa) (hltx : gx < w.heap.size) (hgx : w.heap[gx]? = some (.cells ax tx fx)) (hlty : gy < w.heap.size) (hgy : w.heap[gy]? = some (.cells ay ty fy)) : Calls Tryd.prog 14 #[.agg (arrF .u8 32 key), .slice pa.ad pa.n pa.c, .slice (some ⟨gx, ox, none⟩) nx cx, .slice (some ⟨gy, oy, none⟩) ny cy] w fun e w' => e = .returned (.bool true) ∧ Kept [] w w' := by
  refine C_enter Tryd.func14 rfl 119 Tryd.ntmps14 (Nat.le_of_ble_eq_true rfl) (fun a F => ?_)
  have H := Hp.start [] w
  replace F : Fm 119 [] [(0, kyV key), (1, .slice pa.ad pa.n pa.c), (2, sc gx ox nx cx), (3, sc gy oy ny cy)] a := F.weak _ (subL_of kr)
  refine C_seqK (fun K1 hK1 => ?_)
  refine C_region ?_
  refine T_new F H kr (fun ad => pt ad 0) (ce (arrF .u8 32 key) 23) (fun w => kr) ?_
  clear F H; intro aq2 a v F H
  refine T_k F H (.bool false) ?_
  clear F; intro a F
  refine wpList_nil ?_
  refine hK1 _ _ ?_
  clear hK1
  try clear K1
  refine C_seqK (fun K3 hK3 => ?_)
  refine C_region ?_
  refine T_call F H kr 39 #[] (.bool true) (fun w => kr) (awake05_any _ (hW.keptS H.kept (fun _ _ => List.not_mem_nil))) ?_
  clear F H; intro a v F H
  refine T_k F H (.bool true) ?_
  clear F; intro a F
  refine wpList_nil ?_
  refine hK3 _ _ ?_
  clear hK3
  try clear K3
  refine C_seqK (fun K4 hK4 => ?_)
  refine C_seqK (fun K5 hK5 => ?_)
  refine C_region ?_
  refine T_k F H (.slice pa.ad pa.n pa.c) ?_
  clear F; intro a F
  refine T_k F H (ni pa.n) ?_
  clear F; intro a F
  refine T_val F H kr (.bool false) (fun w _ => R_bin (x := (.tmp 19)) (y := (.const (.int .i64 200))) rfl (k := .i64) (a := ((pa.n : Nat) : Int)) (b := ((200 : Nat) : Int)) kr kr (i_ngtn (by omega)) w) ?_
  clear F; intro a F
  refine T_k F H (.bool false) ?_
  clear F; intro a F
  refine T_k F H (sc gx ox nx cx) ?_
  clear F; intro a F
  refine T_k F H (ni nx) ?_
  clear F; intro a F
  refine T_val F H kr (.bool false) (fun w _ => R_bin (x := (.tmp 23)) (y := (.const (.int .i64 200))) rfl (k := .i64) (a := ((nx : Nat) : Int)) (b := ((200 : Nat) : Int)) kr kr (i_ngtn (by omega)) w) ?_
  clear F; intro a F
  refine T_k F H (.bool false) ?_
  clear F; intro a F
  refine T_k F H (.bool false) ?_
  clear F; intro a F
  refine T_k F H (sc gy oy ny cy) ?_
  clear F; intro a F
  refine T_k F H (ni ny) ?_
  clear F; intro a F
  refine T_val F H kr (.bool false) (fun w _ => R_bin (x := (.tmp 28)) (y := (.const (.int .i64 200))) rfl (k := .i64) (a := ((ny : Nat) : Int)) (b := ((200 : Nat) : Int)) kr kr (i_ngtn (by omega)) w) ?_
  clear F; intro a F
  refine T_k F H (.bool false) ?_
  clear F; intro a F
  refine wpList_nil ?_
  refine hK5 _ _ ?_
  clear hK5
  try clear K5
  refine C_if F false rfl rfl ?_
  refine wp_skip ?_
  refine hK4 _ _ ?_
  clear hK4
  try clear K4
  refine C_seqK (fun K6 hK6 => ?_)
  refine C_region ?_
  refine T_callX (α := SlR) F H kr 18 #[.bool false] (fun rX => pt rX.g 0) (fun rX => [bk rX.g (mtr 0) 91, bk aq2 (arrF .u8 32 key) 23]) (fun rX => True) (fun w => kr) (fun w H => callsX_newV H (newM_any _)) ?_
  clear F H; intro rq7 a v Qrq7 F H
  refine T_k F H (pt rq7.g 0) ?_
  clear F; intro a F
  refine wpList_nil ?_
  generalize rq7.g = gm at F H
  refine hK6 _ _ ?_
  clear hK6
  try clear K6
  refine C_seqK (fun K8 hK8 => ?_)
  have hov_gm : w.heap.size ≤ gm := (H.own _ (List.mem_of_getElem? (i := 0) rfl) rfl).resolve_right List.not_mem_nil
  have hovs : ∀ x ∈ [gm], w.heap.size ≤ x := fun x hx => by rw [List.mem_singleton.1 hx]; exact hov_gm
  refine C_region ?_
  refine T_k F H (pt gm 0) ?_
  clear F; intro a F
  refine T_val F H kr (kyV key) (R_load (own := true) (g := aq2) (all := (arrF .u8 32 key)) (t := 23) (fr := (0, 0)) 1 kr 23 (.tmp 4) rfl 0 kr (arrF .u8 32 key) (part_all _) _ Tryd.underlying23 rfl (by rw [arrF_size]; kernel_rfl)) ?_
  clear F; intro a F
  refine T_k F H (.slice pa.ad pa.n pa.c) ?_
  clear F; intro a F
  refine T_k F H (sc gx ox nx cx) ?_
  clear F; intro a F
  refine T_callX (α := SlR) F H kr 43 #[pt gm 0, kyV key, .slice pa.ad pa.n pa.c, sc gx ox nx cx] (fun rX => .tuple #[sc rX.g 0 (nx + 32) rX.cap, ni 0]) (fun rX => [bk rX.g (sl (oct (boxP key pa.l tl nx)) rX.rest) 5, bk gm (mtr rX.n) 91, bk aq2 (arrF .u8 32 key) 23]) (fun rX => (True) ∧ (Own (oct (boxP key pa.l tl nx)) rX.rest (nx + 32) rX.cap 1)) (fun w => kr) (fun w H => callsX_bothV H (k := 0) rfl (seal_some gm 0 key hkey pa hba hna (by omega) tl htl gx ox nx cx ax tx fx harx hpx (by omega) hcx (fun e => Nat.not_lt.2 (by rw [e]; exact hov_gm) hltx) _ (hW.keptS H.kept (fun _ _ => List.not_mem_nil)) (H.at_ (k := 0) rfl) (hrda.step1 H (k := 0) rfl) ((H.kept.block gx hltx List.not_mem_nil).trans hgx))) ?_
  clear F H; intro rq9 a v Qrq9 F H
  refine T_k F H (.tuple #[sc rq9.g 0 (nx + 32) rq9.cap, ni 0]) ?_
  clear F; intro a F
  refine T_k F H (sc rq9.g 0 (nx + 32) rq9.cap) ?_
  clear F; intro a F
  refine T_k F H (ni 0) ?_
  clear F; intro a F
  refine T_k F H (sc rq9.g 0 (nx + 32) rq9.cap) ?_
  clear F; intro a F
  refine T_k F H (ni 0) ?_
  clear F; intro a F
  refine wpList_nil ?_
  refine hK8 _ _ ?_
  clear hK8
  try clear K8
  refine C_seqK (fun K10 hK10 => ?_)
  refine C_region ?_
  refine T_k F H (pt gm 0) ?_
  clear F; intro a F
  refine T_val F H kr (kyV key) (R_load (own := true) (g := aq2) (all := (arrF .u8 32 key)) (t := 23) (fr := (0, 0)) 2 kr 23 (.tmp 4) rfl 0 kr (arrF .u8 32 key) (part_all _) _ Tryd.underlying23 rfl (by rw [arrF_size]; kernel_rfl)) ?_
  clear F; intro a F
  refine T_k F H (.slice pa.ad pa.n pa.c) ?_
  clear F; intro a F
  refine T_k F H (sc gy oy ny cy) ?_
  clear F; intro a F
  refine T_callX (α := SlR) F H kr 43 #[pt gm 0, kyV key, .slice pa.ad pa.n pa.c, sc gy oy ny cy] (fun rX => .tuple #[sc rX.g 0 (ny + 32) rX.cap, ni 0]) (fun rX => [bk rX.g (sl (oct (boxP key pa.l ul ny)) rX.rest) 5, bk rq9.g (sl (oct (boxP key pa.l tl nx)) rq9.rest) 5, bk gm (mtr rX.n) 91, bk aq2 (arrF .u8 32 key) 23]) (fun rX => (True) ∧ (Own (oct (boxP key pa.l ul ny)) rX.rest (ny + 32) rX.cap 1)) (fun w => kr) (fun w H => callsX_bothV H (k := 1) rfl (seal_some gm rq9.n key hkey pa hba hna (by omega) ul hul gy oy ny cy ay ty fy hary hpy (by omega) hcy (fun e => Nat.not_lt.2 (by rw [e]; exact hov_gm) hlty) _ (hW.keptS H.kept (fun _ _ => List.not_mem_nil)) (H.at_ (k := 1) rfl) (hrda.step1 H (k := 1) rfl) ((H.kept.block gy hlty List.not_mem_nil).trans hgy))) ?_
  clear F H; intro rq11 a v Qrq11 F H
  refine T_k F H (.tuple #[sc rq11.g 0 (ny + 32) rq11.cap, ni 0]) ?_
  clear F; intro a F
  refine T_k F H (sc rq11.g 0 (ny + 32) rq11.cap) ?_
  clear F; intro a F
  refine T_k F H (ni 0) ?_
  clear F; intro a F
  refine T_k F H (sc rq11.g 0 (ny + 32) rq11.cap) ?_
  clear F; intro a F
  refine T_k F H (ni 0) ?_
  clear F; intro a F
  refine wpList_nil ?_
  refine hK10 _ _ ?_
  clear hK10
  try clear K10
  refine C_seqK (fun K12 hK12 => ?_)
  refine C_seqK (fun K13 hK13 => ?_)
  refine C_region ?_
  refine T_k F H (ni 0) ?_
  clear F; intro a F
  refine T_k F H (.bool false) ?_
  clear F; intro a F
  refine T_k F H (.bool false) ?_
  clear F; intro a F
  refine T_k F H (ni 0) ?_
  clear F; intro a F
  refine T_k F H (.bool false) ?_
  clear F; intro a F
  refine T_k F H (.bool false) ?_
  clear F; intro a F
  refine T_k F H (.bool false) ?_
  clear F; intro a F
  refine T_k F H (sc rq9.g 0 (nx + 32) rq9.cap) ?_
  clear F; intro a F
  refine T_k F H (ni (nx + 32)) ?_
  clear F; intro a F
  refine T_k F H (sc gx ox nx cx) ?_
  clear F; intro a F
  refine T_k F H (ni nx) ?_
  clear F; intro a F
  refine T_val F H kr (ni (nx + 32)) (fun w _ => R_bin (x := (.tmp 59)) (y := (.const (.int .i64 32))) rfl (k := .i64) (a := ((nx : Nat) : Int)) (b := ((32 : Nat) : Int)) kr kr (i_addn64 (a := nx) (b := 32) (by omega)) w) ?_
  clear F; intro a F
  refine T_val F H kr (.bool false) (fun w _ => R_bin (x := (.tmp 57)) (y := (.tmp 60)) rfl (k := .i64) (a := (((nx + 32) : Nat) : Int)) (b := (((nx + 32) : Nat) : Int)) kr kr (i_nesm rfl) w) ?_
  clear F; intro a F
  refine T_k F H (.bool false) ?_
  clear F; intro a F
  refine T_k F H (.bool false) ?_
  clear F; intro a F
  refine T_k F H (sc rq11.g 0 (ny + 32) rq11.cap) ?_
  clear F; intro a F
  refine T_k F H (ni (ny + 32)) ?_
  clear F; intro a F
  refine T_k F H (sc gy oy ny cy) ?_
  clear F; intro a F
  refine T_k F H (ni ny) ?_
  clear F; intro a F
  refine T_val F H kr (ni (ny + 32)) (fun w _ => R_bin (x := (.tmp 67)) (y := (.const (.int .i64 32))) rfl (k := .i64) (a := ((ny : Nat) : Int)) (b := ((32 : Nat) : Int)) kr kr (i_addn64 (a := ny) (b := 32) (by omega)) w) ?_
  clear F; intro a F
  refine T_val F H kr (.bool false) (fun w _ => R_bin (x := (.tmp 65)) (y := (.tmp 68)) rfl (k := .i64) (a := (((ny + 32) : Nat) : Int)) (b := (((ny + 32) : Nat) : Int)) kr kr (i_nesm rfl) w) ?_
  clear F; intro a F
  refine T_k F H (.bool false) ?_
  clear F; intro a F
  refine wpList_nil ?_
  refine hK13 _ _ ?_
  clear hK13
  try clear K13
  refine C_if F false rfl rfl ?_
  refine wp_skip ?_
  refine hK12 _ _ ?_
  clear hK12
  try clear K12
  refine C_seqK (fun K14 hK14 => ?_)
  have hab : rq9.g ≠ gm := H.apart (i := 1) (j := 2) rfl rfl (by decide)
  have hcap : nx + 32 ≤ rq9.cap := Qrq9.2.le
  refine E_region F H (fun β => [(71, pt gm 0), (72, kyV key), (73, .slice pa.ad pa.n pa.c), (74, sc rq9.g 0 (nx + 32) rq9.cap), (75, sc gx ox nx cx), (76, ni nx), (77, sc rq9.g 0 nx rq9.cap), (78, kyV (tagP key pa.l (hidP key tl nx))), (15, pt ((β 8).g) 0)]) [71, 72, 73, 74, 75, 76, 77, 78, 15] [⟨some 8, none, 0, [], fun q_ => ce z8 23, gT, [⟨9, [], fun q_ => ce (arrF .u8 32 (tagP key pa.l (hidP key tl nx))) 23, gT⟩]⟩,
    ⟨none, none, gm, [], fun q_ => ce (mtr rq11.n) 91, gT, [⟨7, [7], fun q_ => ce (mtr (gh q_ 0).n) 91, gT⟩]⟩] [bk rq11.g (sl (oct (boxP key pa.l ul ny)) rq11.rest) 5, bk rq9.g (sl (oct (boxP key pa.l tl nx)) rq9.rest) 5, bk aq2 (arrF .u8 32 key) 23] [2, 0, 1, 3] 2 [] kr kr kr (fun β => rfl) ⟨fun h _ => Bool.noConfusion h, ⟨fun _ _ => trivial, trivial⟩⟩ ⟨?_, ?_, ?_, ?_, ?_, ?_, ?_, ?_, ?_, ?_, trivial⟩ ?_
  · exact E_k 119 (fun β => pt gm 0) 71 2
  · exact E_v 119 (fun β => kyV key) 72 2 [] (fun β w hk hl hq => R_loadH hl (own := true) (g := aq2) (all := (arrF .u8 32 key)) (t := 23) (fr := (0, 0)) 2 kr 23 (.tmp 4) rfl 0 kr (arrF .u8 32 key) (part_all _) _ Tryd.underlying23 rfl (by rw [arrF_size]; kernel_rfl))
  · exact E_k 119 (fun β => .slice pa.ad pa.n pa.c) 73 2
  · exact E_k 119 (fun β => sc rq9.g 0 (nx + 32) rq9.cap) 74 2
  · exact E_k 119 (fun β => sc gx ox nx cx) 75 2
  · exact E_k 119 (fun β => ni nx) 76 2
  · exact E_v 119 (fun β => sc rq9.g 0 nx rq9.cap) 77 2 [] (fun β w hk hl hq => R_slice (x := (.tmp 74)) (lo := none) (hi := (some (.tmp 76))) rfl Tryd.underlying54 (ad := some ⟨rq9.g, 0, none⟩) (len := (nx + 32)) (cap := rq9.cap) kr (0) (nx) rfl ⟨.i64, kr⟩ (Nat.zero_le _) (by omega) (sz := 1) kr _ slice0 w)
  · exact E_callP 119 kq (fun β => kyV (tagP key pa.l (hidP key tl nx))) 78 rfl kq 2 (fun β r => offAt2_of kr kr) 45 (fun β => #[pt gm 0, kyV key, .slice pa.ad pa.n pa.c, sc rq9.g 0 nx rq9.cap]) (fun β w => kr) 2 [] 1 0 _ _ rfl rfl kr kr rfl (fun β w hk hl hq hm => tag_any gm rq11.n key hkey pa ⟨some ⟨rq9.g, 0, none⟩, nx, rq9.cap, (hidP key tl nx)⟩ hba hna (by omega) (hidP_lt key htl _) (hidP_len _ _ _) (by show nx ≤ 4000; omega) _ (hW.keptS hk (fun _ _ => List.not_mem_nil)) hm (hrda.from hk hovs) (by have h := RdK.row (X := [gm]) (m := nx) (c := rq9.cap) (hl.at_ (k := 1) rfl) (boxP_len key pa.l tl nx) (slAt (boxP_len _ _ _ _)) (by omega) (by omega) (fun h => hab (List.mem_singleton.1 h)); rw [box_take] at h; exact h))
  · exact E_new 119 kq (fun β => pt ((β 8).g) 0) 15 rfl kq 2 (fun β r => offAt2_of kr kr) 2 [] 0 _ rfl kr kr rfl (fun β w hk hl hq => ⟨⟨w.heap.size, 0, [], 0⟩, _, (show (execOp _ _).run _ w = .ok (.value (pt w.heap.size 0)) (w.alloc (ce z8 23)) from kr), trivial, Nat.le_refl _, heap_alloc_new _ _, Kept.alloc _ _⟩)
  · exact E_store 119 kq rfl 2 [] 0 0 _ _ rfl rfl kr rfl (fun _ => trivial) (fun β w hk hl hq hm => let ⟨w', h1, h2, h3⟩ := P_row (cs := (arrF .u8 32 (tagP key pa.l (hidP key tl nx)))) (old := z8) rfl rfl (ty := 23) (x := (.tmp 15)) (y := (.tmp 78)) rfl kr kr (by rw [arrF_size]; kernel_rfl) (by rw [arrF_size]; kernel_rfl) (arrF_one _ _ _) hm; ⟨w', h1, h2, h3⟩)
  clear F H; intro β a v Q F H
  replace H : Hp [] w [bk ((β 8).g) (arrF .u8 32 (tagP key pa.l (hidP key tl nx))) 23, bk gm (mtr (β 7).n) 91, bk rq11.g (sl (oct (boxP key pa.l ul ny)) rq11.rest) 5, bk rq9.g (sl (oct (boxP key pa.l tl nx)) rq9.rest) 5, bk aq2 (arrF .u8 32 key) 23] v := H
  replace F : Fm 119 [] [(15, pt ((β 8).g) 0), (78, kyV (tagP key pa.l (hidP key tl nx))), (77, sc rq9.g 0 nx rq9.cap), (76, ni nx), (75, sc gx ox nx cx), (74, sc rq9.g 0 (nx + 32) rq9.cap), (73, .slice pa.ad pa.n pa.c), (72, kyV key), (71, pt gm 0), (70, .bool false), (69, .bool false), (68, ni (ny + 32)), (67, ni ny), (66, sc gy oy ny cy), (65, ni (ny + 32)), (64, sc rq11.g 0 (ny + 32) rq11.cap), (63, .bool false), (62, .bool false), (61, .bool false), (60, ni (nx + 32)), (59, ni nx), (58, sc gx ox nx cx), (57, ni (nx + 32)), (56, sc rq9.g 0 (nx + 32) rq9.cap), (55, .bool false), (54, .bool false), (53, .bool false), (52, ni 0), (51, .bool false), (50, .bool false), (49, ni 0), (14, ni 0), (13, sc rq11.g 0 (ny + 32) rq11.cap), (48, ni 0), (47, sc rq11.g 0 (ny + 32) rq11.cap), (41, .tuple #[sc rq11.g 0 (ny + 32) rq11.cap, ni 0]), (46, .tuple #[sc rq11.g 0 (ny + 32) rq11.cap, ni 0]), (45, sc gy oy ny cy), (44, .slice pa.ad pa.n pa.c), (43, kyV key), (42, pt gm 0), (12, ni 0), (11, sc rq9.g 0 (nx + 32) rq9.cap), (40, ni 0), (39, sc rq9.g 0 (nx + 32) rq9.cap), (33, .tuple #[sc rq9.g 0 (nx + 32) rq9.cap, ni 0]), (38, .tuple #[sc rq9.g 0 (nx + 32) rq9.cap, ni 0]), (37, sc gx ox nx cx), (36, .slice pa.ad pa.n pa.c), (35, kyV key), (34, pt gm 0), (10, pt gm 0), (32, pt gm 0), (30, .bool false), (29, .bool false), (28, ni ny), (27, sc gy oy ny cy), (26, .bool false), (25, .bool false), (24, .bool false), (23, ni nx), (22, sc gx ox nx cx), (21, .bool false), (20, .bool false), (19, ni pa.n), (18, .slice pa.ad pa.n pa.c), (9, .bool true), (17, .bool true), (8, .bool false), (4, pt aq2 0), (0, kyV key), (1, .slice pa.ad pa.n pa.c), (2, sc gx ox nx cx), (3, sc gy oy ny cy)] a := F.weak _ (subL_of kr)
  clear Q
  generalize β 8 = rq15 at F H
  generalize β 7 = rq16 at F H
  skip
  refine ?_
  refine hK14 _ _ ?_
  clear hK14
  try clear K14
  refine C_seqK (fun K17 hK17 => ?_)
  refine C_seqK (fun K18 hK18 => ?_)
  refine E_region F H (fun β => [(79, sc rq9.g 0 (nx + 32) rq9.cap), (80, sc gx ox nx cx), (81, ni nx), (82, sc rq9.g (0 + nx) 32 (rq9.cap - nx)), (83, kyV (tagP key pa.l (hidP key tl nx))), (84, sc ((β 5).g) 0 32 (β 5).cap), (85, .bool true), (86, .bool false)]) [79, 80, 81, 82, 83, 84, 85, 86] [⟨some 5, none, 0, [5], fun q_ => ce (sl (oct (kl (tagP key pa.l (hidP key tl nx)))) (gh q_ 0).rest) 5, fun q_ => ((Own (oct (kl (tagP key pa.l (hidP key tl nx)))) (gh q_ 0).rest (32) (gh q_ 0).cap 1) ∧ (gh q_ 0).g ≠ rq9.g), []⟩] [bk rq15.g (arrF .u8 32 (tagP key pa.l (hidP key tl nx))) 23, bk gm (mtr rq16.n) 91, bk rq11.g (sl (oct (boxP key pa.l ul ny)) rq11.rest) 5, bk rq9.g (sl (oct (boxP key pa.l tl nx)) rq9.rest) 5, bk aq2 (arrF .u8 32 key) 23] [0, 1, 2, 3, 4] 2 [] kr kr kr (fun β => rfl) ⟨fun h _ => Bool.noConfusion h, trivial⟩ ⟨?_, ?_, ?_, ?_, ?_, ?_, ?_, ?_, trivial⟩ ?_
  · exact E_k 119 (fun β => sc rq9.g 0 (nx + 32) rq9.cap) 79 2
  · exact E_k 119 (fun β => sc gx ox nx cx) 80 2
  · exact E_k 119 (fun β => ni nx) 81 2
  · exact E_v 119 (fun β => sc rq9.g (0 + nx) 32 (rq9.cap - nx)) 82 2 [] (fun β w hk hl hq => R_slice (x := (.tmp 79)) (lo := (some (.tmp 81))) (hi := none) rfl Tryd.underlying54 (ad := some ⟨rq9.g, 0, none⟩) (len := (nx + 32)) (cap := rq9.cap) kr (nx) ((nx + 32)) ⟨.i64, kr⟩ rfl (by omega) (by omega) (sz := 1) kr _ ((sliceAt (by omega)).trans (by rw [Nat.add_sub_cancel_left])) w)
  · exact E_v 119 (fun β => kyV (tagP key pa.l (hidP key tl nx))) 83 2 [] (fun β w hk hl hq => R_loadH hl (own := true) (g := rq15.g) (all := (arrF .u8 32 (tagP key pa.l (hidP key tl nx)))) (t := 23) (fr := (0, 0)) 0 kr 23 (.tmp 15) rfl 0 kr (arrF .u8 32 (tagP key pa.l (hidP key tl nx))) (part_all _) _ Tryd.underlying23 rfl (by rw [arrF_size]; kernel_rfl))
  · exact E_callS 119 kq (fun β => sc ((β 5).g) 0 32 (β 5).cap) 84 rfl kq 2 (fun β r => offAt2_of kr kr) 47 (fun β => #[kyV (tagP key pa.l (hidP key tl nx))]) (fun β w => kr) 2 [] 0 _ rfl kr kr rfl (fun β w hk hl hq => (bytesR_any (tagP key pa.l (hidP key tl nx)) _).mono (fun _ _ ⟨r, q1, q2, q3, q4, q5⟩ => ⟨r, q1, ⟨q2, fun e => absurd (heap_in (hl.at_ (k := 3) rfl)) (Nat.not_lt.2 (e ▸ q3))⟩, q3, q4, q5⟩))
  · exact E_call 119 kq (fun β => .bool true) 85 rfl kq 42 (fun β => #[sc rq9.g (0 + nx) 32 (rq9.cap - nx), sc ((β 5).g) 0 32 (β 5).cap]) (fun β w => kr) 2 [(0, 0)] kr rfl (fun β w hk hl hq => lsame_any ((boxP key pa.l tl nx).drop nx) (kl (tagP key pa.l (hidP key tl nx))) rq9.g (0 + nx) 32 (rq9.cap - nx) _ 5 (0, 0) (β 5).g 0 (β 5).cap _ 5 (0, 0) (fun j hj => by rw [dropD]; exact (congrArg (fun q => (sl (oct (boxP key pa.l tl nx)) _)[q]?) (show (0 + nx) + j = nx + j by omega)).trans (slC (by rw [boxP_len]; omega))) (slAt (kl_len _)) (by omega) true ⟨fun _ i hi => by rw [dropD, box_end _ _ _ _ hi, klD _ hi], fun _ => rfl⟩ _ (hl.at_ (k := 4) rfl) (hl.at_ (k := 0) rfl) (Ne.symm hq.1.1.2))
  · exact E_k 119 (fun β => .bool false) 86 2
  clear F H; intro β a v Q F H
  replace H : Hp [] w [bk ((β 5).g) (sl (oct (kl (tagP key pa.l (hidP key tl nx)))) (β 5).rest) 5, bk rq15.g (arrF .u8 32 (tagP key pa.l (hidP key tl nx))) 23, bk gm (mtr rq16.n) 91, bk rq11.g (sl (oct (boxP key pa.l ul ny)) rq11.rest) 5, bk rq9.g (sl (oct (boxP key pa.l tl nx)) rq9.rest) 5, bk aq2 (arrF .u8 32 key) 23] v := H
  replace F : Fm 119 [] [(86, .bool false), (85, .bool true), (84, sc ((β 5).g) 0 32 (β 5).cap), (83, kyV (tagP key pa.l (hidP key tl nx))), (82, sc rq9.g (0 + nx) 32 (rq9.cap - nx)), (81, ni nx), (80, sc gx ox nx cx), (79, sc rq9.g 0 (nx + 32) rq9.cap), (15, pt rq15.g 0), (78, kyV (tagP key pa.l (hidP key tl nx))), (77, sc rq9.g 0 nx rq9.cap), (76, ni nx), (75, sc gx ox nx cx), (74, sc rq9.g 0 (nx + 32) rq9.cap), (73, .slice pa.ad pa.n pa.c), (72, kyV key), (71, pt gm 0), (70, .bool false), (69, .bool false), (68, ni (ny + 32)), (67, ni ny), (66, sc gy oy ny cy), (65, ni (ny + 32)), (64, sc rq11.g 0 (ny + 32) rq11.cap), (63, .bool false), (62, .bool false), (61, .bool false), (60, ni (nx + 32)), (59, ni nx), (58, sc gx ox nx cx), (57, ni (nx + 32)), (56, sc rq9.g 0 (nx + 32) rq9.cap), (55, .bool false), (54, .bool false), (53, .bool false), (52, ni 0), (51, .bool false), (50, .bool false), (49, ni 0), (14, ni 0), (13, sc rq11.g 0 (ny + 32) rq11.cap), (48, ni 0), (47, sc rq11.g 0 (ny + 32) rq11.cap), (41, .tuple #[sc rq11.g 0 (ny + 32) rq11.cap, ni 0]), (46, .tuple #[sc rq11.g 0 (ny + 32) rq11.cap, ni 0]), (45, sc gy oy ny cy), (44, .slice pa.ad pa.n pa.c), (43, kyV key), (42, pt gm 0), (12, ni 0), (11, sc rq9.g 0 (nx + 32) rq9.cap), (40, ni 0), (39, sc rq9.g 0 (nx + 32) rq9.cap), (33, .tuple #[sc rq9.g 0 (nx + 32) rq9.cap, ni 0]), (38, .tuple #[sc rq9.g 0 (nx + 32) rq9.cap, ni 0]), (37, sc gx ox nx cx), (36, .slice pa.ad pa.n pa.c), (35, kyV key), (34, pt gm 0), (10, pt gm 0), (32, pt gm 0), (30, .bool false), (29, .bool false), (28, ni ny), (27, sc gy oy ny cy), (26, .bool false), (25, .bool false), (24, .bool false), (23, ni nx), (22, sc gx ox nx cx), (21, .bool false), (20, .bool false), (19, ni pa.n), (18, .slice pa.ad pa.n pa.c), (9, .bool true), (17, .bool true), (8, .bool false), (4, pt aq2 0), (0, kyV key), (1, .slice pa.ad pa.n pa.c), (2, sc gx ox nx cx), (3, sc gy oy ny cy)] a := F.weak _ (subL_of kr)
  have Qh19_0 : ((Own (oct (kl (tagP key pa.l (hidP key tl nx)))) (β 5).rest (32) (β 5).cap 1) ∧ (β 5).g ≠ rq9.g) := Q.1
  clear Q
  generalize β 5 = rq19 at F H Qh19_0
  skip
  refine ?_
  refine hK18 _ _ ?_
  clear hK18
  try clear K18
  refine C_if F false rfl rfl ?_
  refine wp_skip ?_
  refine hK17 _ _ ?_
  clear hK17
  try clear K17
  refine C_seqK (fun K20 hK20 => ?_)
  refine C_seqK (fun K21 hK21 => ?_)
  refine C_region ?_
  refine T_k F H (ni 0) ?_
  clear F; intro a F
  refine wpList_nil ?_
  replace F : Fm 119 [] [(16, ni 0), (11, sc rq9.g 0 (nx + 32) rq9.cap), (13, sc rq11.g 0 (ny + 32) rq11.cap), (2, sc gx ox nx cx), (3, sc gy oy ny cy), (9, .bool true)] a := F.weak _ (subL_of kr)
  replace H : Hp [] w [bk rq9.g (sl (oct (boxP key pa.l tl nx)) rq9.rest) 5, bk rq11.g (sl (oct (boxP key pa.l ul ny)) rq11.rest) 5] v := H.pick [4, 3] kr _ rfl
  refine hK21 _ _ ?_
  clear hK21
  try clear K21
  refine wp_block ?_
  refine C_loop (fun m a v => ∃ k, k + m = nx ∧ Fm 119 [] [(16, ni k), (11, sc rq9.g 0 (nx + 32) rq9.cap), (13, sc rq11.g 0 (ny + 32) rq11.cap), (2, sc gx ox nx cx), (3, sc gy oy ny cy), (9, .bool true)] a ∧ Hp [] w [bk rq9.g (sl (oct (boxP key pa.l tl nx)) rq9.rest) 5, bk rq11.g (sl (oct (boxP key pa.l ul ny)) rq11.rest) 5] v) (nx) ⟨0, Nat.zero_add _, F, H⟩ ?_
  clear F H
  intro m a v ⟨k, hk, F, H⟩
  rcases m with _ | m
  rotate_left
  · skip
    have hm1 := getD_lt (boxP_lt key pa.l htl nx) k
    have hm2 := getD_lt (boxP_lt key pa.l hul ny) k
    have hm3 := getD_lt htl k
    have hm4 := getD_lt hul k
    refine C_seqK (fun K22 hK22 => ?_)
    refine C_seqK (fun K23 hK23 => ?_)
    refine C_region ?_
    refine T_k F H (ni k) ?_
    clear F; intro a F
    refine T_k F H (sc gx ox nx cx) ?_
    clear F; intro a F
    refine T_k F H (ni nx) ?_
    clear F; intro a F
    refine T_val F H kr (.bool true) (fun w _ => R_bin (x := (.tmp 87)) (y := (.tmp 89)) rfl (k := .i64) (a := ((k : Nat) : Int)) (b := ((nx : Nat) : Int)) kr kr (i_lt (by omega)) w) ?_
    clear F; intro a F
    refine T_k F H (.bool true) ?_
    clear F; intro a F
    refine T_k F H (ni k) ?_
    clear F; intro a F
    refine T_k F H (sc gy oy ny cy) ?_
    clear F; intro a F
    refine T_k F H (ni ny) ?_
    clear F; intro a F
    refine T_val F H kr (.bool true) (fun w _ => R_bin (x := (.tmp 92)) (y := (.tmp 94)) rfl (k := .i64) (a := ((k : Nat) : Int)) (b := ((ny : Nat) : Int)) kr kr (i_lt (by omega)) w) ?_
    clear F; intro a F
    refine T_k F H (.bool true) ?_
    clear F; intro a F
    refine wpList_nil ?_
    refine hK23 _ _ ?_
    clear hK23
    try clear K23
    refine C_if F true rfl rfl ?_
    refine wp_skip ?_
    refine hK22 _ _ ?_
    clear hK22
    try clear K22
    refine C_seqK (fun K24 hK24 => ?_)
    refine wp_block ?_
    refine C_seqK (fun K25 hK25 => ?_)
    refine E_region F H (fun β => [(99, sc rq9.g 0 (nx + 32) rq9.cap), (100, ni k), (101, pt rq9.g (0 + (k) * 1)), (102, nb ((boxP key pa.l tl nx).getD (k) 0)), (103, sc rq11.g 0 (ny + 32) rq11.cap), (104, ni k), (105, pt rq11.g (0 + (k) * 1)), (106, nb ((boxP key pa.l ul ny).getD (k) 0)), (107, nb ((boxP key pa.l tl nx).getD (k) 0 ^^^ (boxP key pa.l ul ny).getD (k) 0)), (108, sc gx ox nx cx), (109, ni k), (110, pt gx (ox + (k) * 1)), (111, nb (tl.getD k 0)), (112, sc gy oy ny cy), (113, ni k), (114, pt gy (oy + (k) * 1)), (115, nb (ul.getD k 0)), (116, nb (tl.getD k 0 ^^^ ul.getD k 0)), (117, .bool false)]) [99, 100, 101, 102, 103, 104, 105, 106, 107, 108, 109, 110, 111, 112, 113, 114, 115, 116, 117] [] [bk rq9.g (sl (oct (boxP key pa.l tl nx)) rq9.rest) 5, bk rq11.g (sl (oct (boxP key pa.l ul ny)) rq11.rest) 5] [0, 1] 2 [] kr kr kr (fun β => rfl) trivial ⟨?_, ?_, ?_, ?_, ?_, ?_, ?_, ?_, ?_, ?_, ?_, ?_, ?_, ?_, ?_, ?_, ?_, ?_, ?_, trivial⟩ ?_
    · exact E_k 119 (fun β => sc rq9.g 0 (nx + 32) rq9.cap) 99 2
    · exact E_k 119 (fun β => ni k) 100 2
    · exact E_v 119 (fun β => pt rq9.g (0 + (k) * 1)) 101 2 [] (fun β w hk hl hq => R_indexS (k := .i64) (g := rq9.g) (off := 0) (len := (nx + 32)) (cap := rq9.cap) (x := (.tmp 99)) (y := (.tmp 100)) rfl Tryd.underlying54 kr (k) kr (by omega) (sz := 1) kr w)
    · exact E_v 119 (fun β => nb ((boxP key pa.l tl nx).getD (k) 0)) 102 2 [] (fun β w hk hl hq => R_cellH hl (own := true) (g := rq9.g) (all := (sl (oct (boxP key pa.l tl nx)) rq9.rest)) (t := 5) (fr := (0, 0)) 0 kr 5 (.tmp 101) rfl (0 + (k) * 1) kr (nb ((boxP key pa.l tl nx).getD (k) 0)) ((congrArg (fun q => ((sl (oct (boxP key pa.l tl nx)) rq9.rest))[q]?) (show (0 + (k) * 1) = k by omega)).trans (slC (by rw [boxP_len]; omega))) _ Tryd.underlying5 rfl)
    · exact E_k 119 (fun β => sc rq11.g 0 (ny + 32) rq11.cap) 103 2
    · exact E_k 119 (fun β => ni k) 104 2
    · exact E_v 119 (fun β => pt rq11.g (0 + (k) * 1)) 105 2 [] (fun β w hk hl hq => R_indexS (k := .i64) (g := rq11.g) (off := 0) (len := (ny + 32)) (cap := rq11.cap) (x := (.tmp 103)) (y := (.tmp 104)) rfl Tryd.underlying54 kr (k) kr (by omega) (sz := 1) kr w)
    · exact E_v 119 (fun β => nb ((boxP key pa.l ul ny).getD (k) 0)) 106 2 [] (fun β w hk hl hq => R_cellH hl (own := true) (g := rq11.g) (all := (sl (oct (boxP key pa.l ul ny)) rq11.rest)) (t := 5) (fr := (0, 0)) 1 kr 5 (.tmp 105) rfl (0 + (k) * 1) kr (nb ((boxP key pa.l ul ny).getD (k) 0)) ((congrArg (fun q => ((sl (oct (boxP key pa.l ul ny)) rq11.rest))[q]?) (show (0 + (k) * 1) = k by omega)).trans (slC (by rw [boxP_len]; omega))) _ Tryd.underlying5 rfl)
    · exact E_v 119 (fun β => nb ((boxP key pa.l tl nx).getD (k) 0 ^^^ (boxP key pa.l ul ny).getD (k) 0)) 107 2 [] (fun β w hk hl hq => R_bin (x := (.tmp 102)) (y := (.tmp 106)) rfl (k := .u8) (a := (((boxP key pa.l tl nx).getD (k) 0 : Nat) : Int)) (b := (((boxP key pa.l ul ny).getD (k) 0 : Nat) : Int)) kr kr (i_xor8 (a := (boxP key pa.l tl nx).getD (k) 0) (b := (boxP key pa.l ul ny).getD (k) 0) (by omega) (by omega)) w)
    · exact E_k 119 (fun β => sc gx ox nx cx) 108 2
    · exact E_k 119 (fun β => ni k) 109 2
    · exact E_v 119 (fun β => pt gx (ox + (k) * 1)) 110 2 [] (fun β w hk hl hq => R_indexS (k := .i64) (g := gx) (off := ox) (len := nx) (cap := cx) (x := (.tmp 108)) (y := (.tmp 109)) rfl Tryd.underlying54 kr (k) kr (by omega) (sz := 1) kr w)
    · exact E_v 119 (fun β => nb (tl.getD k 0)) 111 2 [] (fun β w hk hl hq => R_cellH (show HeldL [⟨false, gx, .cells ax tx fx⟩] w from ⟨fun p hp => by rw [List.mem_singleton.1 hp]; exact (hk.block gx hltx List.not_mem_nil).trans hgx⟩) 0 rfl 5 (.tmp 110) rfl (ox + (k) * 1) kr (nb (tl.getD k 0)) ((congrArg (fun q => ax[q]?) (show (ox + (k) * 1) = ox + k by omega)).trans (harx k (by omega))) _ Tryd.underlying5 rfl)
    · exact E_k 119 (fun β => sc gy oy ny cy) 112 2
    · exact E_k 119 (fun β => ni k) 113 2
    · exact E_v 119 (fun β => pt gy (oy + (k) * 1)) 114 2 [] (fun β w hk hl hq => R_indexS (k := .i64) (g := gy) (off := oy) (len := ny) (cap := cy) (x := (.tmp 112)) (y := (.tmp 113)) rfl Tryd.underlying54 kr (k) kr (by omega) (sz := 1) kr w)
    · exact E_v 119 (fun β => nb (ul.getD k 0)) 115 2 [] (fun β w hk hl hq => R_cellH (show HeldL [⟨false, gy, .cells ay ty fy⟩] w from ⟨fun p hp => by rw [List.mem_singleton.1 hp]; exact (hk.block gy hlty List.not_mem_nil).trans hgy⟩) 0 rfl 5 (.tmp 114) rfl (oy + (k) * 1) kr (nb (ul.getD k 0)) ((congrArg (fun q => ay[q]?) (show (oy + (k) * 1) = oy + k by omega)).trans (hary k (by omega))) _ Tryd.underlying5 rfl)
    · exact E_v 119 (fun β => nb (tl.getD k 0 ^^^ ul.getD k 0)) 116 2 [] (fun β w hk hl hq => R_bin (x := (.tmp 111)) (y := (.tmp 115)) rfl (k := .u8) (a := ((tl.getD k 0 : Nat) : Int)) (b := ((ul.getD k 0 : Nat) : Int)) kr kr (i_xor8 (a := tl.getD k 0) (b := ul.getD k 0) (by omega) (by omega)) w)
    · exact E_v 119 (fun β => .bool false) 117 2 [] (fun β w hk hl hq => R_bin (x := (.tmp 107)) (y := (.tmp 116)) rfl (k := .u8) (a := ((((boxP key pa.l tl nx).getD (k) 0 ^^^ (boxP key pa.l ul ny).getD (k) 0) : Nat) : Int)) (b := (((tl.getD k 0 ^^^ ul.getD k 0) : Nat) : Int)) kr kr (i_nesm (box_xor key pa.l tl ul nx ny (by omega) (by omega))) w)
    clear F H; intro β a v Q F H
    replace H : Hp [] w [bk rq9.g (sl (oct (boxP key pa.l tl nx)) rq9.rest) 5, bk rq11.g (sl (oct (boxP key pa.l ul ny)) rq11.rest) 5] v := H
    replace F : Fm 119 [] [(117, .bool false), (116, nb (tl.getD k 0 ^^^ ul.getD k 0)), (115, nb (ul.getD k 0)), (114, pt gy (oy + (k) * 1)), (113, ni k), (112, sc gy oy ny cy), (111, nb (tl.getD k 0)), (110, pt gx (ox + (k) * 1)), (109, ni k), (108, sc gx ox nx cx), (107, nb ((boxP key pa.l tl nx).getD (k) 0 ^^^ (boxP key pa.l ul ny).getD (k) 0)), (106, nb ((boxP key pa.l ul ny).getD (k) 0)), (105, pt rq11.g (0 + (k) * 1)), (104, ni k), (103, sc rq11.g 0 (ny + 32) rq11.cap), (102, nb ((boxP key pa.l tl nx).getD (k) 0)), (101, pt rq9.g (0 + (k) * 1)), (100, ni k), (99, sc rq9.g 0 (nx + 32) rq9.cap), (96, .bool true), (95, .bool true), (94, ni ny), (93, sc gy oy ny cy), (92, ni k), (91, .bool true), (90, .bool true), (89, ni nx), (88, sc gx ox nx cx), (87, ni k), (16, ni k), (11, sc rq9.g 0 (nx + 32) rq9.cap), (13, sc rq11.g 0 (ny + 32) rq11.cap), (2, sc gx ox nx cx), (3, sc gy oy ny cy), (9, .bool true)] a := F.weak _ (subL_of kr)
    clear Q
    refine ?_
    refine hK25 _ _ ?_
    clear hK25
    try clear K25
    refine C_if F false rfl rfl ?_
    refine wp_skip ?_
    refine hK24 _ _ ?_
    clear hK24
    try clear K24
    refine C_region ?_
    refine T_k F H (ni k) ?_
    clear F; intro a F
    refine T_val F H kr (ni (k + 1)) (fun w _ => R_bin (x := (.tmp 97)) (y := (.const (.int .i64 1))) rfl (k := .i64) (a := ((k : Nat) : Int)) (b := ((1 : Nat) : Int)) kr kr (i_addn64 (a := k) (b := 1) (by omega)) w) ?_
    clear F; intro a F
    refine T_k F H (ni (k + 1)) ?_
    clear F; intro a F
    refine wpList_nil ?_
    replace F : Fm 119 [] [(16, ni (k + 1)), (11, sc rq9.g 0 (nx + 32) rq9.cap), (13, sc rq11.g 0 (ny + 32) rq11.cap), (2, sc gx ox nx cx), (3, sc gy oy ny cy), (9, .bool true)] a := F.weak _ (subL_of kr)
    replace H : Hp [] w [bk rq9.g (sl (oct (boxP key pa.l tl nx)) rq9.rest) 5, bk rq11.g (sl (oct (boxP key pa.l ul ny)) rq11.rest) 5] v := H
    exact ⟨m, Nat.lt_succ_self m, k + 1, by omega, F, H⟩
  have hkt : k = nx := by omega
  rw [hkt] at F
  clear hk
  refine C_seqK (fun K26 hK26 => ?_)
  refine C_seqK (fun K27 hK27 => ?_)
  refine C_region ?_
  refine T_k F H (ni nx) ?_
  clear F; intro a F
  refine T_k F H (sc gx ox nx cx) ?_
  clear F; intro a F
  refine T_k F H (ni nx) ?_
  clear F; intro a F
  refine T_val F H kr (.bool false) (fun w _ => R_bin (x := (.tmp 87)) (y := (.tmp 89)) rfl (k := .i64) (a := ((nx : Nat) : Int)) (b := ((nx : Nat) : Int)) kr kr (i_nlt (by omega)) w) ?_
  clear F; intro a F
  refine T_k F H (.bool false) ?_
  clear F; intro a F
  refine T_skip F kr kr ?_
  clear F; intro a F
  refine T_skip F kr kr ?_
  clear F; intro a F
  refine T_skip F kr kr ?_
  clear F; intro a F
  refine T_skip F kr kr ?_
  clear F; intro a F
  refine T_k F H (.bool false) ?_
  clear F; intro a F
  refine wpList_nil ?_
  refine hK27 _ _ ?_
  clear hK27
  try clear K27
  refine C_if F false rfl rfl ?_
  refine wp_exit ?_
  refine hK20 _ _ ?_
  clear hK20
  try clear K20
  refine C_seqK (fun K28 hK28 => ?_)
  refine C_region ?_
  refine T_k F H (.bool true) ?_
  clear F; intro a F
  refine T_k F H (.bool true) ?_
  clear F; intro a F
  refine wpList_nil ?_
  refine hK28 _ _ ?_
  clear hK28
  try clear K28
  refine wp_ret ?_
  exact C_ret F H (rs := [.tmp 8]) rfl (vs := [.bool true]) (.tmp rfl .nil) (.bool true) rfl ⟨rfl, H.kept⟩

set_option maxRecDepth 100000 in
set_option maxHeartbeats 4000000 in
theorem se_gt (key : Nat → Nat) (hkey : ∀ i, i < 32 → key i < 256) (pa : SlP) (hba : ∀ x ∈ pa.l, x < 256) (hna : pa.l.length = pa.n) (h1 : pa.n ≤ 200) (tl : List Nat) (htl : ∀ x ∈ tl, x < 256) (gx ox nx cx : Nat) (ax : Array Value) (tx : TypeId) (fx : Nat × Nat) (harx : ∀ j, j < nx → ax[ox + j]? = some (.int .u8 ((tl.getD j 0 : Nat) : Int))) (hlx : tl.length = nx) (hcx : nx ≤ cx) (hpx : 0 < nx) (h2 : nx ≤ 200) (ul : List Nat) (hul : ∀ x ∈ ul, x < 256) (gy oy ny cy : Nat) (ay : Array Value) (ty : TypeId) (fy : Nat × Nat) (hary : ∀ j, j < ny → ay[oy + j]? = some (.int .u8 ((ul.getD j 0 : Nat) : Int))) (hly : ul.length = ny) (hcy : ny ≤ cy) (hpy : 0 < ny) (h3 : ny ≤ 200) (hgt : ny < nx) (w : World) (hW : LaidS w) (hrda : RdK [] w pa) (hltx : gx < w.heap.size) (hgx : w.heap[gx]? = some (.cells ax tx fx)) (hlty : gy < w.heap.size) (hgy : w.heap[gy]? = some (.cells ay ty fy)) : Calls Tryd.prog 14 #[.agg (arrF .u8 32 key), .slice pa.ad pa.n pa.c, .slice (some ⟨gx, ox, none⟩) nx cx, .slice (some ⟨gy, oy, none⟩) ny cy] w fun e w' => e = .returned (.bool true) ∧ Kept [] w w' := by
  refine C_enter Tryd.func14 rfl 119 Tryd.ntmps14 (Nat.le_of_ble_eq_true rfl) (fun a F => ?_)
  have H := Hp.start [] w
  replace F : Fm 119 [] [(0, kyV key), (1, .slice pa.ad pa.n pa.c), (2, sc gx ox nx cx), (3, sc gy oy ny cy)] a := F.weak _ (subL_of kr)
  refine C_seqK (fun K1 hK1 => ?_)
  refine C_region ?_
  refine T_new F H kr (fun ad => pt ad 0) (ce (arrF .u8 32 key) 23) (fun w => kr) ?_
  clear F H; intro aq2 a v F H
  refine T_k F H (.bool false) ?_
  clear F; intro a F
  refine wpList_nil ?_
  refine hK1 _ _ ?_
  clear hK1
  try clear K1
  refine C_seqK (fun K3 hK3 => ?_)
  refine C_region ?_
  refine T_call F H kr 39 #[] (.bool true) (fun w => kr) (awake05_any _ (hW.keptS H.kept (fun _ _ => List.not_mem_nil))) ?_
  clear F H; intro a v F H
  refine T_k F H (.bool true) ?_
  clear F; intro a F
  refine wpList_nil ?_
  refine hK3 _ _ ?_
  clear hK3
  try clear K3
  refine C_seqK (fun K4 hK4 => ?_)
  refine C_seqK (fun K5 hK5 => ?_)
  refine C_region ?_
  refine T_k F H (.slice pa.ad pa.n pa.c) ?_
  clear F; intro a F
  refine T_k F H (ni pa.n) ?_
  clear F; intro a F
  refine T_val F H kr (.bool false) (fun w _ => R_bin (x := (.tmp 19)) (y := (.const (.int .i64 200))) rfl (k := .i64) (a := ((pa.n : Nat) : Int)) (b := ((200 : Nat) : Int)) kr kr (i_ngtn (by omega)) w) ?_
  clear F; intro a F
  refine T_k F H (.bool false) ?_
  clear F; intro a F
  refine T_k F H (sc gx ox nx cx) ?_
  clear F; intro a F
  refine T_k F H (ni nx) ?_
  clear F; intro a F
  refine T_val F H kr (.bool false) (fun w _ => R_bin (x := (.tmp 23)) (y := (.const (.int .i64 200))) rfl (k := .i64) (a := ((nx : Nat) : Int)) (b := ((200 : Nat) : Int)) kr kr (i_ngtn (by omega)) w) ?_
  clear F; intro a F
  refine T_k F H (.bool false) ?_
  clear F; intro a F
  refine T_k F H (.bool false) ?_
  clear F; intro a F
  refine T_k F H (sc gy oy ny cy) ?_
  clear F; intro a F
  refine T_k F H (ni ny) ?_
  clear F; intro a F
  refine T_val F H kr (.bool false) (fun w _ => R_bin (x := (.tmp 28)) (y := (.const (.int .i64 200))) rfl (k := .i64) (a := ((ny : Nat) : Int)) (b := ((200 : Nat) : Int)) kr kr (i_ngtn (by omega)) w) ?_
  clear F; intro a F
  refine T_k F H (.bool false) ?_
  clear F; intro a F
  refine wpList_nil ?_
  refine hK5 _ _ ?_
  clear hK5
  try clear K5
  refine C_if F false rfl rfl ?_
  refine wp_skip ?_
  refine hK4 _ _ ?_
  clear hK4
  try clear K4
  refine C_seqK (fun K6 hK6 => ?_)
  refine C_region ?_
  refine T_callX (α := SlR) F H kr 18 #[.bool false] (fun rX => pt rX.g 0) (fun rX => [bk rX.g (mtr 0) 91, bk aq2 (arrF .u8 32 key) 23]) (fun rX => True) (fun w => kr) (fun w H => callsX_newV H (newM_any _)) ?_
  clear F H; intro rq7 a v Qrq7 F H
  refine T_k F H (pt rq7.g 0) ?_
  clear F; intro a F
  refine wpList_nil ?_
  generalize rq7.g = gm at F H
  refine hK6 _ _ ?_
  clear hK6
  try clear K6
  refine C_seqK (fun K8 hK8 => ?_)
  have hov_gm : w.heap.size ≤ gm := (H.own _ (List.mem_of_getElem? (i := 0) rfl) rfl).resolve_right List.not_mem_nil
  have hovs : ∀ x ∈ [gm], w.heap.size ≤ x := fun x hx => by rw [List.mem_singleton.1 hx]; exact hov_gm
  refine C_region ?_
  refine T_k F H (pt gm 0) ?_
  clear F; intro a F
  refine T_val F H kr (kyV key) (R_load (own := true) (g := aq2) (all := (arrF .u8 32 key)) (t := 23) (fr := (0, 0)) 1 kr 23 (.tmp 4) rfl 0 kr (arrF .u8 32 key) (part_all _) _ Tryd.underlying23 rfl (by rw [arrF_size]; kernel_rfl)) ?_
  clear F; intro a F
  refine T_k F H (.slice pa.ad pa.n pa.c) ?_
  clear F; intro a F
  refine T_k F H (sc gx ox nx cx) ?_
  clear F; intro a F
  refine T_callX (α := SlR) F H kr 43 #[pt gm 0, kyV key, .slice pa.ad pa.n pa.c, sc gx ox nx cx] (fun rX => .tuple #[sc rX.g 0 (nx + 32) rX.cap, ni 0]) (fun rX => [bk rX.g (sl (oct (boxP key pa.l tl nx)) rX.rest) 5, bk gm (mtr rX.n) 91, bk aq2 (arrF .u8 32 key) 23]) (fun rX => (True) ∧ (Own (oct (boxP key pa.l tl nx)) rX.rest (nx + 32) rX.cap 1)) (fun w => kr) (fun w H => callsX_bothV H (k := 0) rfl (seal_some gm 0 key hkey pa hba hna (by omega) tl htl gx ox nx cx ax tx fx harx hpx (by omega) hcx (fun e => Nat.not_lt.2 (by rw [e]; exact hov_gm) hltx) _ (hW.keptS H.kept (fun _ _ => List.not_mem_nil)) (H.at_ (k := 0) rfl) (hrda.step1 H (k := 0) rfl) ((H.kept.block gx hltx List.not_mem_nil).trans hgx))) ?_
  clear F H; intro rq9 a v Qrq9 F H
  refine T_k F H (.tuple #[sc rq9.g 0 (nx + 32) rq9.cap, ni 0]) ?_
  clear F; intro a F
  refine T_k F H (sc rq9.g 0 (nx + 32) rq9.cap) ?_
  clear F; intro a F
  refine T_k F H (ni 0) ?_
  clear F; intro a F
  refine T_k F H (sc rq9.g 0 (nx + 32) rq9.cap) ?_
  clear F; intro a F
  refine T_k F H (ni 0) ?_
  clear F; intro a F
  refine wpList_nil ?_
  refine hK8 _ _ ?_
  clear hK8
  try clear K8
  refine C_seqK (fun K10 hK10 => ?_)
  refine C_region ?_
  refine T_k F H (pt gm 0) ?_
  clear F; intro a F
  refine T_val F H kr (kyV key) (R_load (own := true) (g := aq2) (all := (arrF .u8 32 key)) (t := 23) (fr := (0, 0)) 2 kr 23 (.tmp 4) rfl 0 kr (arrF .u8 32 key) (part_all _) _ Tryd.underlying23 rfl (by rw [arrF_size]; kernel_rfl)) ?_
  clear F; intro a F
  refine T_k F H (.slice pa.ad pa.n pa.c) ?_
  clear F; intro a F
  refine T_k F H (sc gy oy ny cy) ?_
  clear F; intro a F
  refine T_callX (α := SlR) F H kr 43 #[pt gm 0, kyV key, .slice pa.ad pa.n pa.c, sc gy oy ny cy] (fun rX => .tuple #[sc rX.g 0 (ny + 32) rX.cap, ni 0]) (fun rX => [bk rX.g (sl (oct (boxP key pa.l ul ny)) rX.rest) 5, bk rq9.g (sl (oct (boxP key pa.l tl nx)) rq9.rest) 5, bk gm (mtr rX.n) 91, bk aq2 (arrF .u8 32 key) 23]) (fun rX => (True) ∧ (Own (oct (boxP key pa.l ul ny)) rX.rest (ny + 32) rX.cap 1)) (fun w => kr) (fun w H => callsX_bothV H (k := 1) rfl (seal_some gm rq9.n key hkey pa hba hna (by omega) ul hul gy oy ny cy ay ty fy hary hpy (by omega) hcy (fun e => Nat.not_lt.2 (by rw [e]; exact hov_gm) hlty) _ (hW.keptS H.kept (fun _ _ => List.not_mem_nil)) (H.at_ (k := 1) rfl) (hrda.step1 H (k := 1) rfl) ((H.kept.block gy hlty List.not_mem_nil).trans hgy))) ?_
  clear F H; intro rq11 a v Qrq11 F H
  refine T_k F H (.tuple #[sc rq11.g 0 (ny + 32) rq11.cap, ni 0]) ?_
  clear F; intro a F
  refine T_k F H (sc rq11.g 0 (ny + 32) rq11.cap) ?_
  clear F; intro a F
  refine T_k F H (ni 0) ?_
  clear F; intro a F
  refine T_k F H (sc rq11.g 0 (ny + 32) rq11.cap) ?_
  clear F; intro a F
  refine T_k F H (ni 0) ?_
  clear F; intro a F
  refine wpList_nil ?_
  refine hK10 _ _ ?_
  clear hK10
  try clear K10
  refine C_seqK (fun K12 hK12 => ?_)
  refine C_seqK (fun K13 hK13 => ?_)
  refine C_region ?_
  refine T_k F H (ni 0) ?_
  clear F; intro a F
  refine T_k F H (.bool false) ?_
  clear F; intro a F
  refine T_k F H (.bool false) ?_
  clear F; intro a F
  refine T_k F H (ni 0) ?_
  clear F; intro a F
  refine T_k F H (.bool false) ?_
  clear F; intro a F
  refine T_k F H (.bool false) ?_
  clear F; intro a F
  refine T_k F H (.bool false) ?_
  clear F; intro a F
  refine T_k F H (sc rq9.g 0 (nx + 32) rq9.cap) ?_
  clear F; intro a F
  refine T_k F H (ni (nx + 32)) ?_
  clear F; intro a F
  refine T_k F H (sc gx ox nx cx) ?_
  clear F; intro a F
  refine T_k F H (ni nx) ?_
  clear F; intro a F
  refine T_val F H kr (ni (nx + 32)) (fun w _ => R_bin (x := (.tmp 59)) (y := (.const (.int .i64 32))) rfl (k := .i64) (a := ((nx : Nat) : Int)) (b := ((32 : Nat) : Int)) kr kr (i_addn64 (a := nx) (b := 32) (by omega)) w) ?_
  clear F; intro a F
  refine T_val F H kr (.bool false) (fun w _ => R_bin (x := (.tmp 57)) (y := (.tmp 60)) rfl (k := .i64) (a := (((nx + 32) : Nat) : Int)) (b := (((nx + 32) : Nat) : Int)) kr kr (i_nesm rfl) w) ?_
  clear F; intro a F
  refine T_k F H (.bool false) ?_
  clear F; intro a F
  refine T_k F H (.bool false) ?_
  clear F; intro a F
  refine T_k F H (sc rq11.g 0 (ny + 32) rq11.cap) ?_
  clear F; intro a F
  refine T_k F H (ni (ny + 32)) ?_
  clear F; intro a F
  refine T_k F H (sc gy oy ny cy) ?_
  clear F; intro a F
  refine T_k F H (ni ny) ?_
  clear F; intro a F
  refine T_val F H kr (ni (ny + 32)) (fun w _ => R_bin (x := (.tmp 67)) (y := (.const (.int .i64 32))) rfl (k := .i64) (a := ((ny : Nat) : Int)) (b := ((32 : Nat) : Int)) kr kr (i_addn64 (a := ny) (b := 32) (by omega)) w) ?_
  clear F; intro a F
  refine T_val F H kr (.bool false) (fun w _ => R_bin (x := (.tmp 65)) (y := (.tmp 68)) rfl (k := .i64) (a := (((ny + 32) : Nat) : Int)) (b := (((ny + 32) : Nat) : Int)) kr kr (i_nesm rfl) w) ?_
  clear F; intro a F
  refine T_k F H (.bool false) ?_
  clear F; intro a F
  refine wpList_nil ?_
  refine hK13 _ _ ?_
  clear hK13
  try clear K13
  refine C_if F false rfl rfl ?_
  refine wp_skip ?_
  refine hK12 _ _ ?_
  clear hK12
  try clear K12
  refine C_seqK (fun K14 hK14 => ?_)
  have hab : rq9.g ≠ gm := H.apart (i := 1) (j := 2) rfl rfl (by decide)
  have hcap : nx + 32 ≤ rq9.cap := Qrq9.2.le
  refine E_region F H (fun β => [(71, pt gm 0), (72, kyV key), (73, .slice pa.ad pa.n pa.c), (74, sc rq9.g 0 (nx + 32) rq9.cap), (75, sc gx ox nx cx), (76, ni nx), (77, sc rq9.g 0 nx rq9.cap), (78, kyV (tagP key pa.l (hidP key tl nx))), (15, pt ((β 8).g) 0)]) [71, 72, 73, 74, 75, 76, 77, 78, 15] [⟨some 8, none, 0, [], fun q_ => ce z8 23, gT, [⟨9, [], fun q_ => ce (arrF .u8 32 (tagP key pa.l (hidP key tl nx))) 23, gT⟩]⟩,
    ⟨none, none, gm, [], fun q_ => ce (mtr rq11.n) 91, gT, [⟨7, [7], fun q_ => ce (mtr (gh q_ 0).n) 91, gT⟩]⟩] [bk rq11.g (sl (oct (boxP key pa.l ul ny)) rq11.rest) 5, bk rq9.g (sl (oct (boxP key pa.l tl nx)) rq9.rest) 5, bk aq2 (arrF .u8 32 key) 23] [2, 0, 1, 3] 2 [] kr kr kr (fun β => rfl) ⟨fun h _ => Bool.noConfusion h, ⟨fun _ _ => trivial, trivial⟩⟩ ⟨?_, ?_, ?_, ?_, ?_, ?_, ?_, ?_, ?_, ?_, trivial⟩ ?_
  · exact E_k 119 (fun β => pt gm 0) 71 2
  · exact E_v 119 (fun β => kyV key) 72 2 [] (fun β w hk hl hq => R_loadH hl (own := true) (g := aq2) (all := (arrF .u8 32 key)) (t := 23) (fr := (0, 0)) 2 kr 23 (.tmp 4) rfl 0 kr (arrF .u8 32 key) (part_all _) _ Tryd.underlying23 rfl (by rw [arrF_size]; kernel_rfl))
  · exact E_k 119 (fun β => .slice pa.ad pa.n pa.c) 73 2
  · exact E_k 119 (fun β => sc rq9.g 0 (nx + 32) rq9.cap) 74 2
  · exact E_k 119 (fun β => sc gx ox nx cx) 75 2
  · exact E_k 119 (fun β => ni nx) 76 2
  · exact E_v 119 (fun β => sc rq9.g 0 nx rq9.cap) 77 2 [] (fun β w hk hl hq => R_slice (x := (.tmp 74)) (lo := none) (hi := (some (.tmp 76))) rfl Tryd.underlying54 (ad := some ⟨rq9.g, 0, none⟩) (len := (nx + 32)) (cap := rq9.cap) kr (0) (nx) rfl ⟨.i64, kr⟩ (Nat.zero_le _) (by omega) (sz := 1) kr _ slice0 w)
  · exact E_callP 119 kq (fun β => kyV (tagP key pa.l (hidP key tl nx))) 78 rfl kq 2 (fun β r => offAt2_of kr kr) 45 (fun β => #[pt gm 0, kyV key, .slice pa.ad pa.n pa.c, sc rq9.g 0 nx rq9.cap]) (fun β w => kr) 2 [] 1 0 _ _ rfl rfl kr kr rfl (fun β w hk hl hq hm => tag_any gm rq11.n key hkey pa ⟨some ⟨rq9.g, 0, none⟩, nx, rq9.cap, (hidP key tl nx)⟩ hba hna (by omega) (hidP_lt key htl _) (hidP_len _ _ _) (by show nx ≤ 4000; omega) _ (hW.keptS hk (fun _ _ => List.not_mem_nil)) hm (hrda.from hk hovs) (by have h := RdK.row (X := [gm]) (m := nx) (c := rq9.cap) (hl.at_ (k := 1) rfl) (boxP_len key pa.l tl nx) (slAt (boxP_len _ _ _ _)) (by omega) (by omega) (fun h => hab (List.mem_singleton.1 h)); rw [box_take] at h; exact h))
  · exact E_new 119 kq (fun β => pt ((β 8).g) 0) 15 rfl kq 2 (fun β r => offAt2_of kr kr) 2 [] 0 _ rfl kr kr rfl (fun β w hk hl hq => ⟨⟨w.heap.size, 0, [], 0⟩, _, (show (execOp _ _).run _ w = .ok (.value (pt w.heap.size 0)) (w.alloc (ce z8 23)) from kr), trivial, Nat.le_refl _, heap_alloc_new _ _, Kept.alloc _ _⟩)
  · exact E_store 119 kq rfl 2 [] 0 0 _ _ rfl rfl kr rfl (fun _ => trivial) (fun β w hk hl hq hm => let ⟨w', h1, h2, h3⟩ := P_row (cs := (arrF .u8 32 (tagP key pa.l (hidP key tl nx)))) (old := z8) rfl rfl (ty := 23) (x := (.tmp 15)) (y := (.tmp 78)) rfl kr kr (by rw [arrF_size]; kernel_rfl) (by rw [arrF_size]; kernel_rfl) (arrF_one _ _ _) hm; ⟨w', h1, h2, h3⟩)
  clear F H; intro β a v Q F H
  replace H : Hp [] w [bk ((β 8).g) (arrF .u8 32 (tagP key pa.l (hidP key tl nx))) 23, bk gm (mtr (β 7).n) 91, bk rq11.g (sl (oct (boxP key pa.l ul ny)) rq11.rest) 5, bk rq9.g (sl (oct (boxP key pa.l tl nx)) rq9.rest) 5, bk aq2 (arrF .u8 32 key) 23] v := H
  replace F : Fm 119 [] [(15, pt ((β 8).g) 0), (78, kyV (tagP key pa.l (hidP key tl nx))), (77, sc rq9.g 0 nx rq9.cap), (76, ni nx), (75, sc gx ox nx cx), (74, sc rq9.g 0 (nx + 32) rq9.cap), (73, .slice pa.ad pa.n pa.c), (72, kyV key), (71, pt gm 0), (70, .bool false), (69, .bool false), (68, ni (ny + 32)), (67, ni ny), (66, sc gy oy ny cy), (65, ni (ny + 32)), (64, sc rq11.g 0 (ny + 32) rq11.cap), (63, .bool false), (62, .bool false), (61, .bool false), (60, ni (nx + 32)), (59, ni nx), (58, sc gx ox nx cx), (57, ni (nx + 32)), (56, sc rq9.g 0 (nx + 32) rq9.cap), (55, .bool false), (54, .bool false), (53, .bool false), (52, ni 0), (51, .bool false), (50, .bool false), (49, ni 0), (14, ni 0), (13, sc rq11.g 0 (ny + 32) rq11.cap), (48, ni 0), (47, sc rq11.g 0 (ny + 32) rq11.cap), (41, .tuple #[sc rq11.g 0 (ny + 32) rq11.cap, ni 0]), (46, .tuple #[sc rq11.g 0 (ny + 32) rq11.cap, ni 0]), (45, sc gy oy ny cy), (44, .slice pa.ad pa.n pa.c), (43, kyV key), (42, pt gm 0), (12, ni 0), (11, sc rq9.g 0 (nx + 32) rq9.cap), (40, ni 0), (39, sc rq9.g 0 (nx + 32) rq9.cap), (33, .tuple #[sc rq9.g 0 (nx + 32) rq9.cap, ni 0]), (38, .tuple #[sc rq9.g 0 (nx + 32) rq9.cap, ni 0]), (37, sc gx ox nx cx), (36, .slice pa.ad pa.n pa.c), (35, kyV key), (34, pt gm 0), (10, pt gm 0), (32, pt gm 0), (30, .bool false), (29, .bool false), (28, ni ny), (27, sc gy oy ny cy), (26, .bool false), (25, .bool false), (24, .bool false), (23, ni nx), (22, sc gx ox nx cx), (21, .bool false), (20, .bool false), (19, ni pa.n), (18, .slice pa.ad pa.n pa.c), (9, .bool true), (17, .bool true), (8, .bool false), (4, pt aq2 0), (0, kyV key), (1, .slice pa.ad pa.n pa.c), (2, sc gx ox nx cx), (3, sc gy oy ny cy)] a := F.weak _ (subL_of kr)
  clear Q
  generalize β 8 = rq15 at F H
  generalize β 7 = rq16 at F H
  skip
  refine ?_
  refine hK14 _ _ ?_
  clear hK14
  try clear K14
  refine C_seqK (fun K17 hK17 => ?_)
  refine C_seqK (fun K18 hK18 => ?_)
  refine E_region F H (fun β => [(79, sc rq9.g 0 (nx + 32) rq9.cap), (80, sc gx ox nx cx), (81, ni nx), (82, sc rq9.g (0 + nx) 32 (rq9.cap - nx)), (83, kyV (tagP key pa.l (hidP key tl nx))), (84, sc ((β 5).g) 0 32 (β 5).cap), (85, .bool true), (86, .bool false)]) [79, 80, 81, 82, 83, 84, 85, 86] [⟨some 5, none, 0, [5], fun q_ => ce (sl (oct (kl (tagP key pa.l (hidP key tl nx)))) (gh q_ 0).rest) 5, fun q_ => ((Own (oct (kl (tagP key pa.l (hidP key tl nx)))) (gh q_ 0).rest (32) (gh q_ 0).cap 1) ∧ (gh q_ 0).g ≠ rq9.g), []⟩] [bk rq15.g (arrF .u8 32 (tagP key pa.l (hidP key tl nx))) 23, bk gm (mtr rq16.n) 91, bk rq11.g (sl (oct (boxP key pa.l ul ny)) rq11.rest) 5, bk rq9.g (sl (oct (boxP key pa.l tl nx)) rq9.rest) 5, bk aq2 (arrF .u8 32 key) 23] [0, 1, 2, 3, 4] 2 [] kr kr kr (fun β => rfl) ⟨fun h _ => Bool.noConfusion h, trivial⟩ ⟨?_, ?_, ?_, ?_, ?_, ?_, ?_, ?_, trivial⟩ ?_
  · exact E_k 119 (fun β => sc rq9.g 0 (nx + 32) rq9.cap) 79 2
  · exact E_k 119 (fun β => sc gx ox nx cx) 80 2
  · exact E_k 119 (fun β => ni nx) 81 2
  · exact E_v 119 (fun β => sc rq9.g (0 + nx) 32 (rq9.cap - nx)) 82 2 [] (fun β w hk hl hq => R_slice (x := (.tmp 79)) (lo := (some (.tmp 81))) (hi := none) rfl Tryd.underlying54 (ad := some ⟨rq9.g, 0, none⟩) (len := (nx + 32)) (cap := rq9.cap) kr (nx) ((nx + 32)) ⟨.i64, kr⟩ rfl (by omega) (by omega) (sz := 1) kr _ ((sliceAt (by omega)).trans (by rw [Nat.add_sub_cancel_left])) w)
  · exact E_v 119 (fun β => kyV (tagP key pa.l (hidP key tl nx))) 83 2 [] (fun β w hk hl hq => R_loadH hl (own := true) (g := rq15.g) (all := (arrF .u8 32 (tagP key pa.l (hidP key tl nx)))) (t := 23) (fr := (0, 0)) 0 kr 23 (.tmp 15) rfl 0 kr (arrF .u8 32 (tagP key pa.l (hidP key tl nx))) (part_all _) _ Tryd.underlying23 rfl (by rw [arrF_size]; kernel_rfl))
  · exact E_callS 119 kq (fun β => sc ((β 5).g) 0 32 (β 5).cap) 84 rfl kq 2 (fun β r => offAt2_of kr kr) 47 (fun β => #[kyV (tagP key pa.l (hidP key tl nx))]) (fun β w => kr) 2 [] 0 _ rfl kr kr rfl (fun β w hk hl hq => (bytesR_any (tagP key pa.l (hidP key tl nx)) _).mono (fun _ _ ⟨r, q1, q2, q3, q4, q5⟩ => ⟨r, q1, ⟨q2, fun e => absurd (heap_in (hl.at_ (k := 3) rfl)) (Nat.not_lt.2 (e ▸ q3))⟩, q3, q4, q5⟩))
  · exact E_call 119 kq (fun β => .bool true) 85 rfl kq 42 (fun β => #[sc rq9.g (0 + nx) 32 (rq9.cap - nx), sc ((β 5).g) 0 32 (β 5).cap]) (fun β w => kr) 2 [(0, 0)] kr rfl (fun β w hk hl hq => lsame_any ((boxP key pa.l tl nx).drop nx) (kl (tagP key pa.l (hidP key tl nx))) rq9.g (0 + nx) 32 (rq9.cap - nx) _ 5 (0, 0) (β 5).g 0 (β 5).cap _ 5 (0, 0) (fun j hj => by rw [dropD]; exact (congrArg (fun q => (sl (oct (boxP key pa.l tl nx)) _)[q]?) (show (0 + nx) + j = nx + j by omega)).trans (slC (by rw [boxP_len]; omega))) (slAt (kl_len _)) (by omega) true ⟨fun _ i hi => by rw [dropD, box_end _ _ _ _ hi, klD _ hi], fun _ => rfl⟩ _ (hl.at_ (k := 4) rfl) (hl.at_ (k := 0) rfl) (Ne.symm hq.1.1.2))
  · exact E_k 119 (fun β => .bool false) 86 2
  clear F H; intro β a v Q F H
  replace H : Hp [] w [bk ((β 5).g) (sl (oct (kl (tagP key pa.l (hidP key tl nx)))) (β 5).rest) 5, bk rq15.g (arrF .u8 32 (tagP key pa.l (hidP key tl nx))) 23, bk gm (mtr rq16.n) 91, bk rq11.g (sl (oct (boxP key pa.l ul ny)) rq11.rest) 5, bk rq9.g (sl (oct (boxP key pa.l tl nx)) rq9.rest) 5, bk aq2 (arrF .u8 32 key) 23] v := H
  replace F : Fm 119 [] [(86, .bool false), (85, .bool true), (84, sc ((β 5).g) 0 32 (β 5).cap), (83, kyV (tagP key pa.l (hidP key tl nx))), (82, sc rq9.g (0 + nx) 32 (rq9.cap - nx)), (81, ni nx), (80, sc gx ox nx cx), (79, sc rq9.g 0 (nx + 32) rq9.cap), (15, pt rq15.g 0), (78, kyV (tagP key pa.l (hidP key tl nx))), (77, sc rq9.g 0 nx rq9.cap), (76, ni nx), (75, sc gx ox nx cx), (74, sc rq9.g 0 (nx + 32) rq9.cap), (73, .slice pa.ad pa.n pa.c), (72, kyV key), (71, pt gm 0), (70, .bool false), (69, .bool false), (68, ni (ny + 32)), (67, ni ny), (66, sc gy oy ny cy), (65, ni (ny + 32)), (64, sc rq11.g 0 (ny + 32) rq11.cap), (63, .bool false), (62, .bool false), (61, .bool false), (60, ni (nx + 32)), (59, ni nx), (58, sc gx ox nx cx), (57, ni (nx + 32)), (56, sc rq9.g 0 (nx + 32) rq9.cap), (55, .bool false), (54, .bool false), (53, .bool false), (52, ni 0), (51, .bool false), (50, .bool false), (49, ni 0), (14, ni 0), (13, sc rq11.g 0 (ny + 32) rq11.cap), (48, ni 0), (47, sc rq11.g 0 (ny + 32) rq11.cap), (41, .tuple #[sc rq11.g 0 (ny + 32) rq11.cap, ni 0]), (46, .tuple #[sc rq11.g 0 (ny + 32) rq11.cap, ni 0]), (45, sc gy oy ny cy), (44, .slice pa.ad pa.n pa.c), (43, kyV key), (42, pt gm 0), (12, ni 0), (11, sc rq9.g 0 (nx + 32) rq9.cap), (40, ni 0), (39, sc rq9.g 0 (nx + 32) rq9.cap), (33, .tuple #[sc rq9.g 0 (nx + 32) rq9.cap, ni 0]), (38, .tuple #[sc rq9.g 0 (nx + 32) rq9.cap, ni 0]), (37, sc gx ox nx cx), (36, .slice pa.ad pa.n pa.c), (35, kyV key), (34, pt gm 0), (10, pt gm 0), (32, pt gm 0), (30, .bool false), (29, .bool false), (28, ni ny), (27, sc gy oy ny cy), (26, .bool false), (25, .bool false), (24, .bool false), (23, ni nx), (22, sc gx ox nx cx), (21, .bool false), (20, .bool false), (19, ni pa.n), (18, .slice pa.ad pa.n pa.c), (9, .bool true), (17, .bool true), (8, .bool false), (4, pt aq2 0), (0, kyV key), (1, .slice pa.ad pa.n pa.c), (2, sc gx ox nx cx), (3, sc gy oy ny cy)] a := F.weak _ (subL_of kr)
  have Qh19_0 : ((Own (oct (kl (tagP key pa.l (hidP key tl nx)))) (β 5).rest (32) (β 5).cap 1) ∧ (β 5).g ≠ rq9.g) := Q.1
  clear Q
  generalize β 5 = rq19 at F H Qh19_0
  skip
  refine ?_
  refine hK18 _ _ ?_
  clear hK18
  try clear K18
  refine C_if F false rfl rfl ?_
  refine wp_skip ?_
  refine hK17 _ _ ?_
  clear hK17
  try clear K17
  refine C_seqK (fun K20 hK20 => ?_)
  refine C_seqK (fun K21 hK21 => ?_)
  refine C_region ?_
  refine T_k F H (ni 0) ?_
  clear F; intro a F
  refine wpList_nil ?_
  replace F : Fm 119 [] [(16, ni 0), (11, sc rq9.g 0 (nx + 32) rq9.cap), (13, sc rq11.g 0 (ny + 32) rq11.cap), (2, sc gx ox nx cx), (3, sc gy oy ny cy), (9, .bool true)] a := F.weak _ (subL_of kr)
  replace H : Hp [] w [bk rq9.g (sl (oct (boxP key pa.l tl nx)) rq9.rest) 5, bk rq11.g (sl (oct (boxP key pa.l ul ny)) rq11.rest) 5] v := H.pick [4, 3] kr _ rfl
  refine hK21 _ _ ?_
  clear hK21
  try clear K21
  refine wp_block ?_
  refine C_loop (fun m a v => ∃ k, k + m = ny ∧ Fm 119 [] [(16, ni k), (11, sc rq9.g 0 (nx + 32) rq9.cap), (13, sc rq11.g 0 (ny + 32) rq11.cap), (2, sc gx ox nx cx), (3, sc gy oy ny cy), (9, .bool true)] a ∧ Hp [] w [bk rq9.g (sl (oct (boxP key pa.l tl nx)) rq9.rest) 5, bk rq11.g (sl (oct (boxP key pa.l ul ny)) rq11.rest) 5] v) (ny) ⟨0, Nat.zero_add _, F, H⟩ ?_
  clear F H
  intro m a v ⟨k, hk, F, H⟩
  rcases m with _ | m
  rotate_left
  · skip
    have hm1 := getD_lt (boxP_lt key pa.l htl nx) k
    have hm2 := getD_lt (boxP_lt key pa.l hul ny) k
    have hm3 := getD_lt htl k
    have hm4 := getD_lt hul k
    refine C_seqK (fun K22 hK22 => ?_)
    refine C_seqK (fun K23 hK23 => ?_)
    refine C_region ?_
    refine T_k F H (ni k) ?_
    clear F; intro a F
    refine T_k F H (sc gx ox nx cx) ?_
    clear F; intro a F
    refine T_k F H (ni nx) ?_
    clear F; intro a F
    refine T_val F H kr (.bool true) (fun w _ => R_bin (x := (.tmp 87)) (y := (.tmp 89)) rfl (k := .i64) (a := ((k : Nat) : Int)) (b := ((nx : Nat) : Int)) kr kr (i_lt (by omega)) w) ?_
    clear F; intro a F
    refine T_k F H (.bool true) ?_
    clear F; intro a F
    refine T_k F H (ni k) ?_
    clear F; intro a F
    refine T_k F H (sc gy oy ny cy) ?_
    clear F; intro a F
    refine T_k F H (ni ny) ?_
    clear F; intro a F
    refine T_val F H kr (.bool true) (fun w _ => R_bin (x := (.tmp 92)) (y := (.tmp 94)) rfl (k := .i64) (a := ((k : Nat) : Int)) (b := ((ny : Nat) : Int)) kr kr (i_lt (by omega)) w) ?_
    clear F; intro a F
    refine T_k F H (.bool true) ?_
    clear F; intro a F
    refine wpList_nil ?_
    refine hK23 _ _ ?_
    clear hK23
    try clear K23
    refine C_if F true rfl rfl ?_
    refine wp_skip ?_
    refine hK22 _ _ ?_
    clear hK22
    try clear K22
    refine C_seqK (fun K24 hK24 => ?_)
    refine wp_block ?_
    refine C_seqK (fun K25 hK25 => ?_)
    refine E_region F H (fun β => [(99, sc rq9.g 0 (nx + 32) rq9.cap), (100, ni k), (101, pt rq9.g (0 + (k) * 1)), (102, nb ((boxP key pa.l tl nx).getD (k) 0)), (103, sc rq11.g 0 (ny + 32) rq11.cap), (104, ni k), (105, pt rq11.g (0 + (k) * 1)), (106, nb ((boxP key pa.l ul ny).getD (k) 0)), (107, nb ((boxP key pa.l tl nx).getD (k) 0 ^^^ (boxP key pa.l ul ny).getD (k) 0)), (108, sc gx ox nx cx), (109, ni k), (110, pt gx (ox + (k) * 1)), (111, nb (tl.getD k 0)), (112, sc gy oy ny cy), (113, ni k), (114, pt gy (oy + (k) * 1)), (115, nb (ul.getD k 0)), (116, nb (tl.getD k 0 ^^^ ul.getD k 0)), (117, .bool false)]) [99, 100, 101, 102, 103, 104, 105, 106, 107, 108, 109, 110, 111, 112, 113, 114, 115, 116, 117] [] [bk rq9.g (sl (oct (boxP key pa.l tl nx)) rq9.rest) 5, bk rq11.g (sl (oct (boxP key pa.l ul ny)) rq11.rest) 5] [0, 1] 2 [] kr kr kr (fun β => rfl) trivial ⟨?_, ?_, ?_, ?_, ?_, ?_, ?_, ?_, ?_, ?_, ?_, ?_, ?_, ?_, ?_, ?_, ?_, ?_, ?_, trivial⟩ ?_
    · exact E_k 119 (fun β => sc rq9.g 0 (nx + 32) rq9.cap) 99 2
    · exact E_k 119 (fun β => ni k) 100 2
    · exact E_v 119 (fun β => pt rq9.g (0 + (k) * 1)) 101 2 [] (fun β w hk hl hq => R_indexS (k := .i64) (g := rq9.g) (off := 0) (len := (nx + 32)) (cap := rq9.cap) (x := (.tmp 99)) (y := (.tmp 100)) rfl Tryd.underlying54 kr (k) kr (by omega) (sz := 1) kr w)
    · exact E_v 119 (fun β => nb ((boxP key pa.l tl nx).getD (k) 0)) 102 2 [] (fun β w hk hl hq => R_cellH hl (own := true) (g := rq9.g) (all := (sl (oct (boxP key pa.l tl nx)) rq9.rest)) (t := 5) (fr := (0, 0)) 0 kr 5 (.tmp 101) rfl (0 + (k) * 1) kr (nb ((boxP key pa.l tl nx).getD (k) 0)) ((congrArg (fun q => ((sl (oct (boxP key pa.l tl nx)) rq9.rest))[q]?) (show (0 + (k) * 1) = k by omega)).trans (slC (by rw [boxP_len]; omega))) _ Tryd.underlying5 rfl)
    · exact E_k 119 (fun β => sc rq11.g 0 (ny + 32) rq11.cap) 103 2
    · exact E_k 119 (fun β => ni k) 104 2
    · exact E_v 119 (fun β => pt rq11.g (0 + (k) * 1)) 105 2 [] (fun β w hk hl hq => R_indexS (k := .i64) (g := rq11.g) (off := 0) (len := (ny + 32)) (cap := rq11.cap) (x := (.tmp 103)) (y := (.tmp 104)) rfl Tryd.underlying54 kr (k) kr (by omega) (sz := 1) kr w)
    · exact E_v 119 (fun β => nb ((boxP key pa.l ul ny).getD (k) 0)) 106 2 [] (fun β w hk hl hq => R_cellH hl (own := true) (g := rq11.g) (all := (sl (oct (boxP key pa.l ul ny)) rq11.rest)) (t := 5) (fr := (0, 0)) 1 kr 5 (.tmp 105) rfl (0 + (k) * 1) kr (nb ((boxP key pa.l ul ny).getD (k) 0)) ((congrArg (fun q => ((sl (oct (boxP key pa.l ul ny)) rq11.rest))[q]?) (show (0 + (k) * 1) = k by omega)).trans (slC (by rw [boxP_len]; omega))) _ Tryd.underlying5 rfl)
    · exact E_v 119 (fun β => nb ((boxP key pa.l tl nx).getD (k) 0 ^^^ (boxP key pa.l ul ny).getD (k) 0)) 107 2 [] (fun β w hk hl hq => R_bin (x := (.tmp 102)) (y := (.tmp 106)) rfl (k := .u8) (a := (((boxP key pa.l tl nx).getD (k) 0 : Nat) : Int)) (b := (((boxP key pa.l ul ny).getD (k) 0 : Nat) : Int)) kr kr (i_xor8 (a := (boxP key pa.l tl nx).getD (k) 0) (b := (boxP key pa.l ul ny).getD (k) 0) (by omega) (by omega)) w)
    · exact E_k 119 (fun β => sc gx ox nx cx) 108 2
    · exact E_k 119 (fun β => ni k) 109 2
    · exact E_v 119 (fun β => pt gx (ox + (k) * 1)) 110 2 [] (fun β w hk hl hq => R_indexS (k := .i64) (g := gx) (off := ox) (len := nx) (cap := cx) (x := (.tmp 108)) (y := (.tmp 109)) rfl Tryd.underlying54 kr (k) kr (by omega) (sz := 1) kr w)
    · exact E_v 119 (fun β => nb (tl.getD k 0)) 111 2 [] (fun β w hk hl hq => R_cellH (show HeldL [⟨false, gx, .cells ax tx fx⟩] w from ⟨fun p hp => by rw [List.mem_singleton.1 hp]; exact (hk.block gx hltx List.not_mem_nil).trans hgx⟩) 0 rfl 5 (.tmp 110) rfl (ox + (k) * 1) kr (nb (tl.getD k 0)) ((congrArg (fun q => ax[q]?) (show (ox + (k) * 1) = ox + k by omega)).trans (harx k (by omega))) _ Tryd.underlying5 rfl)
    · exact E_k 119 (fun β => sc gy oy ny cy) 112 2
    · exact E_k 119 (fun β => ni k) 113 2
    · exact E_v 119 (fun β => pt gy (oy + (k) * 1)) 114 2 [] (fun β w hk hl hq => R_indexS (k := .i64) (g := gy) (off := oy) (len := ny) (cap := cy) (x := (.tmp 112)) (y := (.tmp 113)) rfl Tryd.underlying54 kr (k) kr (by omega) (sz := 1) kr w)
    · exact E_v 119 (fun β => nb (ul.getD k 0)) 115 2 [] (fun β w hk hl hq => R_cellH (show HeldL [⟨false, gy, .cells ay ty fy⟩] w from ⟨fun p hp => by rw [List.mem_singleton.1 hp]; exact (hk.block gy hlty List.not_mem_nil).trans hgy⟩) 0 rfl 5 (.tmp 114) rfl (oy + (k) * 1) kr (nb (ul.getD k 0)) ((congrArg (fun q => ay[q]?) (show (oy + (k) * 1) = oy + k by omega)).trans (hary k (by omega))) _ Tryd.underlying5 rfl)
    · exact E_v 119 (fun β => nb (tl.getD k 0 ^^^ ul.getD k 0)) 116 2 [] (fun β w hk hl hq => R_bin (x := (.tmp 111)) (y := (.tmp 115)) rfl (k := .u8) (a := ((tl.getD k 0 : Nat) : Int)) (b := ((ul.getD k 0 : Nat) : Int)) kr kr (i_xor8 (a := tl.getD k 0) (b := ul.getD k 0) (by omega) (by omega)) w)
    · exact E_v 119 (fun β => .bool false) 117 2 [] (fun β w hk hl hq => R_bin (x := (.tmp 107)) (y := (.tmp 116)) rfl (k := .u8) (a := ((((boxP key pa.l tl nx).getD (k) 0 ^^^ (boxP key pa.l ul ny).getD (k) 0) : Nat) : Int)) (b := (((tl.getD k 0 ^^^ ul.getD k 0) : Nat) : Int)) kr kr (i_nesm (box_xor key pa.l tl ul nx ny (by omega) (by omega))) w)
    clear F H; intro β a v Q F H
    replace H : Hp [] w [bk rq9.g (sl (oct (boxP key pa.l tl nx)) rq9.rest) 5, bk rq11.g (sl (oct (boxP key pa.l ul ny)) rq11.rest) 5] v := H
    replace F : Fm 119 [] [(117, .bool false), (116, nb (tl.getD k 0 ^^^ ul.getD k 0)), (115, nb (ul.getD k 0)), (114, pt gy (oy + (k) * 1)), (113, ni k), (112, sc gy oy ny cy), (111, nb (tl.getD k 0)), (110, pt gx (ox + (k) * 1)), (109, ni k), (108, sc gx ox nx cx), (107, nb ((boxP key pa.l tl nx).getD (k) 0 ^^^ (boxP key pa.l ul ny).getD (k) 0)), (106, nb ((boxP key pa.l ul ny).getD (k) 0)), (105, pt rq11.g (0 + (k) * 1)), (104, ni k), (103, sc rq11.g 0 (ny + 32) rq11.cap), (102, nb ((boxP key pa.l tl nx).getD (k) 0)), (101, pt rq9.g (0 + (k) * 1)), (100, ni k), (99, sc rq9.g 0 (nx + 32) rq9.cap), (96, .bool true), (95, .bool true), (94, ni ny), (93, sc gy oy ny cy), (92, ni k), (91, .bool true), (90, .bool true), (89, ni nx), (88, sc gx ox nx cx), (87, ni k), (16, ni k), (11, sc rq9.g 0 (nx + 32) rq9.cap), (13, sc rq11.g 0 (ny + 32) rq11.cap), (2, sc gx ox nx cx), (3, sc gy oy ny cy), (9, .bool true)] a := F.weak _ (subL_of kr)
    clear Q
    refine ?_
    refine hK25 _ _ ?_
    clear hK25
    try clear K25
    refine C_if F false rfl rfl ?_
    refine wp_skip ?_
    refine hK24 _ _ ?_
    clear hK24
    try clear K24
    refine C_region ?_
    refine T_k F H (ni k) ?_
    clear F; intro a F
    refine T_val F H kr (ni (k + 1)) (fun w _ => R_bin (x := (.tmp 97)) (y := (.const (.int .i64 1))) rfl (k := .i64) (a := ((k : Nat) : Int)) (b := ((1 : Nat) : Int)) kr kr (i_addn64 (a := k) (b := 1) (by omega)) w) ?_
    clear F; intro a F
    refine T_k F H (ni (k + 1)) ?_
    clear F; intro a F
    refine wpList_nil ?_
    replace F : Fm 119 [] [(16, ni (k + 1)), (11, sc rq9.g 0 (nx + 32) rq9.cap), (13, sc rq11.g 0 (ny + 32) rq11.cap), (2, sc gx ox nx cx), (3, sc gy oy ny cy), (9, .bool true)] a := F.weak _ (subL_of kr)
    replace H : Hp [] w [bk rq9.g (sl (oct (boxP key pa.l tl nx)) rq9.rest) 5, bk rq11.g (sl (oct (boxP key pa.l ul ny)) rq11.rest) 5] v := H
    exact ⟨m, Nat.lt_succ_self m, k + 1, by omega, F, H⟩
  have hkt : k = ny := by omega
  rw [hkt] at F
  clear hk
  refine C_seqK (fun K26 hK26 => ?_)
  refine C_seqK (fun K27 hK27 => ?_)
  refine C_region ?_
  refine T_k F H (ni ny) ?_
  clear F; intro a F
  refine T_k F H (sc gx ox nx cx) ?_
  clear F; intro a F
  refine T_k F H (ni nx) ?_
  clear F; intro a F
  refine T_val F H kr (.bool true) (fun w _ => R_bin (x := (.tmp 87)) (y := (.tmp 89)) rfl (k := .i64) (a := ((ny : Nat) : Int)) (b := ((nx : Nat) : Int)) kr kr (i_lt (by omega)) w) ?_
  clear F; intro a F
  refine T_k F H (.bool true) ?_
  clear F; intro a F
  refine T_k F H (ni ny) ?_
  clear F; intro a F
  refine T_k F H (sc gy oy ny cy) ?_
  clear F; intro a F
  refine T_k F H (ni ny) ?_
  clear F; intro a F
  refine T_val F H kr (.bool false) (fun w _ => R_bin (x := (.tmp 92)) (y := (.tmp 94)) rfl (k := .i64) (a := ((ny : Nat) : Int)) (b := ((ny : Nat) : Int)) kr kr (i_nlt (by omega)) w) ?_
  clear F; intro a F
  refine T_k F H (.bool false) ?_
  clear F; intro a F
  refine wpList_nil ?_
  refine hK27 _ _ ?_
  clear hK27
  try clear K27
  refine C_if F false rfl rfl ?_
  refine wp_exit ?_
  refine hK20 _ _ ?_
  clear hK20
  try clear K20
  refine C_seqK (fun K28 hK28 => ?_)
  refine C_region ?_
  refine T_k F H (.bool true) ?_
  clear F; intro a F
  refine T_k F H (.bool true) ?_
  clear F; intro a F
  refine wpList_nil ?_
  refine hK28 _ _ ?_
  clear hK28
  try clear K28
  refine wp_ret ?_
  exact C_ret F H (rs := [.tmp 8]) rfl (vs := [.bool true]) (.tmp rfl .nil) (.bool true) rfl ⟨rfl, H.kept⟩

theorem sealEnds_any (key : Nat → Nat) (hkey : ∀ i, i < 32 → key i < 256) (pa : SlP) (hba : ∀ x ∈ pa.l, x < 256) (hna : pa.l.length = pa.n) (d : Option Addr) (n c : Nat) (l : List Nat) (hb : ∀ x ∈ l, x < 256) (hn : l.length = n) (d2 : Option Addr) (n2 c2 : Nat) (l2 : List Nat) (hb2 : ∀ x ∈ l2, x < 256) (hn2 : l2.length = n2) (w : World) (hW : LaidS w) (hrda : RdK [] w pa) (hrd : RdK [] w ⟨d, n, c, l⟩) (hrd2 : RdK [] w ⟨d2, n2, c2, l2⟩) : Calls Tryd.prog 14 #[.agg (arrF .u8 32 key), .slice pa.ad pa.n pa.c, .slice d n c, .slice d2 n2 c2] w fun e w' => e = .returned (.bool true) ∧ Kept [] w w' := by
  by_cases h1 : 200 < pa.n
  · exact se_long1 key hkey pa hba hna h1 d n c d2 n2 c2 w hW hrda
  by_cases h2 : 200 < n
  · exact se_long2 key hkey pa hba hna (by omega) d n c d2 n2 c2 h2 w hW hrda
  by_cases h3 : 200 < n2
  · exact se_long3 key hkey pa hba hna (by omega) d n c d2 n2 c2 (by omega) h3 w hW hrda
  by_cases h4 : n = 0
  · subst h4
    by_cases h5 : n2 = 0
    · subst h5
      exact se_nn key hkey pa hba hna (by omega) d c d2 c2 w hW hrda
    obtain ⟨g2, off2, arr2, t2, fr2, rfl, y1, y2, y3, y4⟩ := blk_of_rdk hrd2 hn2 (by omega)
    exact se_ns key hkey pa hba hna (by omega) d c l2 hb2 g2 off2 n2 c2 arr2 t2 fr2 y4 hn2 y1 (by omega) (by omega) w hW hrda y2 y3
  obtain ⟨g, off, arr, t, fr, rfl, q1, q2, q3, q4⟩ := blk_of_rdk hrd hn (by omega)
  by_cases h5 : n2 = 0
  · subst h5
    exact se_sn key hkey pa hba hna (by omega) l hb g off n c arr t fr q4 hn q1 (by omega) (by omega) d2 c2 w hW hrda q2 q3
  obtain ⟨g2, off2, arr2, t2, fr2, rfl, y1, y2, y3, y4⟩ := blk_of_rdk hrd2 hn2 (by omega)
  by_cases h6 : n ≤ n2
  · exact se_le key hkey pa hba hna (by omega) l hb g off n c arr t fr q4 hn q1 (by omega) (by omega) l2 hb2 g2 off2 n2 c2 arr2 t2 fr2 y4 hn2 y1 (by omega) (by omega) h6 w hW hrda q2 q3 y2 y3
  · exact se_gt key hkey pa hba hna (by omega) l hb g off n c arr t fr q4 hn q1 (by omega) (by omega) l2 hb2 g2 off2 n2 c2 arr2 t2 fr2 y4 hn2 y1 (by omega) (by omega) (by omega) w hW hrda q2 q3 y2 y3
end Go.Proofs.YtdejhenkdbjakaaDoor
