/- Walks: SealBack. -/
import Derived.Test.YtdejhenkdbjakaaDoorYQ
import Derived.Test.YtdejhenkdbjakaaDoorYP
import Derived.Test.YtdejhenkdbjakaaDoorVG
set_option linter.unusedVariables false
set_option linter.unusedSimpArgs false
namespace Go.Proofs.YtdejhenkdbjakaaDoor
open Go Go.RowKit
set_option maxRecDepth 100000 in
set_option maxHeartbeats 4000000 in
theorem sb_long1 (key : Nat → Nat) (hkey : ∀ i, i < 32 → key i < 256) (pa : SlP) (hba : ∀ x ∈ pa.l, x < 256) (hna : pa.l.length = pa.n) (h1 : 300 < pa.n) (dx : Option Addr) (nx cx : Nat) (w : World) (hW : LaidS w) (hrda : RdK [] w pa) : Calls Tryd.prog 12 #[.agg (arrF .u8 32 key), .slice pa.ad pa.n pa.c, .slice dx nx cx] w fun e w' => e = .returned (.bool true) ∧ Kept [] w w' := by
  refine C_enter Tryd.func12 rfl 62 Tryd.ntmps12 (Nat.le_of_ble_eq_true rfl) (fun a F => ?_)
  have H := Hp.start [] w
  replace F : Fm 62 [] [(0, kyV key), (1, .slice pa.ad pa.n pa.c), (2, .slice dx nx cx)] a := F.weak _ (subL_of kr)
  refine C_seqK (fun K1 hK1 => ?_)
  refine C_region ?_
  refine T_new F H kr (fun ad => pt ad 0) (ce (arrF .u8 32 key) 23) (fun w => kr) ?_
  clear F H; intro aq2 a v F H
  refine T_k F H (.bool false) ?_
  clear F; intro a F
  refine wpList_nil ?_
  refine hK1 _ _ ?_
  clear hK1
  try clear K1
  refine C_seqK (fun K3 hK3 => ?_)
  refine C_region ?_
  refine T_call F H kr 39 #[] (.bool true) (fun w => kr) (awake05_any _ (hW.keptS H.kept (fun _ _ => List.not_mem_nil))) ?_
  clear F H; intro a v F H
  refine T_k F H (.bool true) ?_
  clear F; intro a F
  refine wpList_nil ?_
  refine hK3 _ _ ?_
  clear hK3
  try clear K3
  refine C_seqK (fun K4 hK4 => ?_)
  refine C_seqK (fun K5 hK5 => ?_)
  refine C_region ?_
  refine T_k F H (.slice pa.ad pa.n pa.c) ?_
  clear F; intro a F
  refine T_k F H (ni pa.n) ?_
  clear F; intro a F
  refine T_val F H kr (.bool true) (fun w _ => R_bin (x := (.tmp 15)) (y := (.const (.int .i64 300))) rfl (k := .i64) (a := ((pa.n : Nat) : Int)) (b := ((300 : Nat) : Int)) kr kr (i_gtn (by omega)) w) ?_
  clear F; intro a F
  refine T_k F H (.bool true) ?_
  clear F; intro a F
  refine T_skip F kr kr ?_
  clear F; intro a F
  refine T_skip F kr kr ?_
  clear F; intro a F
  refine T_skip F kr kr ?_
  clear F; intro a F
  refine T_k F H (.bool true) ?_
  clear F; intro a F
  refine wpList_nil ?_
  refine hK5 _ _ ?_
  clear hK5
  try clear K5
  refine C_if F true rfl rfl ?_
  refine C_seqK (fun K6 hK6 => ?_)
  refine C_region ?_
  refine T_k F H (.bool true) ?_
  clear F; intro a F
  refine T_k F H (.bool true) ?_
  clear F; intro a F
  refine wpList_nil ?_
  refine hK6 _ _ ?_
  clear hK6
  try clear K6
  refine wp_ret ?_
  repeat (first | with_reducible refine then_ret ?_ | with_reducible refine inB_ret ?_)
  exact C_ret F H (rs := [.tmp 6]) rfl (vs := [.bool true]) (.tmp rfl .nil) (.bool true) rfl ⟨rfl, H.kept⟩

set_option maxRecDepth 100000 in
set_option maxHeartbeats 4000000 in
theorem sb_long2 (key : Nat → Nat) (hkey : ∀ i, i < 32 → key i < 256) (pa : SlP) (hba : ∀ x ∈ pa.l, x < 256) (hna : pa.l.length = pa.n) (h1 : pa.n ≤ 300) (dx : Option Addr) (nx cx : Nat) (h2 : 300 < nx) (w : World) (hW : LaidS w) (hrda : RdK [] w pa) : Calls Tryd.prog 12 #[.agg (arrF .u8 32 key), .slice pa.ad pa.n pa.c, .slice dx nx cx] w fun e w' => e = .returned (.bool true) ∧ Kept [] w w' := by
  refine C_enter Tryd.func12 rfl 62 Tryd.ntmps12 (Nat.le_of_ble_eq_true rfl) (fun a F => ?_)
  have H := Hp.start [] w
  replace F : Fm 62 [] [(0, kyV key), (1, .slice pa.ad pa.n pa.c), (2, .slice dx nx cx)] a := F.weak _ (subL_of kr)
  refine C_seqK (fun K1 hK1 => ?_)
  refine C_region ?_
  refine T_new F H kr (fun ad => pt ad 0) (ce (arrF .u8 32 key) 23) (fun w => kr) ?_
  clear F H; intro aq2 a v F H
  refine T_k F H (.bool false) ?_
  clear F; intro a F
  refine wpList_nil ?_
  refine hK1 _ _ ?_
  clear hK1
  try clear K1
  refine C_seqK (fun K3 hK3 => ?_)
  refine C_region ?_
  refine T_call F H kr 39 #[] (.bool true) (fun w => kr) (awake05_any _ (hW.keptS H.kept (fun _ _ => List.not_mem_nil))) ?_
  clear F H; intro a v F H
  refine T_k F H (.bool true) ?_
  clear F; intro a F
  refine wpList_nil ?_
  refine hK3 _ _ ?_
  clear hK3
  try clear K3
  refine C_seqK (fun K4 hK4 => ?_)
  refine C_seqK (fun K5 hK5 => ?_)
  refine C_region ?_
  refine T_k F H (.slice pa.ad pa.n pa.c) ?_
  clear F; intro a F
  refine T_k F H (ni pa.n) ?_
  clear F; intro a F
  refine T_val F H kr (.bool false) (fun w _ => R_bin (x := (.tmp 15)) (y := (.const (.int .i64 300))) rfl (k := .i64) (a := ((pa.n : Nat) : Int)) (b := ((300 : Nat) : Int)) kr kr (i_ngtn (by omega)) w) ?_
  clear F; intro a F
  refine T_k F H (.bool false) ?_
  clear F; intro a F
  refine T_k F H (.slice dx nx cx) ?_
  clear F; intro a F
  refine T_k F H (ni nx) ?_
  clear F; intro a F
  refine T_val F H kr (.bool true) (fun w _ => R_bin (x := (.tmp 19)) (y := (.const (.int .i64 300))) rfl (k := .i64) (a := ((nx : Nat) : Int)) (b := ((300 : Nat) : Int)) kr kr (i_gtn (by omega)) w) ?_
  clear F; intro a F
  refine T_k F H (.bool true) ?_
  clear F; intro a F
  refine wpList_nil ?_
  refine hK5 _ _ ?_
  clear hK5
  try clear K5
  refine C_if F true rfl rfl ?_
  refine C_seqK (fun K6 hK6 => ?_)
  refine C_region ?_
  refine T_k F H (.bool true) ?_
  clear F; intro a F
  refine T_k F H (.bool true) ?_
  clear F; intro a F
  refine wpList_nil ?_
  refine hK6 _ _ ?_
  clear hK6
  try clear K6
  refine wp_ret ?_
  repeat (first | with_reducible refine then_ret ?_ | with_reducible refine inB_ret ?_)
  exact C_ret F H (rs := [.tmp 6]) rfl (vs := [.bool true]) (.tmp rfl .nil) (.bool true) rfl ⟨rfl, H.kept⟩

set_option maxRecDepth 100000 in
set_option maxHeartbeats 4000000 in
theorem sb_none (key : Nat → Nat) (hkey : ∀ i, i < 32 → key i < 256) (pa : SlP) (hba : ∀ x ∈ pa.l, x < 256) (hna : pa.l.length = pa.n) (h1 : pa.n ≤ 300) (dx : Option Addr) (cx : Nat) (w : World) (hW : LaidS w) (hrda : RdK [] w pa) : Calls Tryd.prog 12 #[.agg (arrF .u8 32 key), .slice pa.ad pa.n pa.c, .slice dx 0 cx] w fun e w' => e = .returned (.bool true) ∧ Kept [] w w' := by
  refine C_enter Tryd.func12 rfl 62 Tryd.ntmps12 (Nat.le_of_ble_eq_true rfl) (fun a F => ?_)
  have H := Hp.start [] w
  replace F : Fm 62 [] [(0, kyV key), (1, .slice pa.ad pa.n pa.c), (2, .slice dx 0 cx)] a := F.weak _ (subL_of kr)
  refine C_seqK (fun K1 hK1 => ?_)
  refine C_region ?_
  refine T_new F H kr (fun ad => pt ad 0) (ce (arrF .u8 32 key) 23) (fun w => kr) ?_
  clear F H; intro aq2 a v F H
  refine T_k F H (.bool false) ?_
  clear F; intro a F
  refine wpList_nil ?_
  refine hK1 _ _ ?_
  clear hK1
  try clear K1
  refine C_seqK (fun K3 hK3 => ?_)
  refine C_region ?_
  refine T_call F H kr 39 #[] (.bool true) (fun w => kr) (awake05_any _ (hW.keptS H.kept (fun _ _ => List.not_mem_nil))) ?_
  clear F H; intro a v F H
  refine T_k F H (.bool true) ?_
  clear F; intro a F
  refine wpList_nil ?_
  refine hK3 _ _ ?_
  clear hK3
  try clear K3
  refine C_seqK (fun K4 hK4 => ?_)
  refine C_seqK (fun K5 hK5 => ?_)
  refine C_region ?_
  refine T_k F H (.slice pa.ad pa.n pa.c) ?_
  clear F; intro a F
  refine T_k F H (ni pa.n) ?_
  clear F; intro a F
  refine T_val F H kr (.bool false) (fun w _ => R_bin (x := (.tmp 15)) (y := (.const (.int .i64 300))) rfl (k := .i64) (a := ((pa.n : Nat) : Int)) (b := ((300 : Nat) : Int)) kr kr (i_ngtn (by omega)) w) ?_
  clear F; intro a F
  refine T_k F H (.bool false) ?_
  clear F; intro a F
  refine T_k F H (.slice dx 0 cx) ?_
  clear F; intro a F
  refine T_k F H (ni 0) ?_
  clear F; intro a F
  refine T_k F H (.bool false) ?_
  clear F; intro a F
  refine T_k F H (.bool false) ?_
  clear F; intro a F
  refine wpList_nil ?_
  refine hK5 _ _ ?_
  clear hK5
  try clear K5
  refine C_if F false rfl rfl ?_
  refine wp_skip ?_
  refine hK4 _ _ ?_
  clear hK4
  try clear K4
  refine C_seqK (fun K6 hK6 => ?_)
  refine C_region ?_
  refine T_callX (α := SlR) F H kr 18 #[.bool false] (fun rX => pt rX.g 0) (fun rX => [bk rX.g (mtr 0) 91, bk aq2 (arrF .u8 32 key) 23]) (fun rX => True) (fun w => kr) (fun w H => callsX_newV H (newM_any _)) ?_
  clear F H; intro rq7 a v Qrq7 F H
  refine T_k F H (pt rq7.g 0) ?_
  clear F; intro a F
  refine wpList_nil ?_
  generalize rq7.g = gm at F H
  refine hK6 _ _ ?_
  clear hK6
  try clear K6
  refine C_seqK (fun K8 hK8 => ?_)
  have hov_gm : w.heap.size ≤ gm := (H.own _ (List.mem_of_getElem? (i := 0) rfl) rfl).resolve_right List.not_mem_nil
  refine C_region ?_
  refine T_k F H (pt gm 0) ?_
  clear F; intro a F
  refine T_val F H kr (kyV key) (R_load (own := true) (g := aq2) (all := (arrF .u8 32 key)) (t := 23) (fr := (0, 0)) 1 kr 23 (.tmp 3) rfl 0 kr (arrF .u8 32 key) (part_all _) _ Tryd.underlying23 rfl (by rw [arrF_size]; kernel_rfl)) ?_
  clear F; intro a F
  refine T_k F H (.slice pa.ad pa.n pa.c) ?_
  clear F; intro a F
  refine T_k F H (.slice dx 0 cx) ?_
  clear F; intro a F
  refine T_callX (α := SlR) F H kr 43 #[pt gm 0, kyV key, .slice pa.ad pa.n pa.c, .slice dx 0 cx] (fun rX => .tuple #[sc rX.g 0 32 rX.cap, ni 0]) (fun rX => [bk rX.g (sl (oct (boxP key pa.l [] 0)) rX.rest) 5, bk gm (mtr rX.n) 91, bk aq2 (arrF .u8 32 key) 23]) (fun rX => (True) ∧ (Own (oct (boxP key pa.l [] 0)) rX.rest 32 rX.cap 1)) (fun w => kr) (fun w H => callsX_bothV H (k := 0) rfl (seal_none gm 0 key hkey pa hba hna (by omega) dx cx _ (hW.keptS H.kept (fun _ _ => List.not_mem_nil)) (H.at_ (k := 0) rfl) (hrda.step1 H (k := 0) rfl))) ?_
  clear F H; intro rq9 a v Qrq9 F H
  refine T_k F H (.tuple #[sc rq9.g 0 32 rq9.cap, ni 0]) ?_
  clear F; intro a F
  refine T_k F H (sc rq9.g 0 32 rq9.cap) ?_
  clear F; intro a F
  refine T_k F H (ni 0) ?_
  clear F; intro a F
  refine T_k F H (sc rq9.g 0 32 rq9.cap) ?_
  clear F; intro a F
  refine T_k F H (ni 0) ?_
  clear F; intro a F
  refine wpList_nil ?_
  refine hK8 _ _ ?_
  clear hK8
  try clear K8
  refine C_seqK (fun K10 hK10 => ?_)
  refine C_region ?_
  refine T_k F H (pt gm 0) ?_
  clear F; intro a F
  refine T_val F H kr (kyV key) (R_load (own := true) (g := aq2) (all := (arrF .u8 32 key)) (t := 23) (fr := (0, 0)) 2 kr 23 (.tmp 3) rfl 0 kr (arrF .u8 32 key) (part_all _) _ Tryd.underlying23 rfl (by rw [arrF_size]; kernel_rfl)) ?_
  clear F; intro a F
  refine T_k F H (.slice pa.ad pa.n pa.c) ?_
  clear F; intro a F
  refine T_k F H (sc rq9.g 0 32 rq9.cap) ?_
  clear F; intro a F
  refine T_callX (α := SlR) F H kr 40 #[pt gm 0, kyV key, .slice pa.ad pa.n pa.c, sc rq9.g 0 32 rq9.cap] (fun rX => .tuple #[.slice none 0 0, ni 0]) (fun rX => [bk rq9.g (sl (oct (boxP key pa.l [] 0)) rq9.rest) 5, bk gm (mtr rX.n) 91, bk aq2 (arrF .u8 32 key) 23]) (fun rX => True) (fun w => kr) (fun w H => callsX_putV H (k := 1) rfl (open_nil gm rq9.n key hkey pa hba hna (by omega) (boxP key pa.l [] 0) (boxP_lt key pa.l (by simp) 0) rq9.g 0 rq9.cap _ 5 (0, 0) (slAt (boxP_len _ _ [] 0)) (boxP_len _ _ [] 0) Qrq9.2.le (fun i hi => (box_end key pa.l [] 0 hi).symm) (H.apart (i := 0) (j := 1) rfl rfl (by decide)) _ (hW.keptS H.kept (fun _ _ => List.not_mem_nil)) (H.at_ (k := 1) rfl) (hrda.step1 H (k := 1) rfl) (H.at_ (k := 0) rfl))) ?_
  clear F H; intro rq11 a v Qrq11 F H
  refine T_k F H (.tuple #[.slice none 0 0, ni 0]) ?_
  clear F; intro a F
  refine T_k F H (.slice none 0 0) ?_
  clear F; intro a F
  refine T_k F H (ni 0) ?_
  clear F; intro a F
  refine T_k F H (.slice none 0 0) ?_
  clear F; intro a F
  refine T_k F H (ni 0) ?_
  clear F; intro a F
  refine wpList_nil ?_
  refine hK10 _ _ ?_
  clear hK10
  try clear K10
  refine C_seqK (fun K12 hK12 => ?_)
  refine C_region ?_
  refine T_k F H (.bool true) ?_
  clear F; intro a F
  refine T_k F H (.bool true) ?_
  clear F; intro a F
  refine T_k F H (ni 0) ?_
  clear F; intro a F
  refine T_k F H (.bool true) ?_
  clear F; intro a F
  refine T_k F H (.bool true) ?_
  clear F; intro a F
  refine T_k F H (.bool true) ?_
  clear F; intro a F
  refine T_k F H (ni 0) ?_
  clear F; intro a F
  refine T_k F H (.bool true) ?_
  clear F; intro a F
  refine T_k F H (.bool true) ?_
  clear F; intro a F
  refine T_k F H (.bool true) ?_
  clear F; intro a F
  refine T_k F H (sc rq9.g 0 32 rq9.cap) ?_
  clear F; intro a F
  refine T_k F H (ni 32) ?_
  clear F; intro a F
  refine T_k F H (.slice dx 0 cx) ?_
  clear F; intro a F
  refine T_k F H (ni 0) ?_
  clear F; intro a F
  refine T_k F H (ni 32) ?_
  clear F; intro a F
  refine T_k F H (.bool true) ?_
  clear F; intro a F
  refine T_k F H (.bool true) ?_
  clear F; intro a F
  refine T_k F H (.bool true) ?_
  clear F; intro a F
  refine T_k F H (.slice none 0 0) ?_
  clear F; intro a F
  refine T_k F H (.slice dx 0 cx) ?_
  clear F; intro a F
  refine T_call F H kr 42 #[.slice none 0 0, .slice dx 0 cx] (.bool true) (fun w => kr) (lsame_nil none dx 0 cx _) ?_
  clear F H; intro a v F H
  refine T_k F H (.bool true) ?_
  clear F; intro a F
  refine T_k F H (.bool true) ?_
  clear F; intro a F
  refine wpList_nil ?_
  refine hK12 _ _ ?_
  clear hK12
  try clear K12
  refine wp_ret ?_
  exact C_ret F H (rs := [.tmp 6]) rfl (vs := [.bool true]) (.tmp rfl .nil) (.bool true) rfl ⟨rfl, H.kept⟩

set_option maxRecDepth 100000 in
set_option maxHeartbeats 4000000 in
theorem sb_some (key : Nat → Nat) (hkey : ∀ i, i < 32 → key i < 256) (pa : SlP) (hba : ∀ x ∈ pa.l, x < 256) (hna : pa.l.length = pa.n) (h1 : pa.n ≤ 300) (tl : List Nat) (htl : ∀ x ∈ tl, x < 256) (gx ox nx cx : Nat) (ax : Array Value) (tx : TypeId) (fx : Nat × Nat) (harx : ∀ j, j < nx → ax[ox + j]? = some (.int .u8 ((tl.getD j 0 : Nat) : Int))) (hlx : tl.length = nx) (hcx : nx ≤ cx) (hpx : 0 < nx) (h2 : nx ≤ 300) (w : World) (hW : LaidS w) (hrda : RdK [] w pa) (hltx : gx < w.heap.size) (hgx : w.heap[gx]? = some (.cells ax tx fx)) : Calls Tryd.prog 12 #[.agg (arrF .u8 32 key), .slice pa.ad pa.n pa.c, .slice (some ⟨gx, ox, none⟩) nx cx] w fun e w' => e = .returned (.bool true) ∧ Kept [] w w' := by
  refine C_enter Tryd.func12 rfl 62 Tryd.ntmps12 (Nat.le_of_ble_eq_true rfl) (fun a F => ?_)
  have H := Hp.start [] w
  replace F : Fm 62 [] [(0, kyV key), (1, .slice pa.ad pa.n pa.c), (2, sc gx ox nx cx)] a := F.weak _ (subL_of kr)
  refine C_seqK (fun K1 hK1 => ?_)
  refine C_region ?_
  refine T_new F H kr (fun ad => pt ad 0) (ce (arrF .u8 32 key) 23) (fun w => kr) ?_
  clear F H; intro aq2 a v F H
  refine T_k F H (.bool false) ?_
  clear F; intro a F
  refine wpList_nil ?_
  refine hK1 _ _ ?_
  clear hK1
  try clear K1
  refine C_seqK (fun K3 hK3 => ?_)
  refine C_region ?_
  refine T_call F H kr 39 #[] (.bool true) (fun w => kr) (awake05_any _ (hW.keptS H.kept (fun _ _ => List.not_mem_nil))) ?_
  clear F H; intro a v F H
  refine T_k F H (.bool true) ?_
  clear F; intro a F
  refine wpList_nil ?_
  refine hK3 _ _ ?_
  clear hK3
  try clear K3
  refine C_seqK (fun K4 hK4 => ?_)
  refine C_seqK (fun K5 hK5 => ?_)
  refine C_region ?_
  refine T_k F H (.slice pa.ad pa.n pa.c) ?_
  clear F; intro a F
  refine T_k F H (ni pa.n) ?_
  clear F; intro a F
  refine T_val F H kr (.bool false) (fun w _ => R_bin (x := (.tmp 15)) (y := (.const (.int .i64 300))) rfl (k := .i64) (a := ((pa.n : Nat) : Int)) (b := ((300 : Nat) : Int)) kr kr (i_ngtn (by omega)) w) ?_
  clear F; intro a F
  refine T_k F H (.bool false) ?_
  clear F; intro a F
  refine T_k F H (sc gx ox nx cx) ?_
  clear F; intro a F
  refine T_k F H (ni nx) ?_
  clear F; intro a F
  refine T_val F H kr (.bool false) (fun w _ => R_bin (x := (.tmp 19)) (y := (.const (.int .i64 300))) rfl (k := .i64) (a := ((nx : Nat) : Int)) (b := ((300 : Nat) : Int)) kr kr (i_ngtn (by omega)) w) ?_
  clear F; intro a F
  refine T_k F H (.bool false) ?_
  clear F; intro a F
  refine wpList_nil ?_
  refine hK5 _ _ ?_
  clear hK5
  try clear K5
  refine C_if F false rfl rfl ?_
  refine wp_skip ?_
  refine hK4 _ _ ?_
  clear hK4
  try clear K4
  refine C_seqK (fun K6 hK6 => ?_)
  refine C_region ?_
  refine T_callX (α := SlR) F H kr 18 #[.bool false] (fun rX => pt rX.g 0) (fun rX => [bk rX.g (mtr 0) 91, bk aq2 (arrF .u8 32 key) 23]) (fun rX => True) (fun w => kr) (fun w H => callsX_newV H (newM_any _)) ?_
  clear F H; intro rq7 a v Qrq7 F H
  refine T_k F H (pt rq7.g 0) ?_
  clear F; intro a F
  refine wpList_nil ?_
  generalize rq7.g = gm at F H
  refine hK6 _ _ ?_
  clear hK6
  try clear K6
  refine C_seqK (fun K8 hK8 => ?_)
  have hov_gm : w.heap.size ≤ gm := (H.own _ (List.mem_of_getElem? (i := 0) rfl) rfl).resolve_right List.not_mem_nil
  refine C_region ?_
  refine T_k F H (pt gm 0) ?_
  clear F; intro a F
  refine T_val F H kr (kyV key) (R_load (own := true) (g := aq2) (all := (arrF .u8 32 key)) (t := 23) (fr := (0, 0)) 1 kr 23 (.tmp 3) rfl 0 kr (arrF .u8 32 key) (part_all _) _ Tryd.underlying23 rfl (by rw [arrF_size]; kernel_rfl)) ?_
  clear F; intro a F
  refine T_k F H (.slice pa.ad pa.n pa.c) ?_
  clear F; intro a F
  refine T_k F H (sc gx ox nx cx) ?_
  clear F; intro a F
  refine T_callX (α := SlR) F H kr 43 #[pt gm 0, kyV key, .slice pa.ad pa.n pa.c, sc gx ox nx cx] (fun rX => .tuple #[sc rX.g 0 (nx + 32) rX.cap, ni 0]) (fun rX => [bk rX.g (sl (oct (boxP key pa.l tl nx)) rX.rest) 5, bk gm (mtr rX.n) 91, bk aq2 (arrF .u8 32 key) 23]) (fun rX => (True) ∧ (Own (oct (boxP key pa.l tl nx)) rX.rest (nx + 32) rX.cap 1)) (fun w => kr) (fun w H => callsX_bothV H (k := 0) rfl (seal_some gm 0 key hkey pa hba hna (by omega) tl htl gx ox nx cx ax tx fx harx hpx (by omega) hcx (fun e => Nat.not_lt.2 (by rw [e]; exact hov_gm) hltx) _ (hW.keptS H.kept (fun _ _ => List.not_mem_nil)) (H.at_ (k := 0) rfl) (hrda.step1 H (k := 0) rfl) ((H.kept.block gx hltx List.not_mem_nil).trans hgx))) ?_
  clear F H; intro rq9 a v Qrq9 F H
  refine T_k F H (.tuple #[sc rq9.g 0 (nx + 32) rq9.cap, ni 0]) ?_
  clear F; intro a F
  refine T_k F H (sc rq9.g 0 (nx + 32) rq9.cap) ?_
  clear F; intro a F
  refine T_k F H (ni 0) ?_
  clear F; intro a F
  refine T_k F H (sc rq9.g 0 (nx + 32) rq9.cap) ?_
  clear F; intro a F
  refine T_k F H (ni 0) ?_
  clear F; intro a F
  refine wpList_nil ?_
  refine hK8 _ _ ?_
  clear hK8
  try clear K8
  refine C_seqK (fun K10 hK10 => ?_)
  refine C_region ?_
  refine T_k F H (pt gm 0) ?_
  clear F; intro a F
  refine T_val F H kr (kyV key) (R_load (own := true) (g := aq2) (all := (arrF .u8 32 key)) (t := 23) (fr := (0, 0)) 2 kr 23 (.tmp 3) rfl 0 kr (arrF .u8 32 key) (part_all _) _ Tryd.underlying23 rfl (by rw [arrF_size]; kernel_rfl)) ?_
  clear F; intro a F
  refine T_k F H (.slice pa.ad pa.n pa.c) ?_
  clear F; intro a F
  refine T_k F H (sc rq9.g 0 (nx + 32) rq9.cap) ?_
  clear F; intro a F
  refine T_callX (α := SlR) F H kr 40 #[pt gm 0, kyV key, .slice pa.ad pa.n pa.c, sc rq9.g 0 (nx + 32) rq9.cap] (fun rX => .tuple #[sc rX.g 0 nx rX.cap, ni 0]) (fun rX => [bk rX.g (sl (oct (tl)) rX.rest) 5, bk rq9.g (sl (oct (boxP key pa.l tl nx)) rq9.rest) 5, bk gm (mtr rX.n) 91, bk aq2 (arrF .u8 32 key) 23]) (fun rX => (True) ∧ (Own (oct (tl)) rX.rest nx rX.cap 1)) (fun w => kr) (fun w H => callsX_bothV H (k := 1) rfl ((by have h := open_some gm rq9.n key hkey pa hba hna (by omega) (boxP key pa.l tl nx) (boxP_lt key pa.l htl nx) rq9.g 0 (nx + 32) rq9.cap _ 5 (0, 0) (slAt (boxP_len _ _ _ _)) (boxP_len _ _ _ _) Qrq9.2.le (by omega) (by omega) (box_ok key pa.l tl nx) (H.apart (i := 0) (j := 1) rfl rfl (by decide)) _ (hW.keptS H.kept (fun _ _ => List.not_mem_nil)) (H.at_ (k := 1) rfl) (hrda.step1 H (k := 1) rfl) (H.at_ (k := 0) rfl); rw [box_back key pa.l hlx, Nat.add_sub_cancel] at h; exact h))) ?_
  clear F H; intro rq11 a v Qrq11 F H
  refine T_k F H (.tuple #[sc rq11.g 0 nx rq11.cap, ni 0]) ?_
  clear F; intro a F
  refine T_k F H (sc rq11.g 0 nx rq11.cap) ?_
  clear F; intro a F
  refine T_k F H (ni 0) ?_
  clear F; intro a F
  refine T_k F H (sc rq11.g 0 nx rq11.cap) ?_
  clear F; intro a F
  refine T_k F H (ni 0) ?_
  clear F; intro a F
  refine wpList_nil ?_
  have hov_rq11_g : w.heap.size ≤ rq11.g := (H.own _ (List.mem_of_getElem? (i := 0) rfl) rfl).resolve_right List.not_mem_nil
  refine hK10 _ _ ?_
  clear hK10
  try clear K10
  refine C_seqK (fun K12 hK12 => ?_)
  refine C_region ?_
  refine T_k F H (.bool true) ?_
  clear F; intro a F
  refine T_k F H (.bool true) ?_
  clear F; intro a F
  refine T_k F H (ni 0) ?_
  clear F; intro a F
  refine T_k F H (.bool true) ?_
  clear F; intro a F
  refine T_k F H (.bool true) ?_
  clear F; intro a F
  refine T_k F H (.bool true) ?_
  clear F; intro a F
  refine T_k F H (ni 0) ?_
  clear F; intro a F
  refine T_k F H (.bool true) ?_
  clear F; intro a F
  refine T_k F H (.bool true) ?_
  clear F; intro a F
  refine T_k F H (.bool true) ?_
  clear F; intro a F
  refine T_k F H (sc rq9.g 0 (nx + 32) rq9.cap) ?_
  clear F; intro a F
  refine T_k F H (ni (nx + 32)) ?_
  clear F; intro a F
  refine T_k F H (sc gx ox nx cx) ?_
  clear F; intro a F
  refine T_k F H (ni nx) ?_
  clear F; intro a F
  refine T_val F H kr (ni (nx + 32)) (fun w _ => R_bin (x := (.tmp 53)) (y := (.const (.int .i64 32))) rfl (k := .i64) (a := ((nx : Nat) : Int)) (b := ((32 : Nat) : Int)) kr kr (i_addn64 (a := nx) (b := 32) (by omega)) w) ?_
  clear F; intro a F
  refine T_val F H kr (.bool true) (fun w _ => R_bin (x := (.tmp 51)) (y := (.tmp 54)) rfl (k := .i64) (a := (((nx + 32) : Nat) : Int)) (b := (((nx + 32) : Nat) : Int)) kr kr (i_eq rfl) w) ?_
  clear F; intro a F
  refine T_k F H (.bool true) ?_
  clear F; intro a F
  refine T_k F H (.bool true) ?_
  clear F; intro a F
  refine T_k F H (sc rq11.g 0 nx rq11.cap) ?_
  clear F; intro a F
  refine T_k F H (sc gx ox nx cx) ?_
  clear F; intro a F
  refine T_call F H kr 42 #[sc rq11.g 0 nx rq11.cap, sc gx ox nx cx] (.bool true) (fun w => kr) (lsame_any tl tl rq11.g 0 nx rq11.cap _ 5 (0, 0) gx ox cx ax tx fx (slAt hlx) harx (by omega) true ⟨fun _ _ _ => rfl, fun _ => rfl⟩ _ (H.at_ (k := 0) rfl) ((H.kept.block gx hltx List.not_mem_nil).trans hgx) (Ne.symm (fun e => Nat.not_lt.2 (by rw [e]; exact hov_rq11_g) hltx))) ?_
  clear F H; intro a v F H
  refine T_k F H (.bool true) ?_
  clear F; intro a F
  refine T_k F H (.bool true) ?_
  clear F; intro a F
  refine wpList_nil ?_
  refine hK12 _ _ ?_
  clear hK12
  try clear K12
  refine wp_ret ?_
  exact C_ret F H (rs := [.tmp 6]) rfl (vs := [.bool true]) (.tmp rfl .nil) (.bool true) rfl ⟨rfl, H.kept⟩

theorem sealBack_any (key : Nat → Nat) (hkey : ∀ i, i < 32 → key i < 256) (pa : SlP) (hba : ∀ x ∈ pa.l, x < 256) (hna : pa.l.length = pa.n) (d : Option Addr) (n c : Nat) (l : List Nat) (hb : ∀ x ∈ l, x < 256) (hn : l.length = n) (w : World) (hW : LaidS w) (hrda : RdK [] w pa) (hrd : RdK [] w ⟨d, n, c, l⟩) : Calls Tryd.prog 12 #[.agg (arrF .u8 32 key), .slice pa.ad pa.n pa.c, .slice d n c] w fun e w' => e = .returned (.bool true) ∧ Kept [] w w' := by
  by_cases h1 : 300 < pa.n
  · exact sb_long1 key hkey pa hba hna h1 d n c w hW hrda
  by_cases h2 : 300 < n
  · exact sb_long2 key hkey pa hba hna (by omega) d n c h2 w hW hrda
  by_cases h3 : n = 0
  · subst h3
    exact sb_none key hkey pa hba hna (by omega) d c w hW hrda
  obtain ⟨g, off, arr, t, fr, rfl, q1, q2, q3, q4⟩ := blk_of_rdk hrd hn (by omega)
  exact sb_some key hkey pa hba hna (by omega) l hb g off n c arr t fr q4 hn q1 (by omega) (by omega) w hW hrda q2 q3
end Go.Proofs.YtdejhenkdbjakaaDoor
