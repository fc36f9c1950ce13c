/- Walks: SignerVerifies. -/
import Derived.Test.YtdejhenkdbjakaaDoorXD
import Derived.Test.YtdejhenkdbjakaaDoorXE
set_option linter.unusedVariables false
set_option linter.unusedSimpArgs false
namespace Go.Proofs.YtdejhenkdbjakaaDoor
open Go Go.RowKit
set_option maxRecDepth 100000 in
set_option maxHeartbeats 4000000 in
theorem sv_long1 (pub : Nat → Nat) (hpub : ∀ i, i < 32 → pub i < 256) (nn : Nat) (hnn : nn < 4294967296) (p : SlP) (hbk : ∀ x ∈ p.l, x < 256) (hn : p.l.length = p.n) (ad : Option Addr) (len cp : Nat) (h1 : 300 < p.n) (w : World) (hW : Laid w) (hrd : RdK [] w p) : Calls Tryd.prog 8 #[.agg (arrF .u8 32 pub), .int .u32 ((nn : Nat) : Int), .slice p.ad p.n p.c, .slice ad len cp] w fun e w' => e = .returned (.bool true) ∧ Kept [] w w' := by
  refine C_enter Tryd.func8 rfl 43 Tryd.ntmps8 (Nat.le_of_ble_eq_true rfl) (fun a F => ?_)
  have H := Hp.start [] w
  replace F : Fm 43 [] [(0, kyV pub), (1, nw nn), (2, .slice p.ad p.n p.c), (3, .slice ad len cp)] a := F.weak _ (subL_of kr)
  refine C_seqK (fun K1 hK1 => ?_)
  refine C_region ?_
  refine T_new F H kr (fun ad => pt ad 0) (ce (arrF .u8 32 pub) 23) (fun w => kr) ?_
  clear F H; intro aq2 a v F H
  refine T_k F H (.bool false) ?_
  clear F; intro a F
  refine wpList_nil ?_
  refine hK1 _ _ ?_
  clear hK1
  try clear K1
  refine C_seqK (fun K3 hK3 => ?_)
  refine C_region ?_
  refine T_call F H kr 30 #[] (.bool true) (fun w => kr) (awake17_any _ (hW.kept H.kept List.not_mem_nil List.not_mem_nil)) ?_
  clear F H; intro a v F H
  refine T_k F H (.bool true) ?_
  clear F; intro a F
  refine wpList_nil ?_
  refine hK3 _ _ ?_
  clear hK3
  try clear K3
  refine C_seqK (fun K4 hK4 => ?_)
  refine C_seqK (fun K5 hK5 => ?_)
  refine C_region ?_
  refine T_k F H (.slice p.ad p.n p.c) ?_
  clear F; intro a F
  refine T_k F H (ni p.n) ?_
  clear F; intro a F
  refine T_val F H kr (.bool true) (fun w _ => R_bin (x := (.tmp 15)) (y := (.const (.int .i64 300))) rfl (k := .i64) (a := ((p.n : Nat) : Int)) (b := ((300 : Nat) : Int)) kr kr (i_gtn (by omega)) w) ?_
  clear F; intro a F
  refine T_k F H (.bool true) ?_
  clear F; intro a F
  refine T_skip F kr kr ?_
  clear F; intro a F
  refine T_skip F kr kr ?_
  clear F; intro a F
  refine T_skip F kr kr ?_
  clear F; intro a F
  refine T_k F H (.bool true) ?_
  clear F; intro a F
  refine wpList_nil ?_
  refine hK5 _ _ ?_
  clear hK5
  try clear K5
  refine C_if F true rfl rfl ?_
  refine C_seqK (fun K6 hK6 => ?_)
  refine C_region ?_
  refine T_k F H (.bool true) ?_
  clear F; intro a F
  refine T_k F H (.bool true) ?_
  clear F; intro a F
  refine wpList_nil ?_
  refine hK6 _ _ ?_
  clear hK6
  try clear K6
  refine wp_ret ?_
  repeat (first | with_reducible refine then_ret ?_ | with_reducible refine inB_ret ?_)
  exact C_ret F H (rs := [.tmp 8]) rfl (vs := [.bool true]) (.tmp rfl .nil) (.bool true) rfl ⟨rfl, H.kept⟩

set_option maxRecDepth 100000 in
set_option maxHeartbeats 4000000 in
theorem sv_long2 (pub : Nat → Nat) (hpub : ∀ i, i < 32 → pub i < 256) (nn : Nat) (hnn : nn < 4294967296) (p : SlP) (hbk : ∀ x ∈ p.l, x < 256) (hn : p.l.length = p.n) (ad : Option Addr) (len cp : Nat) (h1 : p.n ≤ 300) (h2 : 80 < len) (w : World) (hW : Laid w) (hrd : RdK [] w p) : Calls Tryd.prog 8 #[.agg (arrF .u8 32 pub), .int .u32 ((nn : Nat) : Int), .slice p.ad p.n p.c, .slice ad len cp] w fun e w' => e = .returned (.bool true) ∧ Kept [] w w' := by
  refine C_enter Tryd.func8 rfl 43 Tryd.ntmps8 (Nat.le_of_ble_eq_true rfl) (fun a F => ?_)
  have H := Hp.start [] w
  replace F : Fm 43 [] [(0, kyV pub), (1, nw nn), (2, .slice p.ad p.n p.c), (3, .slice ad len cp)] a := F.weak _ (subL_of kr)
  refine C_seqK (fun K1 hK1 => ?_)
  refine C_region ?_
  refine T_new F H kr (fun ad => pt ad 0) (ce (arrF .u8 32 pub) 23) (fun w => kr) ?_
  clear F H; intro aq2 a v F H
  refine T_k F H (.bool false) ?_
  clear F; intro a F
  refine wpList_nil ?_
  refine hK1 _ _ ?_
  clear hK1
  try clear K1
  refine C_seqK (fun K3 hK3 => ?_)
  refine C_region ?_
  refine T_call F H kr 30 #[] (.bool true) (fun w => kr) (awake17_any _ (hW.kept H.kept List.not_mem_nil List.not_mem_nil)) ?_
  clear F H; intro a v F H
  refine T_k F H (.bool true) ?_
  clear F; intro a F
  refine wpList_nil ?_
  refine hK3 _ _ ?_
  clear hK3
  try clear K3
  refine C_seqK (fun K4 hK4 => ?_)
  refine C_seqK (fun K5 hK5 => ?_)
  refine C_region ?_
  refine T_k F H (.slice p.ad p.n p.c) ?_
  clear F; intro a F
  refine T_k F H (ni p.n) ?_
  clear F; intro a F
  refine T_val F H kr (.bool false) (fun w _ => R_bin (x := (.tmp 15)) (y := (.const (.int .i64 300))) rfl (k := .i64) (a := ((p.n : Nat) : Int)) (b := ((300 : Nat) : Int)) kr kr (i_ngtn (by omega)) w) ?_
  clear F; intro a F
  refine T_k F H (.bool false) ?_
  clear F; intro a F
  refine T_k F H (.slice ad len cp) ?_
  clear F; intro a F
  refine T_k F H (ni len) ?_
  clear F; intro a F
  refine T_val F H kr (.bool true) (fun w _ => R_bin (x := (.tmp 19)) (y := (.const (.int .i64 80))) rfl (k := .i64) (a := ((len : Nat) : Int)) (b := ((80 : Nat) : Int)) kr kr (i_gtn (by omega)) w) ?_
  clear F; intro a F
  refine T_k F H (.bool true) ?_
  clear F; intro a F
  refine wpList_nil ?_
  refine hK5 _ _ ?_
  clear hK5
  try clear K5
  refine C_if F true rfl rfl ?_
  refine C_seqK (fun K6 hK6 => ?_)
  refine C_region ?_
  refine T_k F H (.bool true) ?_
  clear F; intro a F
  refine T_k F H (.bool true) ?_
  clear F; intro a F
  refine wpList_nil ?_
  refine hK6 _ _ ?_
  clear hK6
  try clear K6
  refine wp_ret ?_
  repeat (first | with_reducible refine then_ret ?_ | with_reducible refine inB_ret ?_)
  exact C_ret F H (rs := [.tmp 8]) rfl (vs := [.bool true]) (.tmp rfl .nil) (.bool true) rfl ⟨rfl, H.kept⟩

set_option maxRecDepth 100000 in
set_option maxHeartbeats 4000000 in
theorem sv_short (pub : Nat → Nat) (hpub : ∀ i, i < 32 → pub i < 256) (nn : Nat) (hnn : nn < 4294967296) (p : SlP) (hbk : ∀ x ∈ p.l, x < 256) (hn : p.l.length = p.n) (ad : Option Addr) (len cp : Nat) (h1 : p.n ≤ 300) (h2 : len ≤ 80) (h3 : len ≠ 67) (w : World) (hW : Laid w) (hrd : RdK [] w p) : Calls Tryd.prog 8 #[.agg (arrF .u8 32 pub), .int .u32 ((nn : Nat) : Int), .slice p.ad p.n p.c, .slice ad len cp] w fun e w' => e = .returned (.bool true) ∧ Kept [] w w' := by
  refine C_enter Tryd.func8 rfl 43 Tryd.ntmps8 (Nat.le_of_ble_eq_true rfl) (fun a F => ?_)
  have H := Hp.start [] w
  replace F : Fm 43 [] [(0, kyV pub), (1, nw nn), (2, .slice p.ad p.n p.c), (3, .slice ad len cp)] a := F.weak _ (subL_of kr)
  refine C_seqK (fun K1 hK1 => ?_)
  refine C_region ?_
  refine T_new F H kr (fun ad => pt ad 0) (ce (arrF .u8 32 pub) 23) (fun w => kr) ?_
  clear F H; intro aq2 a v F H
  refine T_k F H (.bool false) ?_
  clear F; intro a F
  refine wpList_nil ?_
  refine hK1 _ _ ?_
  clear hK1
  try clear K1
  refine C_seqK (fun K3 hK3 => ?_)
  refine C_region ?_
  refine T_call F H kr 30 #[] (.bool true) (fun w => kr) (awake17_any _ (hW.kept H.kept List.not_mem_nil List.not_mem_nil)) ?_
  clear F H; intro a v F H
  refine T_k F H (.bool true) ?_
  clear F; intro a F
  refine wpList_nil ?_
  refine hK3 _ _ ?_
  clear hK3
  try clear K3
  refine C_seqK (fun K4 hK4 => ?_)
  refine C_seqK (fun K5 hK5 => ?_)
  refine C_region ?_
  refine T_k F H (.slice p.ad p.n p.c) ?_
  clear F; intro a F
  refine T_k F H (ni p.n) ?_
  clear F; intro a F
  refine T_val F H kr (.bool false) (fun w _ => R_bin (x := (.tmp 15)) (y := (.const (.int .i64 300))) rfl (k := .i64) (a := ((p.n : Nat) : Int)) (b := ((300 : Nat) : Int)) kr kr (i_ngtn (by omega)) w) ?_
  clear F; intro a F
  refine T_k F H (.bool false) ?_
  clear F; intro a F
  refine T_k F H (.slice ad len cp) ?_
  clear F; intro a F
  refine T_k F H (ni len) ?_
  clear F; intro a F
  refine T_val F H kr (.bool false) (fun w _ => R_bin (x := (.tmp 19)) (y := (.const (.int .i64 80))) rfl (k := .i64) (a := ((len : Nat) : Int)) (b := ((80 : Nat) : Int)) kr kr (i_ngtn (by omega)) w) ?_
  clear F; intro a F
  refine T_k F H (.bool false) ?_
  clear F; intro a F
  refine wpList_nil ?_
  refine hK5 _ _ ?_
  clear hK5
  try clear K5
  refine C_if F false rfl rfl ?_
  refine wp_skip ?_
  refine hK4 _ _ ?_
  clear hK4
  try clear K4
  refine C_seqK (fun K6 hK6 => ?_)
  refine C_region ?_
  refine T_callX (α := SlR) F H kr 18 #[.bool false] (fun rX => pt rX.g 0) (fun rX => [bk rX.g (mtr 0) 91, bk aq2 (arrF .u8 32 pub) 23]) (fun rX => True) (fun w => kr) (fun w H => callsX_newV H (newM_any _)) ?_
  clear F H; intro rq7 a v Qrq7 F H
  refine T_k F H (pt rq7.g 0) ?_
  clear F; intro a F
  refine wpList_nil ?_
  generalize rq7.g = gm at F H
  refine hK6 _ _ ?_
  clear hK6
  try clear K6
  refine C_seqK (fun K8 hK8 => ?_)
  refine C_region ?_
  refine T_k F H (.agg #[.bool false, .int .i64 0, .slice none 0 0]) ?_
  clear F; intro a F
  refine T_new F H kr (fun ad => pt ad 0) (ce #[.bool false, .int .i64 0, .slice none 0 0] 32) (fun w => kr) ?_
  clear F H; intro aq9 a v F H
  refine T_k F H (pt aq9 0) ?_
  clear F; intro a F
  refine wpList_nil ?_
  rw [show (#[.bool false, .int .i64 0, .slice none 0 0] : Array Value) = lgr 0 from kr] at H
  generalize aq9 = gl at F H
  refine hK8 _ _ ?_
  clear hK8
  try clear K8
  refine C_seqK (fun K10 hK10 => ?_)
  have hov_gm : ∀ x ∈ [gm], w.heap.size ≤ x := fun x hx => by
    rw [List.mem_singleton.1 hx]
    exact (H.own _ (List.mem_of_getElem? (i := 1) rfl) rfl).resolve_right List.not_mem_nil
  have hov_gl : ∀ x ∈ [gl], w.heap.size ≤ x := fun x hx => by
    rw [List.mem_singleton.1 hx]
    exact (H.own _ (List.mem_of_getElem? (i := 0) rfl) rfl).resolve_right List.not_mem_nil
  refine C_region ?_
  refine T_k F H (pt gm 0) ?_
  clear F; intro a F
  refine T_val F H kr (kyV pub) (R_load (own := true) (g := aq2) (all := (arrF .u8 32 pub)) (t := 23) (fr := (0, 0)) 2 kr 23 (.tmp 4) rfl 0 kr (arrF .u8 32 pub) (part_all _) _ Tryd.underlying23 rfl (by rw [arrF_size]; kernel_rfl)) ?_
  clear F; intro a F
  refine T_k F H (nw nn) ?_
  clear F; intro a F
  refine T_k F H (.slice p.ad p.n p.c) ?_
  clear F; intro a F
  refine T_k F H (.slice ad len cp) ?_
  clear F; intro a F
  refine T_callX (α := SlR) F H kr 31 #[pt gm 0, kyV pub, nw nn, .slice p.ad p.n p.c, .slice ad len cp] (fun rX => ni 40) (fun rX => [bk gl (lgr 0) 32, bk gm (mtr rX.n) 91, bk aq2 (arrF .u8 32 pub) 23]) (fun rX => True) (fun w => kr) (fun w H => callsX_putV H (k := 1) rfl (verify_short gm 0 pub nn hnn p hbk hn (by omega) ad len cp (by omega) _ (hrd.from H.kept hov_gm) (hW.kept H.kept List.not_mem_nil List.not_mem_nil) (H.at_ (k := 1) rfl))) ?_
  clear F H; intro rq11 a v Qrq11 F H
  refine T_k F H (ni 40) ?_
  clear F; intro a F
  refine wpList_nil ?_
  refine hK10 _ _ ?_
  clear hK10
  try clear K10
  refine C_seqK (fun K12 hK12 => ?_)
  refine C_region ?_
  refine T_k F H (.bool true) ?_
  clear F; intro a F
  refine T_k F H (.bool true) ?_
  clear F; intro a F
  refine T_k F H (ni 40) ?_
  clear F; intro a F
  refine T_k F H (pt gl 0) ?_
  clear F; intro a F
  refine T_val F H kr (kyV pub) (R_load (own := true) (g := aq2) (all := (arrF .u8 32 pub)) (t := 23) (fr := (0, 0)) 2 kr 23 (.tmp 4) rfl 0 kr (arrF .u8 32 pub) (part_all _) _ Tryd.underlying23 rfl (by rw [arrF_size]; kernel_rfl)) ?_
  clear F; intro a F
  refine T_k F H (nw nn) ?_
  clear F; intro a F
  refine T_k F H (.slice p.ad p.n p.c) ?_
  clear F; intro a F
  refine T_k F H (.slice ad len cp) ?_
  clear F; intro a F
  refine T_callX (α := SlR) F H kr 32 #[pt gl 0, kyV pub, nw nn, .slice p.ad p.n p.c, .slice ad len cp] (fun rX => ni 40) (fun rX => [bk gl (lgr rX.n) 32, bk gm (mtr rq11.n) 91, bk aq2 (arrF .u8 32 pub) 23]) (fun rX => True) (fun w => kr) (fun w H => callsX_putV H (k := 0) rfl (lverify_short gl 0 pub nn hnn p hbk hn (by omega) ad len cp (by omega) _ (hrd.from H.kept hov_gl) (H.at_ (k := 0) rfl))) ?_
  clear F H; intro rq13 a v Qrq13 F H
  refine T_k F H (.bool true) ?_
  clear F; intro a F
  refine T_k F H (.bool true) ?_
  clear F; intro a F
  refine T_k F H (.bool true) ?_
  clear F; intro a F
  refine wpList_nil ?_
  refine hK12 _ _ ?_
  clear hK12
  try clear K12
  refine wp_ret ?_
  exact C_ret F H (rs := [.tmp 8]) rfl (vs := [.bool true]) (.tmp rfl .nil) (.bool true) rfl ⟨rfl, H.kept⟩

set_option maxRecDepth 100000 in
set_option maxHeartbeats 4000000 in
theorem sv_yes (pub : Nat → Nat) (hpub : ∀ i, i < 32 → pub i < 256) (nn : Nat) (hnn : nn < 4294967296) (p : SlP) (hbk : ∀ x ∈ p.l, x < 256) (hn : p.l.length = p.n) (K : Nat → Nat → Nat) (hK : ∀ k i, i < 32 → K k i < 256) (lb off cp : Nat) (arr : Array Value) (tyl : TypeId) (fr : Nat × Nat) (harr : ∀ k, k < 67 → ∀ j v, (arrF .u8 32 (K k))[j]? = some v → arr[(off + k * 32) + j]? = some v) (h1 : p.n ≤ 300) (hbb : ∀ i, i < 32 → vfK nn p.l K i = pub i) (w : World) (hW : Laid w) (hrd : RdK [] w p) (hl : w.heap[lb]? = some (.cells arr tyl fr)) : Calls Tryd.prog 8 #[.agg (arrF .u8 32 pub), .int .u32 ((nn : Nat) : Int), .slice p.ad p.n p.c, .slice (some ⟨lb, off, none⟩) 67 cp] w fun e w' => e = .returned (.bool true) ∧ Kept [] w w' := by
  refine C_enter Tryd.func8 rfl 43 Tryd.ntmps8 (Nat.le_of_ble_eq_true rfl) (fun a F => ?_)
  have H := Hp.start1 [] hl
  replace F : Fm 43 [] [(0, kyV pub), (1, nw nn), (2, .slice p.ad p.n p.c), (3, sc lb off 67 cp)] a := F.weak _ (subL_of kr)
  refine C_seqK (fun K1 hK1 => ?_)
  refine C_region ?_
  refine T_new F H kr (fun ad => pt ad 0) (ce (arrF .u8 32 pub) 23) (fun w => kr) ?_
  clear F H; intro aq2 a v F H
  refine T_k F H (.bool false) ?_
  clear F; intro a F
  refine wpList_nil ?_
  refine hK1 _ _ ?_
  clear hK1
  try clear K1
  refine C_seqK (fun K3 hK3 => ?_)
  refine C_region ?_
  refine T_call F H kr 30 #[] (.bool true) (fun w => kr) (awake17_any _ (hW.kept H.kept List.not_mem_nil List.not_mem_nil)) ?_
  clear F H; intro a v F H
  refine T_k F H (.bool true) ?_
  clear F; intro a F
  refine wpList_nil ?_
  refine hK3 _ _ ?_
  clear hK3
  try clear K3
  refine C_seqK (fun K4 hK4 => ?_)
  refine C_seqK (fun K5 hK5 => ?_)
  refine C_region ?_
  refine T_k F H (.slice p.ad p.n p.c) ?_
  clear F; intro a F
  refine T_k F H (ni p.n) ?_
  clear F; intro a F
  refine T_val F H kr (.bool false) (fun w _ => R_bin (x := (.tmp 15)) (y := (.const (.int .i64 300))) rfl (k := .i64) (a := ((p.n : Nat) : Int)) (b := ((300 : Nat) : Int)) kr kr (i_ngtn (by omega)) w) ?_
  clear F; intro a F
  refine T_k F H (.bool false) ?_
  clear F; intro a F
  refine T_k F H (sc lb off 67 cp) ?_
  clear F; intro a F
  refine T_k F H (ni 67) ?_
  clear F; intro a F
  refine T_k F H (.bool false) ?_
  clear F; intro a F
  refine T_k F H (.bool false) ?_
  clear F; intro a F
  refine wpList_nil ?_
  refine hK5 _ _ ?_
  clear hK5
  try clear K5
  refine C_if F false rfl rfl ?_
  refine wp_skip ?_
  refine hK4 _ _ ?_
  clear hK4
  try clear K4
  refine C_seqK (fun K6 hK6 => ?_)
  refine C_region ?_
  refine T_callX (α := SlR) F H kr 18 #[.bool false] (fun rX => pt rX.g 0) (fun rX => [bk rX.g (mtr 0) 91, bk aq2 (arrF .u8 32 pub) 23, ⟨false, lb, .cells arr tyl fr⟩]) (fun rX => True) (fun w => kr) (fun w H => callsX_newV H (newM_any _)) ?_
  clear F H; intro rq7 a v Qrq7 F H
  refine T_k F H (pt rq7.g 0) ?_
  clear F; intro a F
  refine wpList_nil ?_
  generalize rq7.g = gm at F H
  refine hK6 _ _ ?_
  clear hK6
  try clear K6
  refine C_seqK (fun K8 hK8 => ?_)
  refine C_region ?_
  refine T_k F H (.agg #[.bool false, .int .i64 0, .slice none 0 0]) ?_
  clear F; intro a F
  refine T_new F H kr (fun ad => pt ad 0) (ce #[.bool false, .int .i64 0, .slice none 0 0] 32) (fun w => kr) ?_
  clear F H; intro aq9 a v F H
  refine T_k F H (pt aq9 0) ?_
  clear F; intro a F
  refine wpList_nil ?_
  rw [show (#[.bool false, .int .i64 0, .slice none 0 0] : Array Value) = lgr 0 from kr] at H
  generalize aq9 = gl at F H
  refine hK8 _ _ ?_
  clear hK8
  try clear K8
  refine C_seqK (fun K10 hK10 => ?_)
  have hov_gm : ∀ x ∈ [gm], w.heap.size ≤ x := fun x hx => by
    rw [List.mem_singleton.1 hx]
    exact (H.own _ (List.mem_of_getElem? (i := 1) rfl) rfl).resolve_right List.not_mem_nil
  have hov_gl : ∀ x ∈ [gl], w.heap.size ≤ x := fun x hx => by
    rw [List.mem_singleton.1 hx]
    exact (H.own _ (List.mem_of_getElem? (i := 0) rfl) rfl).resolve_right List.not_mem_nil
  have hne_gm : gm ≠ lb := H.apart (i := 1) (j := 3) rfl rfl (by decide)
  have hne_gl : gl ≠ lb := H.apart (i := 0) (j := 3) rfl rfl (by decide)
  refine C_region ?_
  refine T_k F H (pt gm 0) ?_
  clear F; intro a F
  refine T_val F H kr (kyV pub) (R_load (own := true) (g := aq2) (all := (arrF .u8 32 pub)) (t := 23) (fr := (0, 0)) 2 kr 23 (.tmp 4) rfl 0 kr (arrF .u8 32 pub) (part_all _) _ Tryd.underlying23 rfl (by rw [arrF_size]; kernel_rfl)) ?_
  clear F; intro a F
  refine T_k F H (nw nn) ?_
  clear F; intro a F
  refine T_k F H (.slice p.ad p.n p.c) ?_
  clear F; intro a F
  refine T_k F H (sc lb off 67 cp) ?_
  clear F; intro a F
  refine T_callX (α := SlR) F H kr 31 #[pt gm 0, kyV pub, nw nn, .slice p.ad p.n p.c, sc lb off 67 cp] (fun rX => ni 0) (fun rX => [bk gl (lgr 0) 32, bk gm (mtr rX.n) 91, bk aq2 (arrF .u8 32 pub) 23, ⟨false, lb, .cells arr tyl fr⟩]) (fun rX => True) (fun w => kr) (fun w H => callsX_putV H (k := 1) rfl (verify_yes gm 0 pub hpub nn hnn p hbk hn (by omega) K hK lb off cp arr tyl fr harr hbb _ (hrd.from H.kept hov_gm) (hW.kept H.kept List.not_mem_nil List.not_mem_nil) (H.at_ (k := 1) rfl) (H.at_ (k := 3) rfl) hne_gm)) ?_
  clear F H; intro rq11 a v Qrq11 F H
  refine T_k F H (ni 0) ?_
  clear F; intro a F
  refine wpList_nil ?_
  refine hK10 _ _ ?_
  clear hK10
  try clear K10
  refine C_seqK (fun K12 hK12 => ?_)
  refine C_region ?_
  refine T_k F H (.bool true) ?_
  clear F; intro a F
  refine T_k F H (.bool true) ?_
  clear F; intro a F
  refine T_k F H (ni 0) ?_
  clear F; intro a F
  refine T_k F H (pt gl 0) ?_
  clear F; intro a F
  refine T_val F H kr (kyV pub) (R_load (own := true) (g := aq2) (all := (arrF .u8 32 pub)) (t := 23) (fr := (0, 0)) 2 kr 23 (.tmp 4) rfl 0 kr (arrF .u8 32 pub) (part_all _) _ Tryd.underlying23 rfl (by rw [arrF_size]; kernel_rfl)) ?_
  clear F; intro a F
  refine T_k F H (nw nn) ?_
  clear F; intro a F
  refine T_k F H (.slice p.ad p.n p.c) ?_
  clear F; intro a F
  refine T_k F H (sc lb off 67 cp) ?_
  clear F; intro a F
  refine T_callX (α := SlR) F H kr 32 #[pt gl 0, kyV pub, nw nn, .slice p.ad p.n p.c, sc lb off 67 cp] (fun rX => ni 0) (fun rX => [bk gl (lgr rX.n) 32, bk gm (mtr rq11.n) 91, bk aq2 (arrF .u8 32 pub) 23, ⟨false, lb, .cells arr tyl fr⟩]) (fun rX => True) (fun w => kr) (fun w H => callsX_putV H (k := 0) rfl (lverify_yes gl 0 pub hpub nn hnn p hbk hn (by omega) K hK lb off cp arr tyl fr harr hbb _ (hrd.from H.kept hov_gl) (H.at_ (k := 0) rfl) (H.at_ (k := 3) rfl) hne_gl)) ?_
  clear F H; intro rq13 a v Qrq13 F H
  refine T_k F H (.bool true) ?_
  clear F; intro a F
  refine T_k F H (.bool true) ?_
  clear F; intro a F
  refine T_k F H (.bool true) ?_
  clear F; intro a F
  refine wpList_nil ?_
  refine hK12 _ _ ?_
  clear hK12
  try clear K12
  refine wp_ret ?_
  exact C_ret F H (rs := [.tmp 8]) rfl (vs := [.bool true]) (.tmp rfl .nil) (.bool true) rfl ⟨rfl, H.kept⟩

set_option maxRecDepth 100000 in
set_option maxHeartbeats 4000000 in
theorem sv_no (pub : Nat → Nat) (hpub : ∀ i, i < 32 → pub i < 256) (nn : Nat) (hnn : nn < 4294967296) (p : SlP) (hbk : ∀ x ∈ p.l, x < 256) (hn : p.l.length = p.n) (K : Nat → Nat → Nat) (hK : ∀ k i, i < 32 → K k i < 256) (lb off cp : Nat) (arr : Array Value) (tyl : TypeId) (fr : Nat × Nat) (harr : ∀ k, k < 67 → ∀ j v, (arrF .u8 32 (K k))[j]? = some v → arr[(off + k * 32) + j]? = some v) (h1 : p.n ≤ 300) (hbb : ¬ ∀ i, i < 32 → vfK nn p.l K i = pub i) (w : World) (hW : Laid w) (hrd : RdK [] w p) (hl : w.heap[lb]? = some (.cells arr tyl fr)) : Calls Tryd.prog 8 #[.agg (arrF .u8 32 pub), .int .u32 ((nn : Nat) : Int), .slice p.ad p.n p.c, .slice (some ⟨lb, off, none⟩) 67 cp] w fun e w' => e = .returned (.bool true) ∧ Kept [] w w' := by
  refine C_enter Tryd.func8 rfl 43 Tryd.ntmps8 (Nat.le_of_ble_eq_true rfl) (fun a F => ?_)
  have H := Hp.start1 [] hl
  replace F : Fm 43 [] [(0, kyV pub), (1, nw nn), (2, .slice p.ad p.n p.c), (3, sc lb off 67 cp)] a := F.weak _ (subL_of kr)
  refine C_seqK (fun K1 hK1 => ?_)
  refine C_region ?_
  refine T_new F H kr (fun ad => pt ad 0) (ce (arrF .u8 32 pub) 23) (fun w => kr) ?_
  clear F H; intro aq2 a v F H
  refine T_k F H (.bool false) ?_
  clear F; intro a F
  refine wpList_nil ?_
  refine hK1 _ _ ?_
  clear hK1
  try clear K1
  refine C_seqK (fun K3 hK3 => ?_)
  refine C_region ?_
  refine T_call F H kr 30 #[] (.bool true) (fun w => kr) (awake17_any _ (hW.kept H.kept List.not_mem_nil List.not_mem_nil)) ?_
  clear F H; intro a v F H
  refine T_k F H (.bool true) ?_
  clear F; intro a F
  refine wpList_nil ?_
  refine hK3 _ _ ?_
  clear hK3
  try clear K3
  refine C_seqK (fun K4 hK4 => ?_)
  refine C_seqK (fun K5 hK5 => ?_)
  refine C_region ?_
  refine T_k F H (.slice p.ad p.n p.c) ?_
  clear F; intro a F
  refine T_k F H (ni p.n) ?_
  clear F; intro a F
  refine T_val F H kr (.bool false) (fun w _ => R_bin (x := (.tmp 15)) (y := (.const (.int .i64 300))) rfl (k := .i64) (a := ((p.n : Nat) : Int)) (b := ((300 : Nat) : Int)) kr kr (i_ngtn (by omega)) w) ?_
  clear F; intro a F
  refine T_k F H (.bool false) ?_
  clear F; intro a F
  refine T_k F H (sc lb off 67 cp) ?_
  clear F; intro a F
  refine T_k F H (ni 67) ?_
  clear F; intro a F
  refine T_k F H (.bool false) ?_
  clear F; intro a F
  refine T_k F H (.bool false) ?_
  clear F; intro a F
  refine wpList_nil ?_
  refine hK5 _ _ ?_
  clear hK5
  try clear K5
  refine C_if F false rfl rfl ?_
  refine wp_skip ?_
  refine hK4 _ _ ?_
  clear hK4
  try clear K4
  refine C_seqK (fun K6 hK6 => ?_)
  refine C_region ?_
  refine T_callX (α := SlR) F H kr 18 #[.bool false] (fun rX => pt rX.g 0) (fun rX => [bk rX.g (mtr 0) 91, bk aq2 (arrF .u8 32 pub) 23, ⟨false, lb, .cells arr tyl fr⟩]) (fun rX => True) (fun w => kr) (fun w H => callsX_newV H (newM_any _)) ?_
  clear F H; intro rq7 a v Qrq7 F H
  refine T_k F H (pt rq7.g 0) ?_
  clear F; intro a F
  refine wpList_nil ?_
  generalize rq7.g = gm at F H
  refine hK6 _ _ ?_
  clear hK6
  try clear K6
  refine C_seqK (fun K8 hK8 => ?_)
  refine C_region ?_
  refine T_k F H (.agg #[.bool false, .int .i64 0, .slice none 0 0]) ?_
  clear F; intro a F
  refine T_new F H kr (fun ad => pt ad 0) (ce #[.bool false, .int .i64 0, .slice none 0 0] 32) (fun w => kr) ?_
  clear F H; intro aq9 a v F H
  refine T_k F H (pt aq9 0) ?_
  clear F; intro a F
  refine wpList_nil ?_
  rw [show (#[.bool false, .int .i64 0, .slice none 0 0] : Array Value) = lgr 0 from kr] at H
  generalize aq9 = gl at F H
  refine hK8 _ _ ?_
  clear hK8
  try clear K8
  refine C_seqK (fun K10 hK10 => ?_)
  have hov_gm : ∀ x ∈ [gm], w.heap.size ≤ x := fun x hx => by
    rw [List.mem_singleton.1 hx]
    exact (H.own _ (List.mem_of_getElem? (i := 1) rfl) rfl).resolve_right List.not_mem_nil
  have hov_gl : ∀ x ∈ [gl], w.heap.size ≤ x := fun x hx => by
    rw [List.mem_singleton.1 hx]
    exact (H.own _ (List.mem_of_getElem? (i := 0) rfl) rfl).resolve_right List.not_mem_nil
  have hne_gm : gm ≠ lb := H.apart (i := 1) (j := 3) rfl rfl (by decide)
  have hne_gl : gl ≠ lb := H.apart (i := 0) (j := 3) rfl rfl (by decide)
  refine C_region ?_
  refine T_k F H (pt gm 0) ?_
  clear F; intro a F
  refine T_val F H kr (kyV pub) (R_load (own := true) (g := aq2) (all := (arrF .u8 32 pub)) (t := 23) (fr := (0, 0)) 2 kr 23 (.tmp 4) rfl 0 kr (arrF .u8 32 pub) (part_all _) _ Tryd.underlying23 rfl (by rw [arrF_size]; kernel_rfl)) ?_
  clear F; intro a F
  refine T_k F H (nw nn) ?_
  clear F; intro a F
  refine T_k F H (.slice p.ad p.n p.c) ?_
  clear F; intro a F
  refine T_k F H (sc lb off 67 cp) ?_
  clear F; intro a F
  refine T_callX (α := SlR) F H kr 31 #[pt gm 0, kyV pub, nw nn, .slice p.ad p.n p.c, sc lb off 67 cp] (fun rX => ni 40) (fun rX => [bk gl (lgr 0) 32, bk gm (mtr rX.n) 91, bk aq2 (arrF .u8 32 pub) 23, ⟨false, lb, .cells arr tyl fr⟩]) (fun rX => True) (fun w => kr) (fun w H => callsX_putV H (k := 1) rfl (verify_no gm 0 pub hpub nn hnn p hbk hn (by omega) K hK lb off cp arr tyl fr harr hbb _ (hrd.from H.kept hov_gm) (hW.kept H.kept List.not_mem_nil List.not_mem_nil) (H.at_ (k := 1) rfl) (H.at_ (k := 3) rfl) hne_gm)) ?_
  clear F H; intro rq11 a v Qrq11 F H
  refine T_k F H (ni 40) ?_
  clear F; intro a F
  refine wpList_nil ?_
  refine hK10 _ _ ?_
  clear hK10
  try clear K10
  refine C_seqK (fun K12 hK12 => ?_)
  refine C_region ?_
  refine T_k F H (.bool true) ?_
  clear F; intro a F
  refine T_k F H (.bool true) ?_
  clear F; intro a F
  refine T_k F H (ni 40) ?_
  clear F; intro a F
  refine T_k F H (pt gl 0) ?_
  clear F; intro a F
  refine T_val F H kr (kyV pub) (R_load (own := true) (g := aq2) (all := (arrF .u8 32 pub)) (t := 23) (fr := (0, 0)) 2 kr 23 (.tmp 4) rfl 0 kr (arrF .u8 32 pub) (part_all _) _ Tryd.underlying23 rfl (by rw [arrF_size]; kernel_rfl)) ?_
  clear F; intro a F
  refine T_k F H (nw nn) ?_
  clear F; intro a F
  refine T_k F H (.slice p.ad p.n p.c) ?_
  clear F; intro a F
  refine T_k F H (sc lb off 67 cp) ?_
  clear F; intro a F
  refine T_callX (α := SlR) F H kr 32 #[pt gl 0, kyV pub, nw nn, .slice p.ad p.n p.c, sc lb off 67 cp] (fun rX => ni 40) (fun rX => [bk gl (lgr rX.n) 32, bk gm (mtr rq11.n) 91, bk aq2 (arrF .u8 32 pub) 23, ⟨false, lb, .cells arr tyl fr⟩]) (fun rX => True) (fun w => kr) (fun w H => callsX_putV H (k := 0) rfl (lverify_no gl 0 pub hpub nn hnn p hbk hn (by omega) K hK lb off cp arr tyl fr harr hbb _ (hrd.from H.kept hov_gl) (H.at_ (k := 0) rfl) (H.at_ (k := 3) rfl) hne_gl)) ?_
  clear F H; intro rq13 a v Qrq13 F H
  refine T_k F H (.bool true) ?_
  clear F; intro a F
  refine T_k F H (.bool true) ?_
  clear F; intro a F
  refine T_k F H (.bool true) ?_
  clear F; intro a F
  refine wpList_nil ?_
  refine hK12 _ _ ?_
  clear hK12
  try clear K12
  refine wp_ret ?_
  exact C_ret F H (rs := [.tmp 8]) rfl (vs := [.bool true]) (.tmp rfl .nil) (.bool true) rfl ⟨rfl, H.kept⟩

theorem signerVerifies_any (pub : Nat → Nat) (hpub : ∀ i, i < 32 → pub i < 256) (nn : Nat) (hnn : nn < 4294967296) (p : SlP) (hbk : ∀ x ∈ p.l, x < 256) (hn : p.l.length = p.n) (ad : Option Addr) (len cp : Nat) (w : World) (hW : Laid w) (hrd : RdK [] w p) (hl : 0 < len → ∃ (g off : Nat) (arr : Array Value) (t : TypeId) (fr : Nat × Nat) (K : Nat → Nat → Nat), ad = some ⟨g, off, none⟩ ∧ len ≤ cp ∧ g < w.heap.size ∧ w.heap[g]? = some (.cells arr t fr) ∧ (∀ k i, i < 32 → K k i < 256) ∧ ∀ k, k < len → ∀ j v, (arrF .u8 32 (K k))[j]? = some v → arr[(off + k * 32) + j]? = some v) : Calls Tryd.prog 8 #[.agg (arrF .u8 32 pub), .int .u32 ((nn : Nat) : Int), .slice p.ad p.n p.c, .slice ad len cp] w fun e w' => e = .returned (.bool true) ∧ Kept [] w w' := by
  by_cases h0 : 300 < p.n
  · exact sv_long1 pub hpub nn hnn p hbk hn ad len cp h0 w hW hrd
  by_cases h1 : 80 < len
  · exact sv_long2 pub hpub nn hnn p hbk hn ad len cp (by omega) h1 w hW hrd
  by_cases h2 : len = 67
  · subst h2
    obtain ⟨g, off, arr, t, fr, K, rfl, _, _, h3, h4, h5⟩ := hl (by decide)
    by_cases hb : ∀ i, i < 32 → vfK nn p.l K i = pub i
    · exact sv_yes pub hpub nn hnn p hbk hn K h4 g off cp arr t fr h5 (by omega) hb w hW hrd h3
    · exact sv_no pub hpub nn hnn p hbk hn K h4 g off cp arr t fr h5 (by omega) hb w hW hrd h3
  · exact sv_short pub hpub nn hnn p hbk hn ad len cp (by omega) (by omega) h2 w hW hrd
end Go.Proofs.YtdejhenkdbjakaaDoor
