/- Walks: SignerSigns. -/
import Derived.Test.YtdejhenkdbjakaaDoorXD
import Derived.Test.YtdejhenkdbjakaaDoorXE
set_option linter.unusedVariables false
set_option linter.unusedSimpArgs false
namespace Go.Proofs.YtdejhenkdbjakaaDoor
open Go Go.RowKit
set_option maxRecDepth 100000 in
set_option maxHeartbeats 4000000 in
theorem ss_long (seed : Nat → Nat) (hseed : ∀ i, i < 32 → seed i < 256) (nn : Nat) (hnn : nn < 4294967296) (p : SlP) (hbk : ∀ x ∈ p.l, x < 256) (hn : p.l.length = p.n) (h1 : 300 < p.n) (w : World) (hW : Laid w) (hrd : RdK [] w p) : Calls Tryd.prog 9 #[.agg (arrF .u8 32 seed), .int .u32 ((nn : Nat) : Int), .slice p.ad p.n p.c] w fun e w' => e = .returned (.bool true) ∧ Kept [] w w' := by
  obtain ⟨pk, hpk⟩ : ∃ pk, pk = pubN seed nn := ⟨_, rfl⟩
  obtain ⟨px, hpx⟩ : ∃ px, px = pubN seed (add32 (nn) (1)) := ⟨_, rfl⟩
  obtain ⟨kz, hkz⟩ : ∃ kz, kz = (sigN seed nn p.l) := ⟨_, rfl⟩
  refine C_enter Tryd.func9 rfl 120 Tryd.ntmps9 (Nat.le_of_ble_eq_true rfl) (fun a F => ?_)
  have H := Hp.start [] w
  replace F : Fm 120 [] [(0, kyV seed), (1, nw nn), (2, .slice p.ad p.n p.c)] a := F.weak _ (subL_of kr)
  refine C_seqK (fun K1 hK1 => ?_)
  refine C_region ?_
  refine T_new F H kr (fun ad => pt ad 0) (ce (arrF .u8 32 seed) 23) (fun w => kr) ?_
  clear F H; intro aq2 a v F H
  refine T_k F H (.bool false) ?_
  clear F; intro a F
  refine wpList_nil ?_
  refine hK1 _ _ ?_
  clear hK1
  try clear K1
  refine C_seqK (fun K3 hK3 => ?_)
  refine C_region ?_
  refine T_call F H kr 30 #[] (.bool true) (fun w => kr) (awake17_any _ (hW.kept H.kept List.not_mem_nil List.not_mem_nil)) ?_
  clear F H; intro a v F H
  refine T_k F H (.bool true) ?_
  clear F; intro a F
  refine wpList_nil ?_
  refine hK3 _ _ ?_
  clear hK3
  try clear K3
  refine C_seqK (fun K4 hK4 => ?_)
  refine C_seqK (fun K5 hK5 => ?_)
  refine C_region ?_
  refine T_k F H (.slice p.ad p.n p.c) ?_
  clear F; intro a F
  refine T_k F H (ni p.n) ?_
  clear F; intro a F
  refine T_val F H kr (.bool true) (fun w _ => R_bin (x := (.tmp 19)) (y := (.const (.int .i64 300))) rfl (k := .i64) (a := ((p.n : Nat) : Int)) (b := ((300 : Nat) : Int)) kr kr (i_gtn (by omega)) w) ?_
  clear F; intro a F
  refine wpList_nil ?_
  refine hK5 _ _ ?_
  clear hK5
  try clear K5
  refine C_if F true rfl rfl ?_
  refine C_seqK (fun K6 hK6 => ?_)
  refine C_region ?_
  refine T_k F H (.bool true) ?_
  clear F; intro a F
  refine T_k F H (.bool true) ?_
  clear F; intro a F
  refine wpList_nil ?_
  refine hK6 _ _ ?_
  clear hK6
  try clear K6
  refine wp_ret ?_
  repeat (first | with_reducible refine then_ret ?_ | with_reducible refine inB_ret ?_)
  exact C_ret F H (rs := [.tmp 6]) rfl (vs := [.bool true]) (.tmp rfl .nil) (.bool true) rfl ⟨rfl, H.kept⟩

set_option maxRecDepth 100000 in
set_option maxHeartbeats 4000000 in
theorem ss_last (seed : Nat → Nat) (hseed : ∀ i, i < 32 → seed i < 256) (p : SlP) (hbk : ∀ x ∈ p.l, x < 256) (hn : p.l.length = p.n) (h1 : p.n ≤ 300) (w : World) (hW : Laid w) (hrd : RdK [] w p) : Calls Tryd.prog 9 #[.agg (arrF .u8 32 seed), .int .u32 ((4294967295 : Nat) : Int), .slice p.ad p.n p.c] w fun e w' => e = .returned (.bool true) ∧ Kept [] w w' := by
  obtain ⟨pk, hpk⟩ : ∃ pk, pk = pubN seed 4294967295 := ⟨_, rfl⟩
  obtain ⟨px, hpx⟩ : ∃ px, px = pubN seed (add32 (4294967295) (1)) := ⟨_, rfl⟩
  obtain ⟨kz, hkz⟩ : ∃ kz, kz = (sigN seed 4294967295 p.l) := ⟨_, rfl⟩
  have hnn : 4294967295 < 4294967296 := by decide
  refine C_enter Tryd.func9 rfl 120 Tryd.ntmps9 (Nat.le_of_ble_eq_true rfl) (fun a F => ?_)
  have H := Hp.start [] w
  replace F : Fm 120 [] [(0, kyV seed), (1, nw 4294967295), (2, .slice p.ad p.n p.c)] a := F.weak _ (subL_of kr)
  refine C_seqK (fun K1 hK1 => ?_)
  refine C_region ?_
  refine T_new F H kr (fun ad => pt ad 0) (ce (arrF .u8 32 seed) 23) (fun w => kr) ?_
  clear F H; intro aq2 a v F H
  refine T_k F H (.bool false) ?_
  clear F; intro a F
  refine wpList_nil ?_
  refine hK1 _ _ ?_
  clear hK1
  try clear K1
  refine C_seqK (fun K3 hK3 => ?_)
  refine C_region ?_
  refine T_call F H kr 30 #[] (.bool true) (fun w => kr) (awake17_any _ (hW.kept H.kept List.not_mem_nil List.not_mem_nil)) ?_
  clear F H; intro a v F H
  refine T_k F H (.bool true) ?_
  clear F; intro a F
  refine wpList_nil ?_
  refine hK3 _ _ ?_
  clear hK3
  try clear K3
  refine C_seqK (fun K4 hK4 => ?_)
  refine C_seqK (fun K5 hK5 => ?_)
  refine C_region ?_
  refine T_k F H (.slice p.ad p.n p.c) ?_
  clear F; intro a F
  refine T_k F H (ni p.n) ?_
  clear F; intro a F
  refine T_val F H kr (.bool false) (fun w _ => R_bin (x := (.tmp 19)) (y := (.const (.int .i64 300))) rfl (k := .i64) (a := ((p.n : Nat) : Int)) (b := ((300 : Nat) : Int)) kr kr (i_ngtn (by omega)) w) ?_
  clear F; intro a F
  refine wpList_nil ?_
  refine hK5 _ _ ?_
  clear hK5
  try clear K5
  refine C_if F false rfl rfl ?_
  refine wp_skip ?_
  refine hK4 _ _ ?_
  clear hK4
  try clear K4
  refine C_seqK (fun K6 hK6 => ?_)
  refine C_region ?_
  refine T_callX (α := SlR) F H kr 18 #[.bool false] (fun rX => pt rX.g 0) (fun rX => [bk rX.g (mtr 0) 91, bk aq2 (arrF .u8 32 seed) 23]) (fun rX => True) (fun w => kr) (fun w H => callsX_newV H (newM_any _)) ?_
  clear F H; intro rq7 a v Qrq7 F H
  refine T_k F H (pt rq7.g 0) ?_
  clear F; intro a F
  refine wpList_nil ?_
  generalize rq7.g = gm at F H
  refine hK6 _ _ ?_
  clear hK6
  try clear K6
  refine C_seqK (fun K8 hK8 => ?_)
  refine C_region ?_
  refine T_k F H (.agg #[.bool false, .int .i64 0, .slice none 0 0]) ?_
  clear F; intro a F
  refine T_new F H kr (fun ad => pt ad 0) (ce #[.bool false, .int .i64 0, .slice none 0 0] 32) (fun w => kr) ?_
  clear F H; intro aq9 a v F H
  refine T_k F H (pt aq9 0) ?_
  clear F; intro a F
  refine wpList_nil ?_
  rw [show (#[.bool false, .int .i64 0, .slice none 0 0] : Array Value) = lgr 0 from kr] at H
  generalize aq9 = gl at F H
  refine hK8 _ _ ?_
  clear hK8
  try clear K8
  refine C_seqK (fun K10 hK10 => ?_)
  refine C_region ?_
  refine T_val F H kr (kyV seed) (R_load (own := true) (g := aq2) (all := (arrF .u8 32 seed)) (t := 23) (fr := (0, 0)) 2 kr 23 (.tmp 3) rfl 0 kr (arrF .u8 32 seed) (part_all _) _ Tryd.underlying23 rfl (by rw [arrF_size]; kernel_rfl)) ?_
  clear F; intro a F
  refine T_k F H (nw 4294967295) ?_
  clear F; intro a F
  refine T_k F H (.agg (chA seed 4294967295)) ?_
  clear F; intro a F
  refine T_new F H kr (fun ad => pt ad 0) (ce (chA seed 4294967295) 60) (fun w => kr) ?_
  clear F H; intro aq11 a v F H
  refine T_k F H (pt aq11 0) ?_
  clear F; intro a F
  refine wpList_nil ?_
  generalize aq11 = cb at F H
  have hov1 : ∀ x ∈ [gm, cb], w.heap.size ≤ x := fun x hx => by
    simp only [List.mem_cons, List.not_mem_nil, or_false] at hx
    rcases hx with hx | hx
    · subst hx
      exact (H.own _ (List.mem_of_getElem? (i := 2) rfl) rfl).resolve_right List.not_mem_nil
    · subst hx
      exact (H.own _ (List.mem_of_getElem? (i := 0) rfl) rfl).resolve_right List.not_mem_nil
  have hov2 : ∀ x ∈ [gl], w.heap.size ≤ x := fun x hx => by
    simp only [List.mem_cons, List.not_mem_nil, or_false] at hx
    rcases hx with hx
    · subst hx
      exact (H.own _ (List.mem_of_getElem? (i := 1) rfl) rfl).resolve_right List.not_mem_nil
  refine hK10 _ _ ?_
  clear hK10
  try clear K10
  refine C_seqK (fun K12 hK12 => ?_)
  refine C_region ?_
  refine T_k F H (pt cb 0) ?_
  clear F; intro a F
  refine T_k F H (pt gm 0) ?_
  clear F; intro a F
  refine T_callX (α := SlR) F H kr 33 #[pt cb 0, pt gm 0] (fun rX => kyV pk) (fun rX => [bk cb (chA seed 4294967295) 60, bk gl (lgr 0) 32, bk gm (mtr rX.n) 91, bk aq2 (arrF .u8 32 seed) 23]) (fun rX => True) (fun w => kr) (fun w H => callsX_putV H (k := 2) rfl ((cpub_any gm 0 cb seed hseed 4294967295 hnn _ (hW.kept H.kept List.not_mem_nil List.not_mem_nil) (H.at_ (k := 2) rfl) (H.at_ (k := 0) rfl)).mono (fun _ _ ⟨r, q1, q2⟩ => ⟨r, by rw [q1, hpk], q2⟩))) ?_
  clear F H; intro rq13 a v Qrq13 F H
  refine T_new F H kr (fun ad => pt ad 0) (ce z8 23) (fun w => kr) ?_
  clear F H; intro aq14 a v F H
  refine T_set F H kr rfl 0 rfl (arrF .u8 32 pk) (S_row 0 rfl 23 (.tmp 11) (.tmp 31) rfl kr (arrF .u8 32 pk) kr (by rw [arrF_size]; kernel_rfl) (by rw [arrF_size]; kernel_rfl) (arrF_one _ _ _)) [bk aq14 (arrF .u8 32 pk) 23, bk cb (chA seed 4294967295) 60, bk gl (lgr 0) 32, bk gm (mtr rq13.n) 91, bk aq2 (arrF .u8 32 seed) 23] rfl ?_
  clear F H; intro a v F H
  refine wpList_nil ?_
  refine hK12 _ _ ?_
  clear hK12
  try clear K12
  refine C_seqK (fun K15 hK15 => ?_)
  refine C_region ?_
  refine T_k F H (pt cb 0) ?_
  clear F; intro a F
  refine T_k F H (pt gm 0) ?_
  clear F; intro a F
  refine T_callX (α := SlR) F H kr 34 #[pt cb 0, pt gm 0] (fun rX => kyV px) (fun rX => [bk aq14 (arrF .u8 32 pk) 23, bk cb (chA seed 4294967295) 60, bk gl (lgr 0) 32, bk gm (mtr rX.n) 91, bk aq2 (arrF .u8 32 seed) 23]) (fun rX => True) (fun w => kr) (fun w H => callsX_putV H (k := 3) rfl ((cnext_any gm rq13.n cb seed hseed 4294967295 hnn _ (hW.kept H.kept List.not_mem_nil List.not_mem_nil) (H.at_ (k := 3) rfl) (H.at_ (k := 1) rfl)).mono (fun _ _ ⟨r, q1, q2⟩ => ⟨r, by rw [q1, hpx], q2⟩))) ?_
  clear F H; intro rq16 a v Qrq16 F H
  refine T_new F H kr (fun ad => pt ad 0) (ce z8 23) (fun w => kr) ?_
  clear F H; intro aq17 a v F H
  refine T_set F H kr rfl 0 rfl (arrF .u8 32 px) (S_row 0 rfl 23 (.tmp 12) (.tmp 34) rfl kr (arrF .u8 32 px) kr (by rw [arrF_size]; kernel_rfl) (by rw [arrF_size]; kernel_rfl) (arrF_one _ _ _)) [bk aq17 (arrF .u8 32 px) 23, bk aq14 (arrF .u8 32 pk) 23, bk cb (chA seed 4294967295) 60, bk gl (lgr 0) 32, bk gm (mtr rq16.n) 91, bk aq2 (arrF .u8 32 seed) 23] rfl ?_
  clear F H; intro a v F H
  refine wpList_nil ?_
  refine hK15 _ _ ?_
  clear hK15
  try clear K15
  refine C_seqK (fun K18 hK18 => ?_)
  refine C_region ?_
  refine T_k F H (pt cb 0) ?_
  clear F; intro a F
  refine T_k F H (pt gm 0) ?_
  clear F; intro a F
  refine T_k F H (.slice p.ad p.n p.c) ?_
  clear F; intro a F
  refine T_call F H kr 35 #[pt cb 0, pt gm 0, .slice p.ad p.n p.c] (.tuple #[.slice none 0 0, ni 82]) (fun w => kr) (csign_no cb seed _ _ _ (H.at_ (k := 2) rfl)) ?_
  clear F H; intro a v F H
  refine T_k F H (.tuple #[.slice none 0 0, ni 82]) ?_
  clear F; intro a F
  refine T_k F H (.slice none 0 0) ?_
  clear F; intro a F
  refine T_k F H (ni 82) ?_
  clear F; intro a F
  refine T_k F H (.slice none 0 0) ?_
  clear F; intro a F
  refine T_k F H (ni 82) ?_
  clear F; intro a F
  refine wpList_nil ?_
  refine hK18 _ _ ?_
  clear hK18
  try clear K18
  refine C_seqK (fun K19 hK19 => ?_)
  refine C_region ?_
  refine T_k F H (pt gm 0) ?_
  clear F; intro a F
  refine T_val F H kr (kyV seed) (R_load (own := true) (g := aq2) (all := (arrF .u8 32 seed)) (t := 23) (fr := (0, 0)) 5 kr 23 (.tmp 3) rfl 0 kr (arrF .u8 32 seed) (part_all _) _ Tryd.underlying23 rfl (by rw [arrF_size]; kernel_rfl)) ?_
  clear F; intro a F
  refine T_k F H (nw 4294967295) ?_
  clear F; intro a F
  refine T_callX (α := SlR) F H kr 36 #[pt gm 0, kyV seed, nw 4294967295] (fun rX => kyV pk) (fun rX => [bk aq17 (arrF .u8 32 px) 23, bk aq14 (arrF .u8 32 pk) 23, bk cb (chA seed 4294967295) 60, bk gl (lgr 0) 32, bk gm (mtr rX.n) 91, bk aq2 (arrF .u8 32 seed) 23]) (fun rX => True) (fun w => kr) (fun w H => callsX_putV H (k := 4) rfl ((spub_any gm rq16.n seed hseed 4294967295 hnn _ (hW.kept H.kept List.not_mem_nil List.not_mem_nil) (H.at_ (k := 4) rfl)).mono (fun _ _ ⟨r, q1, q2⟩ => ⟨r, by rw [q1, hpk], q2⟩))) ?_
  clear F H; intro rq20 a v Qrq20 F H
  refine T_new F H kr (fun ad => pt ad 0) (ce z8 23) (fun w => kr) ?_
  clear F H; intro aq21 a v F H
  refine T_set F H kr rfl 0 rfl (arrF .u8 32 pk) (S_row 0 rfl 23 (.tmp 15) (.tmp 45) rfl kr (arrF .u8 32 pk) kr (by rw [arrF_size]; kernel_rfl) (by rw [arrF_size]; kernel_rfl) (arrF_one _ _ _)) [bk aq21 (arrF .u8 32 pk) 23, bk aq17 (arrF .u8 32 px) 23, bk aq14 (arrF .u8 32 pk) 23, bk cb (chA seed 4294967295) 60, bk gl (lgr 0) 32, bk gm (mtr rq20.n) 91, bk aq2 (arrF .u8 32 seed) 23] rfl ?_
  clear F H; intro a v F H
  refine wpList_nil ?_
  refine hK19 _ _ ?_
  clear hK19
  try clear K19
  refine C_seqK (fun K22 hK22 => ?_)
  refine C_region ?_
  refine T_k F H (pt gl 0) ?_
  clear F; intro a F
  refine T_val F H kr (kyV seed) (R_load (own := true) (g := aq2) (all := (arrF .u8 32 seed)) (t := 23) (fr := (0, 0)) 6 kr 23 (.tmp 3) rfl 0 kr (arrF .u8 32 seed) (part_all _) _ Tryd.underlying23 rfl (by rw [arrF_size]; kernel_rfl)) ?_
  clear F; intro a F
  refine T_k F H (nw 4294967295) ?_
  clear F; intro a F
  refine T_k F H (.slice p.ad p.n p.c) ?_
  clear F; intro a F
  refine T_callX (α := SlR) F H kr 37 #[pt gl 0, kyV seed, nw 4294967295, .slice p.ad p.n p.c] (fun rX => sc rX.g 0 67 rX.cap) (fun rX => [bk rX.g (sl (keysC kz 67) rX.rest) 23, bk aq21 (arrF .u8 32 pk) 23, bk aq17 (arrF .u8 32 px) 23, bk aq14 (arrF .u8 32 pk) 23, bk cb (chA seed 4294967295) 60, bk gl (lgr rX.n) 32, bk gm (mtr rq20.n) 91, bk aq2 (arrF .u8 32 seed) 23]) (fun rX => (True) ∧ (Own (keysC kz 67) rX.rest 67 rX.cap 32)) (fun w => kr) (fun w H => callsX_bothV H (k := 4) rfl ((by rw [hkz]; exact lsign17_any gl 0 seed hseed 4294967295 hnn p hbk hn (by omega) _ (hrd.from H.kept hov2) (H.at_ (k := 4) rfl)))) ?_
  clear F H; intro rq23 a v Qrq23 F H
  refine T_k F H (sc rq23.g 0 67 rq23.cap) ?_
  clear F; intro a F
  refine wpList_nil ?_
  refine hK22 _ _ ?_
  clear hK22
  try clear K22
  refine C_seqK (fun K24 hK24 => ?_)
  refine C_seqK (fun K25 hK25 => ?_)
  refine C_region ?_
  refine T_k F H (nw 4294967295) ?_
  clear F; intro a F
  refine T_k F H (.bool true) ?_
  clear F; intro a F
  refine wpList_nil ?_
  refine hK25 _ _ ?_
  clear hK25
  try clear K25
  refine C_if F true rfl rfl ?_
  refine C_seqK (fun K26 hK26 => ?_)
  refine E_region F H (fun β => [(53, .bool true), (54, .bool true), (55, ni 82), (56, .bool true), (57, .bool true), (58, .bool true), (59, .slice none 0 0), (60, ni 0), (61, .bool true), (62, .bool true), (63, .bool true), (64, pt cb 0), (65, pt cb 0), (66, pt cb 32), (67, nw 4294967295), (68, nw 4294967295), (69, .bool true), (70, .bool true), (71, .bool true), (72, kyV pk), (73, pt gl 0), (74, kyV seed), (75, nw 4294967295), (76, kyV pk), (77, .bool true), (78, .bool true), (6, .bool true)]) [53, 54, 55, 56, 57, 58, 59, 60, 61, 62, 63, 64, 65, 66, 67, 68, 69, 70, 71, 72, 73, 74, 75, 76, 77, 78, 6] [⟨none, none, gl, [], fun q_ => ce (lgr rq23.n) 32, gT, [⟨23, [23], fun q_ => ce (lgr (gh q_ 0).n) 32, gT⟩]⟩] [bk rq23.g (sl (keysC kz 67) rq23.rest) 23, bk aq21 (arrF .u8 32 pk) 23, bk aq17 (arrF .u8 32 px) 23, bk aq14 (arrF .u8 32 pk) 23, bk cb (chA seed 4294967295) 60, bk gm (mtr rq20.n) 91, bk aq2 (arrF .u8 32 seed) 23] [5, 0, 1, 2, 3, 4, 6, 7] 2 [] kr kr kr (fun β => rfl) ⟨fun _ _ => trivial, trivial⟩ ⟨?_, ?_, ?_, ?_, ?_, ?_, ?_, ?_, ?_, ?_, ?_, ?_, ?_, ?_, ?_, ?_, ?_, ?_, ?_, ?_, ?_, ?_, ?_, ?_, ?_, ?_, ?_, trivial⟩ ?_
  · exact E_k 120 (fun β => .bool true) 53 2
  · exact E_k 120 (fun β => .bool true) 54 2
  · exact E_k 120 (fun β => ni 82) 55 2
  · exact E_k 120 (fun β => .bool true) 56 2
  · exact E_k 120 (fun β => .bool true) 57 2
  · exact E_k 120 (fun β => .bool true) 58 2
  · exact E_k 120 (fun β => .slice none 0 0) 59 2
  · exact E_k 120 (fun β => ni 0) 60 2
  · exact E_k 120 (fun β => .bool true) 61 2
  · exact E_k 120 (fun β => .bool true) 62 2
  · exact E_k 120 (fun β => .bool true) 63 2
  · exact E_k 120 (fun β => pt cb 0) 64 2
  · exact E_k 120 (fun β => pt cb 0) 65 2
  · exact E_k 120 (fun β => pt cb 32) 66 2
  · exact E_v 120 (fun β => nw 4294967295) 67 2 [] (fun β w hk hl hq => R_cellH hl (own := true) (g := cb) (all := (chA seed 4294967295)) (t := 60) (fr := (0, 0)) 4 kr 53 (.tmp 66) rfl 32 kr (nw 4294967295) kr _ Tryd.underlying53 rfl)
  · exact E_k 120 (fun β => nw 4294967295) 68 2
  · exact E_k 120 (fun β => .bool true) 69 2
  · exact E_k 120 (fun β => .bool true) 70 2
  · exact E_k 120 (fun β => .bool true) 71 2
  · exact E_v 120 (fun β => kyV pk) 72 2 [] (fun β w hk hl hq => R_loadH hl (own := true) (g := aq21) (all := (arrF .u8 32 pk)) (t := 23) (fr := (0, 0)) 1 kr 23 (.tmp 15) rfl 0 kr (arrF .u8 32 pk) (part_all _) _ Tryd.underlying23 rfl (by rw [arrF_size]; kernel_rfl))
  · exact E_k 120 (fun β => pt gl 0) 73 2
  · exact E_v 120 (fun β => kyV seed) 74 2 [] (fun β w hk hl hq => R_loadH hl (own := true) (g := aq2) (all := (arrF .u8 32 seed)) (t := 23) (fr := (0, 0)) 6 kr 23 (.tmp 3) rfl 0 kr (arrF .u8 32 seed) (part_all _) _ Tryd.underlying23 rfl (by rw [arrF_size]; kernel_rfl))
  · exact E_k 120 (fun β => nw 4294967295) 75 2
  · exact E_callP 120 kq (fun β => kyV pk) 76 rfl kq 2 (fun β r => offAt2_of kr kr) 38 (fun β => #[pt gl 0, kyV seed, nw 4294967295]) (fun β w => kr) 2 [] 0 0 _ _ rfl rfl kr kr rfl (fun β w hk hl hq hm => (lpub17_any gl rq23.n seed hseed 4294967295 hnn _ hm).mono (fun _ _ ⟨r, q1, q2⟩ => ⟨r, by rw [q1, hpk], q2⟩))
  · exact E_v 120 (fun β => .bool true) 77 2 [] (fun β w hk hl hq => R_eqK (x := (.tmp 72)) (y := (.tmp 76)) rfl pk pk kr kr true ⟨fun _ _ _ => rfl, fun _ => rfl⟩ w)
  · exact E_k 120 (fun β => .bool true) 78 2
  · exact E_k 120 (fun β => .bool true) 6 2
  clear F H; intro β a v Q F H
  replace H : Hp [] w [bk gl (lgr (β 23).n) 32, bk rq23.g (sl (keysC kz 67) rq23.rest) 23, bk aq21 (arrF .u8 32 pk) 23, bk aq17 (arrF .u8 32 px) 23, bk aq14 (arrF .u8 32 pk) 23, bk cb (chA seed 4294967295) 60, bk gm (mtr rq20.n) 91, bk aq2 (arrF .u8 32 seed) 23] v := H
  replace F : Fm 120 [] [(6, .bool true), (78, .bool true), (77, .bool true), (76, kyV pk), (75, nw 4294967295), (74, kyV seed), (73, pt gl 0), (72, kyV pk), (71, .bool true), (70, .bool true), (69, .bool true), (68, nw 4294967295), (67, nw 4294967295), (66, pt cb 32), (65, pt cb 0), (64, pt cb 0), (63, .bool true), (62, .bool true), (61, .bool true), (60, ni 0), (59, .slice none 0 0), (58, .bool true), (57, .bool true), (56, .bool true), (55, ni 82), (54, .bool true), (53, .bool true), (52, .bool true), (51, nw 4294967295), (16, sc rq23.g 0 67 rq23.cap), (50, sc rq23.g 0 67 rq23.cap), (49, .slice p.ad p.n p.c), (48, nw 4294967295), (47, kyV seed), (46, pt gl 0), (15, pt aq21 0), (45, kyV pk), (44, nw 4294967295), (43, kyV seed), (42, pt gm 0), (14, ni 82), (13, .slice none 0 0), (41, ni 82), (40, .slice none 0 0), (35, .tuple #[.slice none 0 0, ni 82]), (39, .tuple #[.slice none 0 0, ni 82]), (38, .slice p.ad p.n p.c), (37, pt gm 0), (36, pt cb 0), (12, pt aq17 0), (34, kyV px), (33, pt gm 0), (32, pt cb 0), (11, pt aq14 0), (31, kyV pk), (30, pt gm 0), (29, pt cb 0), (10, pt cb 0), (28, pt cb 0), (27, .agg (chA seed 4294967295)), (26, nw 4294967295), (25, kyV seed), (9, pt gl 0), (24, pt gl 0), (23, .agg #[.bool false, .int .i64 0, .slice none 0 0]), (8, pt gm 0), (22, pt gm 0), (20, .bool false), (19, ni p.n), (18, .slice p.ad p.n p.c), (7, .bool true), (17, .bool true), (3, pt aq2 0), (0, kyV seed), (1, nw 4294967295), (2, .slice p.ad p.n p.c)] a := F.weak _ (subL_of kr)
  clear Q
  generalize β 23 = rq27 at F H
  skip
  refine ?_
  refine hK26 _ _ ?_
  clear hK26
  try clear K26
  refine wp_ret ?_
  repeat (first | with_reducible refine then_ret ?_ | with_reducible refine inB_ret ?_)
  exact C_ret F H (rs := [.tmp 6]) rfl (vs := [.bool true]) (.tmp rfl .nil) (.bool true) rfl ⟨rfl, H.kept⟩

set_option maxRecDepth 100000 in
set_option maxHeartbeats 4000000 in
theorem ss_yes (seed : Nat → Nat) (hseed : ∀ i, i < 32 → seed i < 256) (nn : Nat) (hnn : nn < 4294967296) (p : SlP) (hbk : ∀ x ∈ p.l, x < 256) (hn : p.l.length = p.n) (h1 : p.n ≤ 300) (hlast : nn ≠ 4294967295) (w : World) (hW : Laid w) (hrd : RdK [] w p) : Calls Tryd.prog 9 #[.agg (arrF .u8 32 seed), .int .u32 ((nn : Nat) : Int), .slice p.ad p.n p.c] w fun e w' => e = .returned (.bool true) ∧ Kept [] w w' := by
  obtain ⟨pk, hpk⟩ : ∃ pk, pk = pubN seed nn := ⟨_, rfl⟩
  obtain ⟨px, hpx⟩ : ∃ px, px = pubN seed (add32 (nn) (1)) := ⟨_, rfl⟩
  obtain ⟨kz, hkz⟩ : ∃ kz, kz = (sigN seed nn p.l) := ⟨_, rfl⟩
  refine C_enter Tryd.func9 rfl 120 Tryd.ntmps9 (Nat.le_of_ble_eq_true rfl) (fun a F => ?_)
  have H := Hp.start [] w
  replace F : Fm 120 [] [(0, kyV seed), (1, nw nn), (2, .slice p.ad p.n p.c)] a := F.weak _ (subL_of kr)
  refine C_seqK (fun K1 hK1 => ?_)
  refine C_region ?_
  refine T_new F H kr (fun ad => pt ad 0) (ce (arrF .u8 32 seed) 23) (fun w => kr) ?_
  clear F H; intro aq2 a v F H
  refine T_k F H (.bool false) ?_
  clear F; intro a F
  refine wpList_nil ?_
  refine hK1 _ _ ?_
  clear hK1
  try clear K1
  refine C_seqK (fun K3 hK3 => ?_)
  refine C_region ?_
  refine T_call F H kr 30 #[] (.bool true) (fun w => kr) (awake17_any _ (hW.kept H.kept List.not_mem_nil List.not_mem_nil)) ?_
  clear F H; intro a v F H
  refine T_k F H (.bool true) ?_
  clear F; intro a F
  refine wpList_nil ?_
  refine hK3 _ _ ?_
  clear hK3
  try clear K3
  refine C_seqK (fun K4 hK4 => ?_)
  refine C_seqK (fun K5 hK5 => ?_)
  refine C_region ?_
  refine T_k F H (.slice p.ad p.n p.c) ?_
  clear F; intro a F
  refine T_k F H (ni p.n) ?_
  clear F; intro a F
  refine T_val F H kr (.bool false) (fun w _ => R_bin (x := (.tmp 19)) (y := (.const (.int .i64 300))) rfl (k := .i64) (a := ((p.n : Nat) : Int)) (b := ((300 : Nat) : Int)) kr kr (i_ngtn (by omega)) w) ?_
  clear F; intro a F
  refine wpList_nil ?_
  refine hK5 _ _ ?_
  clear hK5
  try clear K5
  refine C_if F false rfl rfl ?_
  refine wp_skip ?_
  refine hK4 _ _ ?_
  clear hK4
  try clear K4
  refine C_seqK (fun K6 hK6 => ?_)
  refine C_region ?_
  refine T_callX (α := SlR) F H kr 18 #[.bool false] (fun rX => pt rX.g 0) (fun rX => [bk rX.g (mtr 0) 91, bk aq2 (arrF .u8 32 seed) 23]) (fun rX => True) (fun w => kr) (fun w H => callsX_newV H (newM_any _)) ?_
  clear F H; intro rq7 a v Qrq7 F H
  refine T_k F H (pt rq7.g 0) ?_
  clear F; intro a F
  refine wpList_nil ?_
  generalize rq7.g = gm at F H
  refine hK6 _ _ ?_
  clear hK6
  try clear K6
  refine C_seqK (fun K8 hK8 => ?_)
  refine C_region ?_
  refine T_k F H (.agg #[.bool false, .int .i64 0, .slice none 0 0]) ?_
  clear F; intro a F
  refine T_new F H kr (fun ad => pt ad 0) (ce #[.bool false, .int .i64 0, .slice none 0 0] 32) (fun w => kr) ?_
  clear F H; intro aq9 a v F H
  refine T_k F H (pt aq9 0) ?_
  clear F; intro a F
  refine wpList_nil ?_
  rw [show (#[.bool false, .int .i64 0, .slice none 0 0] : Array Value) = lgr 0 from kr] at H
  generalize aq9 = gl at F H
  refine hK8 _ _ ?_
  clear hK8
  try clear K8
  refine C_seqK (fun K10 hK10 => ?_)
  refine C_region ?_
  refine T_val F H kr (kyV seed) (R_load (own := true) (g := aq2) (all := (arrF .u8 32 seed)) (t := 23) (fr := (0, 0)) 2 kr 23 (.tmp 3) rfl 0 kr (arrF .u8 32 seed) (part_all _) _ Tryd.underlying23 rfl (by rw [arrF_size]; kernel_rfl)) ?_
  clear F; intro a F
  refine T_k F H (nw nn) ?_
  clear F; intro a F
  refine T_k F H (.agg (chA seed nn)) ?_
  clear F; intro a F
  refine T_new F H kr (fun ad => pt ad 0) (ce (chA seed nn) 60) (fun w => kr) ?_
  clear F H; intro aq11 a v F H
  refine T_k F H (pt aq11 0) ?_
  clear F; intro a F
  refine wpList_nil ?_
  generalize aq11 = cb at F H
  have hov1 : ∀ x ∈ [gm, cb], w.heap.size ≤ x := fun x hx => by
    simp only [List.mem_cons, List.not_mem_nil, or_false] at hx
    rcases hx with hx | hx
    · subst hx
      exact (H.own _ (List.mem_of_getElem? (i := 2) rfl) rfl).resolve_right List.not_mem_nil
    · subst hx
      exact (H.own _ (List.mem_of_getElem? (i := 0) rfl) rfl).resolve_right List.not_mem_nil
  have hov2 : ∀ x ∈ [gl], w.heap.size ≤ x := fun x hx => by
    simp only [List.mem_cons, List.not_mem_nil, or_false] at hx
    rcases hx with hx
    · subst hx
      exact (H.own _ (List.mem_of_getElem? (i := 1) rfl) rfl).resolve_right List.not_mem_nil
  refine hK10 _ _ ?_
  clear hK10
  try clear K10
  refine C_seqK (fun K12 hK12 => ?_)
  refine C_region ?_
  refine T_k F H (pt cb 0) ?_
  clear F; intro a F
  refine T_k F H (pt gm 0) ?_
  clear F; intro a F
  refine T_callX (α := SlR) F H kr 33 #[pt cb 0, pt gm 0] (fun rX => kyV pk) (fun rX => [bk cb (chA seed nn) 60, bk gl (lgr 0) 32, bk gm (mtr rX.n) 91, bk aq2 (arrF .u8 32 seed) 23]) (fun rX => True) (fun w => kr) (fun w H => callsX_putV H (k := 2) rfl ((cpub_any gm 0 cb seed hseed nn hnn _ (hW.kept H.kept List.not_mem_nil List.not_mem_nil) (H.at_ (k := 2) rfl) (H.at_ (k := 0) rfl)).mono (fun _ _ ⟨r, q1, q2⟩ => ⟨r, by rw [q1, hpk], q2⟩))) ?_
  clear F H; intro rq13 a v Qrq13 F H
  refine T_new F H kr (fun ad => pt ad 0) (ce z8 23) (fun w => kr) ?_
  clear F H; intro aq14 a v F H
  refine T_set F H kr rfl 0 rfl (arrF .u8 32 pk) (S_row 0 rfl 23 (.tmp 11) (.tmp 31) rfl kr (arrF .u8 32 pk) kr (by rw [arrF_size]; kernel_rfl) (by rw [arrF_size]; kernel_rfl) (arrF_one _ _ _)) [bk aq14 (arrF .u8 32 pk) 23, bk cb (chA seed nn) 60, bk gl (lgr 0) 32, bk gm (mtr rq13.n) 91, bk aq2 (arrF .u8 32 seed) 23] rfl ?_
  clear F H; intro a v F H
  refine wpList_nil ?_
  refine hK12 _ _ ?_
  clear hK12
  try clear K12
  refine C_seqK (fun K15 hK15 => ?_)
  refine C_region ?_
  refine T_k F H (pt cb 0) ?_
  clear F; intro a F
  refine T_k F H (pt gm 0) ?_
  clear F; intro a F
  refine T_callX (α := SlR) F H kr 34 #[pt cb 0, pt gm 0] (fun rX => kyV px) (fun rX => [bk aq14 (arrF .u8 32 pk) 23, bk cb (chA seed nn) 60, bk gl (lgr 0) 32, bk gm (mtr rX.n) 91, bk aq2 (arrF .u8 32 seed) 23]) (fun rX => True) (fun w => kr) (fun w H => callsX_putV H (k := 3) rfl ((cnext_any gm rq13.n cb seed hseed nn hnn _ (hW.kept H.kept List.not_mem_nil List.not_mem_nil) (H.at_ (k := 3) rfl) (H.at_ (k := 1) rfl)).mono (fun _ _ ⟨r, q1, q2⟩ => ⟨r, by rw [q1, hpx], q2⟩))) ?_
  clear F H; intro rq16 a v Qrq16 F H
  refine T_new F H kr (fun ad => pt ad 0) (ce z8 23) (fun w => kr) ?_
  clear F H; intro aq17 a v F H
  refine T_set F H kr rfl 0 rfl (arrF .u8 32 px) (S_row 0 rfl 23 (.tmp 12) (.tmp 34) rfl kr (arrF .u8 32 px) kr (by rw [arrF_size]; kernel_rfl) (by rw [arrF_size]; kernel_rfl) (arrF_one _ _ _)) [bk aq17 (arrF .u8 32 px) 23, bk aq14 (arrF .u8 32 pk) 23, bk cb (chA seed nn) 60, bk gl (lgr 0) 32, bk gm (mtr rq16.n) 91, bk aq2 (arrF .u8 32 seed) 23] rfl ?_
  clear F H; intro a v F H
  refine wpList_nil ?_
  refine hK15 _ _ ?_
  clear hK15
  try clear K15
  refine C_seqK (fun K18 hK18 => ?_)
  refine C_region ?_
  refine T_k F H (pt cb 0) ?_
  clear F; intro a F
  refine T_k F H (pt gm 0) ?_
  clear F; intro a F
  refine T_k F H (.slice p.ad p.n p.c) ?_
  clear F; intro a F
  refine T_callX (α := SlR) F H kr 35 #[pt cb 0, pt gm 0, .slice p.ad p.n p.c] (fun rX => .tuple #[sc rX.g 0 67 rX.cap, ni 0]) (fun rX => [bk rX.g (sl (keysC kz 67) rX.rest) 23, bk aq17 (arrF .u8 32 px) 23, bk aq14 (arrF .u8 32 pk) 23, bk cb (chA seed (add32 (nn) (1))) 60, bk gl (lgr 0) 32, bk gm (mtr rX.n) 91, bk aq2 (arrF .u8 32 seed) 23]) (fun rX => Own (keysC kz 67) rX.rest 67 rX.cap 32) (fun w => kr) (fun w H => callsX_new2 H (k := 4) (k2 := 2) rfl rfl (by decide) ((by rw [hkz]; exact csign_any gm rq16.n cb seed hseed nn hnn hlast p hbk hn (by omega) _ (hrd.from H.kept hov1) (hW.kept H.kept List.not_mem_nil List.not_mem_nil) (H.at_ (k := 4) rfl) (H.at_ (k := 2) rfl)))) ?_
  clear F H; intro rq19 a v Qrq19 F H
  refine T_k F H (.tuple #[sc rq19.g 0 67 rq19.cap, ni 0]) ?_
  clear F; intro a F
  refine T_k F H (sc rq19.g 0 67 rq19.cap) ?_
  clear F; intro a F
  refine T_k F H (ni 0) ?_
  clear F; intro a F
  refine T_k F H (sc rq19.g 0 67 rq19.cap) ?_
  clear F; intro a F
  refine T_k F H (ni 0) ?_
  clear F; intro a F
  refine wpList_nil ?_
  refine hK18 _ _ ?_
  clear hK18
  try clear K18
  refine C_seqK (fun K20 hK20 => ?_)
  refine C_region ?_
  refine T_k F H (pt gm 0) ?_
  clear F; intro a F
  refine T_val F H kr (kyV seed) (R_load (own := true) (g := aq2) (all := (arrF .u8 32 seed)) (t := 23) (fr := (0, 0)) 6 kr 23 (.tmp 3) rfl 0 kr (arrF .u8 32 seed) (part_all _) _ Tryd.underlying23 rfl (by rw [arrF_size]; kernel_rfl)) ?_
  clear F; intro a F
  refine T_k F H (nw nn) ?_
  clear F; intro a F
  refine T_callX (α := SlR) F H kr 36 #[pt gm 0, kyV seed, nw nn] (fun rX => kyV pk) (fun rX => [bk rq19.g (sl (keysC kz 67) rq19.rest) 23, bk aq17 (arrF .u8 32 px) 23, bk aq14 (arrF .u8 32 pk) 23, bk cb (chA seed (add32 (nn) (1))) 60, bk gl (lgr 0) 32, bk gm (mtr rX.n) 91, bk aq2 (arrF .u8 32 seed) 23]) (fun rX => True) (fun w => kr) (fun w H => callsX_putV H (k := 5) rfl ((spub_any gm rq19.n seed hseed nn hnn _ (hW.kept H.kept List.not_mem_nil List.not_mem_nil) (H.at_ (k := 5) rfl)).mono (fun _ _ ⟨r, q1, q2⟩ => ⟨r, by rw [q1, hpk], q2⟩))) ?_
  clear F H; intro rq21 a v Qrq21 F H
  refine T_new F H kr (fun ad => pt ad 0) (ce z8 23) (fun w => kr) ?_
  clear F H; intro aq22 a v F H
  refine T_set F H kr rfl 0 rfl (arrF .u8 32 pk) (S_row 0 rfl 23 (.tmp 15) (.tmp 45) rfl kr (arrF .u8 32 pk) kr (by rw [arrF_size]; kernel_rfl) (by rw [arrF_size]; kernel_rfl) (arrF_one _ _ _)) [bk aq22 (arrF .u8 32 pk) 23, bk rq19.g (sl (keysC kz 67) rq19.rest) 23, bk aq17 (arrF .u8 32 px) 23, bk aq14 (arrF .u8 32 pk) 23, bk cb (chA seed (add32 (nn) (1))) 60, bk gl (lgr 0) 32, bk gm (mtr rq21.n) 91, bk aq2 (arrF .u8 32 seed) 23] rfl ?_
  clear F H; intro a v F H
  refine wpList_nil ?_
  refine hK20 _ _ ?_
  clear hK20
  try clear K20
  refine C_seqK (fun K23 hK23 => ?_)
  refine C_region ?_
  refine T_k F H (pt gl 0) ?_
  clear F; intro a F
  refine T_val F H kr (kyV seed) (R_load (own := true) (g := aq2) (all := (arrF .u8 32 seed)) (t := 23) (fr := (0, 0)) 7 kr 23 (.tmp 3) rfl 0 kr (arrF .u8 32 seed) (part_all _) _ Tryd.underlying23 rfl (by rw [arrF_size]; kernel_rfl)) ?_
  clear F; intro a F
  refine T_k F H (nw nn) ?_
  clear F; intro a F
  refine T_k F H (.slice p.ad p.n p.c) ?_
  clear F; intro a F
  refine T_callX (α := SlR) F H kr 37 #[pt gl 0, kyV seed, nw nn, .slice p.ad p.n p.c] (fun rX => sc rX.g 0 67 rX.cap) (fun rX => [bk rX.g (sl (keysC kz 67) rX.rest) 23, bk aq22 (arrF .u8 32 pk) 23, bk rq19.g (sl (keysC kz 67) rq19.rest) 23, bk aq17 (arrF .u8 32 px) 23, bk aq14 (arrF .u8 32 pk) 23, bk cb (chA seed (add32 (nn) (1))) 60, bk gl (lgr rX.n) 32, bk gm (mtr rq21.n) 91, bk aq2 (arrF .u8 32 seed) 23]) (fun rX => (True) ∧ (Own (keysC kz 67) rX.rest 67 rX.cap 32)) (fun w => kr) (fun w H => callsX_bothV H (k := 5) rfl ((by rw [hkz]; exact lsign17_any gl 0 seed hseed nn hnn p hbk hn (by omega) _ (hrd.from H.kept hov2) (H.at_ (k := 5) rfl)))) ?_
  clear F H; intro rq24 a v Qrq24 F H
  refine T_k F H (sc rq24.g 0 67 rq24.cap) ?_
  clear F; intro a F
  refine wpList_nil ?_
  refine hK23 _ _ ?_
  clear hK23
  try clear K23
  refine C_seqK (fun K25 hK25 => ?_)
  refine C_seqK (fun K26 hK26 => ?_)
  refine C_region ?_
  refine T_k F H (nw nn) ?_
  clear F; intro a F
  refine T_val F H kr (.bool false) (fun w _ => R_bin (x := (.tmp 51)) (y := (.const (.int .u32 4294967295))) rfl (k := .u32) (a := ((nn : Nat) : Int)) (b := ((4294967295 : Nat) : Int)) kr kr (i_neqf hlast) w) ?_
  clear F; intro a F
  refine wpList_nil ?_
  refine hK26 _ _ ?_
  clear hK26
  try clear K26
  refine C_if F false rfl rfl ?_
  refine wp_skip ?_
  refine hK25 _ _ ?_
  clear hK25
  try clear K25
  refine C_seqK (fun K27 hK27 => ?_)
  have hkn : rq19.g ≠ rq24.g := H.apart (i := 2) (j := 0) rfl rfl (by decide)
  refine E_region F H (fun β => [(79, .bool true), (80, .bool true), (81, ni 0), (82, .bool true), (83, .bool true), (84, .bool true), (85, kyV pk), (86, kyV pk), (87, .bool true), (88, .bool true), (89, .bool true), (90, kyV pk), (91, pt gl 0), (92, kyV seed), (93, nw nn), (94, kyV pk), (95, .bool true), (96, .bool true), (97, .bool true), (98, kyV px), (99, pt gl 0), (100, kyV seed), (101, nw nn), (102, nw (add32 (nn) (1))), (103, kyV px), (104, .bool true), (105, .bool true), (106, .bool true), (107, pt cb 0), (108, pt cb 0), (109, pt cb 32), (110, nw (add32 (nn) (1))), (111, nw nn), (112, nw (add32 (nn) (1))), (113, .bool true), (114, .bool true), (115, .bool true), (116, sc rq19.g 0 67 rq19.cap), (117, sc rq24.g 0 67 rq24.cap), (118, .bool true), (119, .bool true), (6, .bool true)]) [79, 80, 81, 82, 83, 84, 85, 86, 87, 88, 89, 90, 91, 92, 93, 94, 95, 96, 97, 98, 99, 100, 101, 102, 103, 104, 105, 106, 107, 108, 109, 110, 111, 112, 113, 114, 115, 116, 117, 118, 119, 6] [⟨none, none, gl, [], fun q_ => ce (lgr rq24.n) 32, gT, [⟨15, [15], fun q_ => ce (lgr (gh q_ 0).n) 32, gT⟩, ⟨24, [24], fun q_ => ce (lgr (gh q_ 0).n) 32, gT⟩]⟩] [bk rq24.g (sl (keysC kz 67) rq24.rest) 23, bk aq22 (arrF .u8 32 pk) 23, bk rq19.g (sl (keysC kz 67) rq19.rest) 23, bk aq17 (arrF .u8 32 px) 23, bk aq14 (arrF .u8 32 pk) 23, bk cb (chA seed (add32 (nn) (1))) 60, bk gm (mtr rq21.n) 91, bk aq2 (arrF .u8 32 seed) 23] [6, 0, 1, 2, 3, 4, 5, 7, 8] 2 [] kr kr kr (fun β => rfl) ⟨fun _ _ => trivial, trivial⟩ ⟨?_, ?_, ?_, ?_, ?_, ?_, ?_, ?_, ?_, ?_, ?_, ?_, ?_, ?_, ?_, ?_, ?_, ?_, ?_, ?_, ?_, ?_, ?_, ?_, ?_, ?_, ?_, ?_, ?_, ?_, ?_, ?_, ?_, ?_, ?_, ?_, ?_, ?_, ?_, ?_, ?_, ?_, trivial⟩ ?_
  · exact E_k 120 (fun β => .bool true) 79 2
  · exact E_k 120 (fun β => .bool true) 80 2
  · exact E_k 120 (fun β => ni 0) 81 2
  · exact E_k 120 (fun β => .bool true) 82 2
  · exact E_k 120 (fun β => .bool true) 83 2
  · exact E_k 120 (fun β => .bool true) 84 2
  · exact E_v 120 (fun β => kyV pk) 85 2 [] (fun β w hk hl hq => R_loadH hl (own := true) (g := aq14) (all := (arrF .u8 32 pk)) (t := 23) (fr := (0, 0)) 4 kr 23 (.tmp 11) rfl 0 kr (arrF .u8 32 pk) (part_all _) _ Tryd.underlying23 rfl (by rw [arrF_size]; kernel_rfl))
  · exact E_v 120 (fun β => kyV pk) 86 2 [] (fun β w hk hl hq => R_loadH hl (own := true) (g := aq22) (all := (arrF .u8 32 pk)) (t := 23) (fr := (0, 0)) 1 kr 23 (.tmp 15) rfl 0 kr (arrF .u8 32 pk) (part_all _) _ Tryd.underlying23 rfl (by rw [arrF_size]; kernel_rfl))
  · exact E_v 120 (fun β => .bool true) 87 2 [] (fun β w hk hl hq => R_eqK (x := (.tmp 85)) (y := (.tmp 86)) rfl pk pk kr kr true ⟨fun _ _ _ => rfl, fun _ => rfl⟩ w)
  · exact E_k 120 (fun β => .bool true) 88 2
  · exact E_k 120 (fun β => .bool true) 89 2
  · exact E_v 120 (fun β => kyV pk) 90 2 [] (fun β w hk hl hq => R_loadH hl (own := true) (g := aq22) (all := (arrF .u8 32 pk)) (t := 23) (fr := (0, 0)) 1 kr 23 (.tmp 15) rfl 0 kr (arrF .u8 32 pk) (part_all _) _ Tryd.underlying23 rfl (by rw [arrF_size]; kernel_rfl))
  · exact E_k 120 (fun β => pt gl 0) 91 2
  · exact E_v 120 (fun β => kyV seed) 92 2 [] (fun β w hk hl hq => R_loadH hl (own := true) (g := aq2) (all := (arrF .u8 32 seed)) (t := 23) (fr := (0, 0)) 7 kr 23 (.tmp 3) rfl 0 kr (arrF .u8 32 seed) (part_all _) _ Tryd.underlying23 rfl (by rw [arrF_size]; kernel_rfl))
  · exact E_k 120 (fun β => nw nn) 93 2
  · exact E_callP 120 kq (fun β => kyV pk) 94 rfl kq 2 (fun β r => offAt2_of kr kr) 38 (fun β => #[pt gl 0, kyV seed, nw nn]) (fun β w => kr) 2 [] 0 0 _ _ rfl rfl kr kr rfl (fun β w hk hl hq hm => (lpub17_any gl rq24.n seed hseed nn hnn _ hm).mono (fun _ _ ⟨r, q1, q2⟩ => ⟨r, by rw [q1, hpk], q2⟩))
  · exact E_v 120 (fun β => .bool true) 95 2 [] (fun β w hk hl hq => R_eqK (x := (.tmp 90)) (y := (.tmp 94)) rfl pk pk kr kr true ⟨fun _ _ _ => rfl, fun _ => rfl⟩ w)
  · exact E_k 120 (fun β => .bool true) 96 2
  · exact E_k 120 (fun β => .bool true) 97 2
  · exact E_v 120 (fun β => kyV px) 98 2 [] (fun β w hk hl hq => R_loadH hl (own := true) (g := aq17) (all := (arrF .u8 32 px)) (t := 23) (fr := (0, 0)) 3 kr 23 (.tmp 12) rfl 0 kr (arrF .u8 32 px) (part_all _) _ Tryd.underlying23 rfl (by rw [arrF_size]; kernel_rfl))
  · exact E_k 120 (fun β => pt gl 0) 99 2
  · exact E_v 120 (fun β => kyV seed) 100 2 [] (fun β w hk hl hq => R_loadH hl (own := true) (g := aq2) (all := (arrF .u8 32 seed)) (t := 23) (fr := (0, 0)) 7 kr 23 (.tmp 3) rfl 0 kr (arrF .u8 32 seed) (part_all _) _ Tryd.underlying23 rfl (by rw [arrF_size]; kernel_rfl))
  · exact E_k 120 (fun β => nw nn) 101 2
  · exact E_v 120 (fun β => nw (add32 (nn) (1))) 102 2 [] (fun β w hk hl hq => R_bin (x := (.tmp 101)) (y := (.const (.int .u32 1))) rfl (k := .u32) (a := ((nn : Nat) : Int)) (b := ((1 : Nat) : Int)) kr kr (i_add32 (a := nn) (b := 1)) w)
  · exact E_callP 120 kq (fun β => kyV px) 103 rfl kq 2 (fun β r => offAt2_of kr kr) 38 (fun β => #[pt gl 0, kyV seed, nw (add32 (nn) (1))]) (fun β w => kr) 2 [] 0 1 _ _ rfl rfl kr kr rfl (fun β w hk hl hq hm => (lpub17_any gl (β 15).n seed hseed (add32 (nn) (1)) (add32_lt _ _) _ hm).mono (fun _ _ ⟨r, q1, q2⟩ => ⟨r, by rw [q1, hpx], q2⟩))
  · exact E_v 120 (fun β => .bool true) 104 2 [] (fun β w hk hl hq => R_eqK (x := (.tmp 98)) (y := (.tmp 103)) rfl px px kr kr true ⟨fun _ _ _ => rfl, fun _ => rfl⟩ w)
  · exact E_k 120 (fun β => .bool true) 105 2
  · exact E_k 120 (fun β => .bool true) 106 2
  · exact E_k 120 (fun β => pt cb 0) 107 2
  · exact E_k 120 (fun β => pt cb 0) 108 2
  · exact E_k 120 (fun β => pt cb 32) 109 2
  · exact E_v 120 (fun β => nw (add32 (nn) (1))) 110 2 [] (fun β w hk hl hq => R_cellH hl (own := true) (g := cb) (all := (chA seed (add32 (nn) (1)))) (t := 60) (fr := (0, 0)) 5 kr 53 (.tmp 109) rfl 32 kr (nw (add32 (nn) (1))) kr _ Tryd.underlying53 rfl)
  · exact E_k 120 (fun β => nw nn) 111 2
  · exact E_v 120 (fun β => nw (add32 (nn) (1))) 112 2 [] (fun β w hk hl hq => R_bin (x := (.tmp 111)) (y := (.const (.int .u32 1))) rfl (k := .u32) (a := ((nn : Nat) : Int)) (b := ((1 : Nat) : Int)) kr kr (i_add32 (a := nn) (b := 1)) w)
  · exact E_v 120 (fun β => .bool true) 113 2 [] (fun β w hk hl hq => R_bin (x := (.tmp 110)) (y := (.tmp 112)) rfl (k := .u32) (a := (((add32 (nn) (1)) : Nat) : Int)) (b := ((add32 (nn) (1) : Nat) : Int)) kr kr (i_eq rfl) w)
  · exact E_k 120 (fun β => .bool true) 114 2
  · exact E_k 120 (fun β => .bool true) 115 2
  · exact E_k 120 (fun β => sc rq19.g 0 67 rq19.cap) 116 2
  · exact E_k 120 (fun β => sc rq24.g 0 67 rq24.cap) 117 2
  · exact E_call 120 kq (fun β => .bool true) 118 rfl kq 25 (fun β => #[sc rq19.g 0 67 rq19.cap, sc rq24.g 0 67 rq24.cap]) (fun β w => kr) 2 [] kr rfl (fun β w hk hl hq => keysR_any kz rq19.g rq19.cap rq24.g rq24.cap _ _ hkn _ (hl.at_ (k := 2) rfl) (hl.at_ (k := 0) rfl))
  · exact E_k 120 (fun β => .bool true) 119 2
  · exact E_k 120 (fun β => .bool true) 6 2
  clear F H; intro β a v Q F H
  replace H : Hp [] w [bk gl (lgr (β 24).n) 32, bk rq24.g (sl (keysC kz 67) rq24.rest) 23, bk aq22 (arrF .u8 32 pk) 23, bk rq19.g (sl (keysC kz 67) rq19.rest) 23, bk aq17 (arrF .u8 32 px) 23, bk aq14 (arrF .u8 32 pk) 23, bk cb (chA seed (add32 (nn) (1))) 60, bk gm (mtr rq21.n) 91, bk aq2 (arrF .u8 32 seed) 23] v := H
  replace F : Fm 120 [] [(6, .bool true), (119, .bool true), (118, .bool true), (117, sc rq24.g 0 67 rq24.cap), (116, sc rq19.g 0 67 rq19.cap), (115, .bool true), (114, .bool true), (113, .bool true), (112, nw (add32 (nn) (1))), (111, nw nn), (110, nw (add32 (nn) (1))), (109, pt cb 32), (108, pt cb 0), (107, pt cb 0), (106, .bool true), (105, .bool true), (104, .bool true), (103, kyV px), (102, nw (add32 (nn) (1))), (101, nw nn), (100, kyV seed), (99, pt gl 0), (98, kyV px), (97, .bool true), (96, .bool true), (95, .bool true), (94, kyV pk), (93, nw nn), (92, kyV seed), (91, pt gl 0), (90, kyV pk), (89, .bool true), (88, .bool true), (87, .bool true), (86, kyV pk), (85, kyV pk), (84, .bool true), (83, .bool true), (82, .bool true), (81, ni 0), (80, .bool true), (79, .bool true), (52, .bool false), (51, nw nn), (16, sc rq24.g 0 67 rq24.cap), (50, sc rq24.g 0 67 rq24.cap), (49, .slice p.ad p.n p.c), (48, nw nn), (47, kyV seed), (46, pt gl 0), (15, pt aq22 0), (45, kyV pk), (44, nw nn), (43, kyV seed), (42, pt gm 0), (14, ni 0), (13, sc rq19.g 0 67 rq19.cap), (41, ni 0), (40, sc rq19.g 0 67 rq19.cap), (35, .tuple #[sc rq19.g 0 67 rq19.cap, ni 0]), (39, .tuple #[sc rq19.g 0 67 rq19.cap, ni 0]), (38, .slice p.ad p.n p.c), (37, pt gm 0), (36, pt cb 0), (12, pt aq17 0), (34, kyV px), (33, pt gm 0), (32, pt cb 0), (11, pt aq14 0), (31, kyV pk), (30, pt gm 0), (29, pt cb 0), (10, pt cb 0), (28, pt cb 0), (27, .agg (chA seed nn)), (26, nw nn), (25, kyV seed), (9, pt gl 0), (24, pt gl 0), (23, .agg #[.bool false, .int .i64 0, .slice none 0 0]), (8, pt gm 0), (22, pt gm 0), (20, .bool false), (19, ni p.n), (18, .slice p.ad p.n p.c), (7, .bool true), (17, .bool true), (3, pt aq2 0), (0, kyV seed), (1, nw nn), (2, .slice p.ad p.n p.c)] a := F.weak _ (subL_of kr)
  clear Q
  generalize β 15 = rq28 at F H
  generalize β 24 = rq29 at F H
  skip
  refine ?_
  refine hK27 _ _ ?_
  clear hK27
  try clear K27
  refine wp_ret ?_
  exact C_ret F H (rs := [.tmp 6]) rfl (vs := [.bool true]) (.tmp rfl .nil) (.bool true) rfl ⟨rfl, H.kept⟩

theorem signerSigns_any (seed : Nat → Nat) (hseed : ∀ i, i < 32 → seed i < 256) (nn : Nat) (hnn : nn < 4294967296) (p : SlP) (hbk : ∀ x ∈ p.l, x < 256) (hn : p.l.length = p.n) (w : World) (hW : Laid w) (hrd : RdK [] w p) : Calls Tryd.prog 9 #[.agg (arrF .u8 32 seed), .int .u32 ((nn : Nat) : Int), .slice p.ad p.n p.c] w fun e w' => e = .returned (.bool true) ∧ Kept [] w w' := by
  by_cases h0 : 300 < p.n
  · exact ss_long seed hseed nn hnn p hbk hn h0 w hW hrd
  by_cases h1 : nn = 4294967295
  · subst h1
    exact ss_last seed hseed p hbk hn (by omega) w hW hrd
  · exact ss_yes seed hseed nn hnn p hbk hn (by omega) h1 w hW hrd
end Go.Proofs.YtdejhenkdbjakaaDoor
