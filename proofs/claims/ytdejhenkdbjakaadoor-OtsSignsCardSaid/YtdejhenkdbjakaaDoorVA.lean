/- Walks: OtsSigns. -/
import Derived.Test.YtdejhenkdbjakaaDoorV9
import Derived.Test.YtdejhenkdbjakaaDoorWG
set_option linter.unusedVariables false
set_option linter.unusedSimpArgs false
namespace Go.Proofs.YtdejhenkdbjakaaDoor
open Go Go.RowKit
set_option maxRecDepth 100000 in
set_option maxHeartbeats 4000000 in
theorem signsT (seed : Nat → Nat) (hseed : ∀ i, i < 32 → seed i < 256) (tag : Nat → Nat) (ht : ∀ i, i < 32 → tag i < 256) (fd : Nat → Nat) (hfd : ∀ i, i < 32 → fd i < 256) (w : World) (hW : Laid w) : Calls Tryd.prog 4 #[.agg (arrF .u8 32 seed), .agg (arrF .u8 32 tag), .agg (arrF .u8 32 fd), .bool true] w fun e w' => e = .returned (.bool true) ∧ Kept [] w w' := by
  obtain ⟨ky, hky⟩ : ∃ ky, ky = shaK (endK tag (pbK seed tag) 67) := ⟨_, rfl⟩
  refine C_enter Tryd.func4 rfl 64 Tryd.ntmps4 (Nat.le_of_ble_eq_true rfl) (fun a F => ?_)
  have H := Hp.start [] w
  replace F : Fm 64 [] [(0, .agg (arrF .u8 32 seed)), (1, .agg (arrF .u8 32 tag)), (2, .agg (arrF .u8 32 fd)), (3, .bool true)] a := F.weak _ (⟨rfl, ⟨rfl, ⟨rfl, ⟨rfl, trivial⟩⟩⟩⟩)
  refine C_seqK (fun K1 hK1 => ?_)
  refine C_region ?_
  refine T_new F H kr (fun ad => .pointer (some ⟨ad, 0, none⟩)) (.cells (arrF .u8 32 seed) 23 (0, 0)) (fun w => kr) ?_
  clear F H; intro aq2 a v F H
  refine T_new F H kr (fun ad => .pointer (some ⟨ad, 0, none⟩)) (.cells (arrF .u8 32 tag) 23 (0, 0)) (fun w => kr) ?_
  clear F H; intro aq3 a v F H
  refine T_new F H kr (fun ad => .pointer (some ⟨ad, 0, none⟩)) (.cells (arrF .u8 32 fd) 23 (0, 0)) (fun w => kr) ?_
  clear F H; intro aq4 a v F H
  refine T_val F H kr (.bool false) (fun _ _ => kr) ?_
  clear F; intro a F
  refine wpList_nil ?_
  refine hK1 _ _ ?_
  clear hK1
  try clear K1
  refine C_seqK (fun K5 hK5 => ?_)
  refine C_region ?_
  refine T_call F H kr 15 #[] (.bool true) (fun w => kr) (awake_any _ (hW.kept H.kept List.not_mem_nil List.not_mem_nil)) ?_
  clear F H; intro a v F H
  refine T_val F H kr (.bool true) (fun _ _ => kr) ?_
  clear F; intro a F
  refine wpList_nil ?_
  refine hK5 _ _ ?_
  clear hK5
  try clear K5
  refine C_seqK (fun K6 hK6 => ?_)
  refine C_region ?_
  refine T_callX (α := SlR) F H kr 18 #[.bool false] (fun rX => .pointer (some ⟨rX.g, 0, none⟩)) (fun rX => [⟨true, rX.g, .cells (mtr 0) 91 (0, 0)⟩, ⟨true, aq4, .cells (arrF .u8 32 fd) 23 (0, 0)⟩, ⟨true, aq3, .cells (arrF .u8 32 tag) 23 (0, 0)⟩, ⟨true, aq2, .cells (arrF .u8 32 seed) 23 (0, 0)⟩]) (fun rX => True) (fun w => kr) (fun w H => callsX_newV H (newM_any _)) ?_
  clear F H; intro rq7 a v Qrq7 F H
  refine T_val F H kr (.pointer (some ⟨rq7.g, 0, none⟩)) (fun _ _ => kr) ?_
  clear F; intro a F
  refine wpList_nil ?_
  generalize rq7.g = gm at F H
  refine hK6 _ _ ?_
  clear hK6
  try clear K6
  refine C_seqK (fun K8 hK8 => ?_)
  refine C_region ?_
  refine T_val F H kr (.agg #[.bool false, .int .i64 0, .slice none 0 0]) (fun _ _ => kr) ?_
  clear F; intro a F
  refine T_new F H kr (fun ad => .pointer (some ⟨ad, 0, none⟩)) (.cells #[.bool false, .int .i64 0, .slice none 0 0] 32 (0, 0)) (fun w => kr) ?_
  clear F H; intro aq9 a v F H
  refine T_val F H kr (.pointer (some ⟨aq9, 0, none⟩)) (fun _ _ => kr) ?_
  clear F; intro a F
  refine wpList_nil ?_
  rw [show (#[.bool false, .int .i64 0, .slice none 0 0] : Array Value) = lgr 0 from kr] at H
  generalize aq9 = gl at F H
  refine hK8 _ _ ?_
  clear hK8
  try clear K8
  refine C_seqK (fun K10 hK10 => ?_)
  refine C_region ?_
  refine T_val F H kr (.pointer (some ⟨gm, 0, none⟩)) (fun _ _ => kr) ?_
  clear F; intro a F
  refine T_val F H kr (.agg (arrF .u8 32 seed)) (R_load (own := true) (g := aq2) (all := (arrF .u8 32 seed)) (t := 23) (fr := (0, 0)) 4 kr 23 (.tmp 4) rfl 0 kr (arrF .u8 32 seed) (part_all _) _ Tryd.underlying23 rfl (by rw [arrF_size]; kernel_rfl)) ?_
  clear F; intro a F
  refine T_val F H kr (.agg (arrF .u8 32 tag)) (R_load (own := true) (g := aq3) (all := (arrF .u8 32 tag)) (t := 23) (fr := (0, 0)) 3 kr 23 (.tmp 5) rfl 0 kr (arrF .u8 32 tag) (part_all _) _ Tryd.underlying23 rfl (by rw [arrF_size]; kernel_rfl)) ?_
  clear F; intro a F
  refine T_callX (α := SlR) F H kr 21 #[.pointer (some ⟨gm, 0, none⟩), .agg (arrF .u8 32 seed), .agg (arrF .u8 32 tag)] (fun rX => .pointer (some ⟨rX.g, 0, none⟩)) (fun rX => [⟨true, rX.g, .cells (sgA gm seed tag zF 0 0) 101 (0, 0)⟩, ⟨true, gl, .cells (lgr 0) 32 (0, 0)⟩, ⟨true, gm, .cells (mtr 0) 91 (0, 0)⟩, ⟨true, aq4, .cells (arrF .u8 32 fd) 23 (0, 0)⟩, ⟨true, aq3, .cells (arrF .u8 32 tag) 23 (0, 0)⟩, ⟨true, aq2, .cells (arrF .u8 32 seed) 23 (0, 0)⟩]) (fun rX => True) (fun w => kr) (fun w H => callsX_newV H (otsnew_any gm seed tag _)) ?_
  clear F H; intro rq11 a v Qrq11 F H
  refine T_val F H kr (.pointer (some ⟨rq11.g, 0, none⟩)) (fun _ _ => kr) ?_
  clear F; intro a F
  refine wpList_nil ?_
  generalize rq11.g = sg at F H
  refine hK10 _ _ ?_
  clear hK10
  try clear K10
  refine C_seqK (fun K12 hK12 => ?_)
  refine C_seqK (fun K13 hK13 => ?_)
  refine C_region ?_
  refine T_val F H kr (.pointer (some ⟨sg, 0, none⟩)) (fun _ _ => kr) ?_
  clear F; intro a F
  refine T_val F H kr (.bool false) (fun _ _ => kr) ?_
  clear F; intro a F
  refine wpList_nil ?_
  refine hK13 _ _ ?_
  clear hK13
  try clear K13
  refine C_if F false rfl rfl ?_
  refine wp_skip ?_
  refine hK12 _ _ ?_
  clear hK12
  try clear K12
  refine C_seqK (fun K14 hK14 => ?_)
  refine C_region ?_
  refine T_val F H kr (.agg (arrF .u8 32 zF)) (fun _ _ => kr) ?_
  clear F; intro a F
  refine T_new F H kr (fun ad => .pointer (some ⟨ad, 0, none⟩)) (.cells #[.int .u8 0, .int .u8 0, .int .u8 0, .int .u8 0, .int .u8 0, .int .u8 0, .int .u8 0, .int .u8 0, .int .u8 0, .int .u8 0, .int .u8 0, .int .u8 0, .int .u8 0, .int .u8 0, .int .u8 0, .int .u8 0, .int .u8 0, .int .u8 0, .int .u8 0, .int .u8 0, .int .u8 0, .int .u8 0, .int .u8 0, .int .u8 0, .int .u8 0, .int .u8 0, .int .u8 0, .int .u8 0, .int .u8 0, .int .u8 0, .int .u8 0, .int .u8 0] 23 (0, 0)) (fun w => kr) ?_
  clear F H; intro aq15 a v F H
  refine T_set F H kr rfl 0 rfl (arrF .u8 32 zF) (S_row 0 rfl 23 (.tmp 13) (.tmp 27) rfl kr (arrF .u8 32 zF) kr (by rw [arrF_size]; kernel_rfl) (by rw [arrF_size]; kernel_rfl) (arrF_one _ _ _)) [⟨true, aq15, .cells (arrF .u8 32 zF) 23 (0, 0)⟩, ⟨true, sg, .cells (sgA gm seed tag zF 0 0) 101 (0, 0)⟩, ⟨true, gl, .cells (lgr 0) 32 (0, 0)⟩, ⟨true, gm, .cells (mtr 0) 91 (0, 0)⟩, ⟨true, aq4, .cells (arrF .u8 32 fd) 23 (0, 0)⟩, ⟨true, aq3, .cells (arrF .u8 32 tag) 23 (0, 0)⟩, ⟨true, aq2, .cells (arrF .u8 32 seed) 23 (0, 0)⟩] rfl ?_
  clear F H; intro a v F H
  refine wpList_nil ?_
  refine hK14 _ _ ?_
  clear hK14
  try clear K14
  refine C_seqK (fun K16 hK16 => ?_)
  refine C_seqK (fun K17 hK17 => ?_)
  refine C_region ?_
  refine T_val F H kr (.bool true) (fun _ _ => kr) ?_
  clear F; intro a F
  refine wpList_nil ?_
  refine hK17 _ _ ?_
  clear hK17
  try clear K17
  refine C_if F true rfl rfl ?_
  refine C_region ?_
  refine T_val F H kr (.pointer (some ⟨sg, 0, none⟩)) (fun _ _ => kr) ?_
  clear F; intro a F
  refine T_callX (α := SlR) F H kr 22 #[.pointer (some ⟨sg, 0, none⟩)] (fun rX => .agg (arrF .u8 32 ky)) (fun rX => [⟨true, aq15, .cells (arrF .u8 32 zF) 23 (0, 0)⟩, ⟨true, sg, .cells (sgA gm seed tag ky 1 0) 101 (0, 0)⟩, ⟨true, gl, .cells (lgr 0) 32 (0, 0)⟩, ⟨true, gm, .cells (mtr rX.n) 91 (0, 0)⟩, ⟨true, aq4, .cells (arrF .u8 32 fd) 23 (0, 0)⟩, ⟨true, aq3, .cells (arrF .u8 32 tag) 23 (0, 0)⟩, ⟨true, aq2, .cells (arrF .u8 32 seed) 23 (0, 0)⟩]) (fun rX => True) (fun w => kr) (fun w H => callsX_put2 H (k := 3) (k2 := 1) rfl rfl (by decide) (pubP_first gm 0 sg seed hseed tag ht ky hky.symm zF _ (hW.kept H.kept List.not_mem_nil List.not_mem_nil) (H.at_ (k := 3) rfl) (H.at_ (k := 1) rfl))) ?_
  clear F H; intro rq18 a v Qrq18 F H
  refine T_set F H kr rfl 0 rfl (arrF .u8 32 ky) (S_row 0 rfl 23 (.tmp 13) (.tmp 30) rfl kr (arrF .u8 32 ky) kr (by rw [arrF_size]; kernel_rfl) ((arrF_size _ _ _).trans (arrF_size _ _ _).symm) (arrF_one _ _ _)) [⟨true, aq15, .cells (arrF .u8 32 ky) 23 (0, 0)⟩, ⟨true, sg, .cells (sgA gm seed tag ky 1 0) 101 (0, 0)⟩, ⟨true, gl, .cells (lgr 0) 32 (0, 0)⟩, ⟨true, gm, .cells (mtr rq18.n) 91 (0, 0)⟩, ⟨true, aq4, .cells (arrF .u8 32 fd) 23 (0, 0)⟩, ⟨true, aq3, .cells (arrF .u8 32 tag) 23 (0, 0)⟩, ⟨true, aq2, .cells (arrF .u8 32 seed) 23 (0, 0)⟩] rfl ?_
  clear F H; intro a v F H
  refine wpList_nil ?_
  refine hK16 _ _ ?_
  clear hK16
  try clear K16
  refine C_seqK (fun K19 hK19 => ?_)
  refine C_region ?_
  refine T_val F H kr (.pointer (some ⟨sg, 0, none⟩)) (fun _ _ => kr) ?_
  clear F; intro a F
  refine T_val F H kr (.agg (arrF .u8 32 fd)) (R_load (own := true) (g := aq4) (all := (arrF .u8 32 fd)) (t := 23) (fr := (0, 0)) 4 kr 23 (.tmp 6) rfl 0 kr (arrF .u8 32 fd) (part_all _) _ Tryd.underlying23 rfl (by rw [arrF_size]; kernel_rfl)) ?_
  clear F; intro a F
  refine T_callX (α := SlR) F H kr 23 #[.pointer (some ⟨sg, 0, none⟩), .agg (arrF .u8 32 fd)] (fun rX => .slice (some ⟨rX.g, 0, none⟩) 67 rX.cap) (fun rX => [⟨true, rX.g, .cells (sl (keysC (sgK seed tag fd) 67) rX.rest) 23 (0, 0)⟩, ⟨true, aq15, .cells (arrF .u8 32 ky) 23 (0, 0)⟩, ⟨true, sg, .cells (sgA gm seed tag ky 1 0) 101 (0, 0)⟩, ⟨true, gl, .cells (lgr 0) 32 (0, 0)⟩, ⟨true, gm, .cells (mtr rX.n) 91 (0, 0)⟩, ⟨true, aq4, .cells (arrF .u8 32 fd) 23 (0, 0)⟩, ⟨true, aq3, .cells (arrF .u8 32 tag) 23 (0, 0)⟩, ⟨true, aq2, .cells (arrF .u8 32 seed) 23 (0, 0)⟩]) (fun rX => (True) ∧ (Own (keysC (sgK seed tag fd) 67) rX.rest 67 rX.cap 32)) (fun w => kr) (fun w H => callsX_bothV H (k := 3) rfl (sign_any gm rq18.n sg seed hseed tag ht ky 1 0 fd hfd _ (hW.kept H.kept List.not_mem_nil List.not_mem_nil) (H.at_ (k := 3) rfl) (H.at_ (k := 1) rfl))) ?_
  clear F H; intro rq20 a v Qrq20 F H
  refine T_val F H kr (.slice (some ⟨rq20.g, 0, none⟩) 67 rq20.cap) (fun _ _ => kr) ?_
  clear F; intro a F
  refine wpList_nil ?_
  refine hK19 _ _ ?_
  clear hK19
  try clear K19
  refine C_seqK (fun K21 hK21 => ?_)
  refine C_region ?_
  refine T_val F H kr (.pointer (some ⟨sg, 0, none⟩)) (fun _ _ => kr) ?_
  clear F; intro a F
  refine T_callX (α := SlR) F H kr 22 #[.pointer (some ⟨sg, 0, none⟩)] (fun rX => .agg (arrF .u8 32 ky)) (fun rX => [⟨true, rq20.g, .cells (sl (keysC (sgK seed tag fd) 67) rq20.rest) 23 (0, 0)⟩, ⟨true, aq15, .cells (arrF .u8 32 ky) 23 (0, 0)⟩, ⟨true, sg, .cells (sgA gm seed tag ky 1 0) 101 (0, 0)⟩, ⟨true, gl, .cells (lgr 0) 32 (0, 0)⟩, ⟨true, gm, .cells (mtr rX.n) 91 (0, 0)⟩, ⟨true, aq4, .cells (arrF .u8 32 fd) 23 (0, 0)⟩, ⟨true, aq3, .cells (arrF .u8 32 tag) 23 (0, 0)⟩, ⟨true, aq2, .cells (arrF .u8 32 seed) 23 (0, 0)⟩]) (fun rX => True) (fun w => kr) (fun w H => callsX_put2 H (k := 4) (k2 := 2) rfl rfl (by decide) (pubP_again gm rq20.n sg seed hseed tag ht ky hky.symm ky _ (hW.kept H.kept List.not_mem_nil List.not_mem_nil) (H.at_ (k := 4) rfl) (H.at_ (k := 2) rfl))) ?_
  clear F H; intro rq22 a v Qrq22 F H
  refine T_new F H kr (fun ad => .pointer (some ⟨ad, 0, none⟩)) (.cells #[.int .u8 0, .int .u8 0, .int .u8 0, .int .u8 0, .int .u8 0, .int .u8 0, .int .u8 0, .int .u8 0, .int .u8 0, .int .u8 0, .int .u8 0, .int .u8 0, .int .u8 0, .int .u8 0, .int .u8 0, .int .u8 0, .int .u8 0, .int .u8 0, .int .u8 0, .int .u8 0, .int .u8 0, .int .u8 0, .int .u8 0, .int .u8 0, .int .u8 0, .int .u8 0, .int .u8 0, .int .u8 0, .int .u8 0, .int .u8 0, .int .u8 0, .int .u8 0] 23 (0, 0)) (fun w => kr) ?_
  clear F H; intro aq23 a v F H
  refine T_set F H kr rfl 0 rfl (arrF .u8 32 ky) (S_row 0 rfl 23 (.tmp 15) (.tmp 35) rfl kr (arrF .u8 32 ky) kr (by rw [arrF_size]; kernel_rfl) (by rw [arrF_size]; kernel_rfl) (arrF_one _ _ _)) [⟨true, aq23, .cells (arrF .u8 32 ky) 23 (0, 0)⟩, ⟨true, rq20.g, .cells (sl (keysC (sgK seed tag fd) 67) rq20.rest) 23 (0, 0)⟩, ⟨true, aq15, .cells (arrF .u8 32 ky) 23 (0, 0)⟩, ⟨true, sg, .cells (sgA gm seed tag ky 1 0) 101 (0, 0)⟩, ⟨true, gl, .cells (lgr 0) 32 (0, 0)⟩, ⟨true, gm, .cells (mtr rq22.n) 91 (0, 0)⟩, ⟨true, aq4, .cells (arrF .u8 32 fd) 23 (0, 0)⟩, ⟨true, aq3, .cells (arrF .u8 32 tag) 23 (0, 0)⟩, ⟨true, aq2, .cells (arrF .u8 32 seed) 23 (0, 0)⟩] rfl ?_
  clear F H; intro a v F H
  refine wpList_nil ?_
  refine hK21 _ _ ?_
  clear hK21
  try clear K21
  refine C_seqK (fun K24 hK24 => ?_)
  refine C_region ?_
  refine T_val F H kr (.pointer (some ⟨gl, 0, none⟩)) (fun _ _ => kr) ?_
  clear F; intro a F
  refine T_val F H kr (.agg (arrF .u8 32 seed)) (R_load (own := true) (g := aq2) (all := (arrF .u8 32 seed)) (t := 23) (fr := (0, 0)) 8 kr 23 (.tmp 4) rfl 0 kr (arrF .u8 32 seed) (part_all _) _ Tryd.underlying23 rfl (by rw [arrF_size]; kernel_rfl)) ?_
  clear F; intro a F
  refine T_val F H kr (.agg (arrF .u8 32 tag)) (R_load (own := true) (g := aq3) (all := (arrF .u8 32 tag)) (t := 23) (fr := (0, 0)) 7 kr 23 (.tmp 5) rfl 0 kr (arrF .u8 32 tag) (part_all _) _ Tryd.underlying23 rfl (by rw [arrF_size]; kernel_rfl)) ?_
  clear F; intro a F
  refine T_callX (α := SlR) F H kr 24 #[.pointer (some ⟨gl, 0, none⟩), .agg (arrF .u8 32 seed), .agg (arrF .u8 32 tag)] (fun rX => .agg (arrF .u8 32 ky)) (fun rX => [⟨true, aq23, .cells (arrF .u8 32 ky) 23 (0, 0)⟩, ⟨true, rq20.g, .cells (sl (keysC (sgK seed tag fd) 67) rq20.rest) 23 (0, 0)⟩, ⟨true, aq15, .cells (arrF .u8 32 ky) 23 (0, 0)⟩, ⟨true, sg, .cells (sgA gm seed tag ky 1 0) 101 (0, 0)⟩, ⟨true, gl, .cells (lgr rX.n) 32 (0, 0)⟩, ⟨true, gm, .cells (mtr rq22.n) 91 (0, 0)⟩, ⟨true, aq4, .cells (arrF .u8 32 fd) 23 (0, 0)⟩, ⟨true, aq3, .cells (arrF .u8 32 tag) 23 (0, 0)⟩, ⟨true, aq2, .cells (arrF .u8 32 seed) 23 (0, 0)⟩]) (fun rX => True) (fun w => kr) (fun w H => callsX_putV H (k := 4) rfl ((lpublic_any gl 0 seed hseed tag ht _ (H.at_ (k := 4) rfl)).mono (fun _ _ ⟨r, q1, q2⟩ => ⟨r, by rw [q1, hky], q2⟩))) ?_
  clear F H; intro rq25 a v Qrq25 F H
  refine T_new F H kr (fun ad => .pointer (some ⟨ad, 0, none⟩)) (.cells #[.int .u8 0, .int .u8 0, .int .u8 0, .int .u8 0, .int .u8 0, .int .u8 0, .int .u8 0, .int .u8 0, .int .u8 0, .int .u8 0, .int .u8 0, .int .u8 0, .int .u8 0, .int .u8 0, .int .u8 0, .int .u8 0, .int .u8 0, .int .u8 0, .int .u8 0, .int .u8 0, .int .u8 0, .int .u8 0, .int .u8 0, .int .u8 0, .int .u8 0, .int .u8 0, .int .u8 0, .int .u8 0, .int .u8 0, .int .u8 0, .int .u8 0, .int .u8 0] 23 (0, 0)) (fun w => kr) ?_
  clear F H; intro aq26 a v F H
  refine T_set F H kr rfl 0 rfl (arrF .u8 32 ky) (S_row 0 rfl 23 (.tmp 16) (.tmp 39) rfl kr (arrF .u8 32 ky) kr (by rw [arrF_size]; kernel_rfl) (by rw [arrF_size]; kernel_rfl) (arrF_one _ _ _)) [⟨true, aq26, .cells (arrF .u8 32 ky) 23 (0, 0)⟩, ⟨true, aq23, .cells (arrF .u8 32 ky) 23 (0, 0)⟩, ⟨true, rq20.g, .cells (sl (keysC (sgK seed tag fd) 67) rq20.rest) 23 (0, 0)⟩, ⟨true, aq15, .cells (arrF .u8 32 ky) 23 (0, 0)⟩, ⟨true, sg, .cells (sgA gm seed tag ky 1 0) 101 (0, 0)⟩, ⟨true, gl, .cells (lgr rq25.n) 32 (0, 0)⟩, ⟨true, gm, .cells (mtr rq22.n) 91 (0, 0)⟩, ⟨true, aq4, .cells (arrF .u8 32 fd) 23 (0, 0)⟩, ⟨true, aq3, .cells (arrF .u8 32 tag) 23 (0, 0)⟩, ⟨true, aq2, .cells (arrF .u8 32 seed) 23 (0, 0)⟩] rfl ?_
  clear F H; intro a v F H
  refine wpList_nil ?_
  refine hK24 _ _ ?_
  clear hK24
  try clear K24
  refine C_seqK (fun K27 hK27 => ?_)
  refine C_region ?_
  refine T_val F H kr (.bool true) (fun _ _ => kr) ?_
  clear F; intro a F
  refine T_val F H kr (.bool true) (fun _ _ => kr) ?_
  clear F; intro a F
  refine T_val F H kr (.agg (arrF .u8 32 ky)) (R_load (own := true) (g := aq23) (all := (arrF .u8 32 ky)) (t := 23) (fr := (0, 0)) 1 kr 23 (.tmp 15) rfl 0 kr (arrF .u8 32 ky) (part_all _) _ Tryd.underlying23 rfl (by rw [arrF_size]; kernel_rfl)) ?_
  clear F; intro a F
  refine T_val F H kr (.agg (arrF .u8 32 ky)) (R_load (own := true) (g := aq26) (all := (arrF .u8 32 ky)) (t := 23) (fr := (0, 0)) 0 kr 23 (.tmp 16) rfl 0 kr (arrF .u8 32 ky) (part_all _) _ Tryd.underlying23 rfl (by rw [arrF_size]; kernel_rfl)) ?_
  clear F; intro a F
  refine T_val F H kr (.bool true) (fun w _ => R_eqK (x := (.tmp 42)) (y := (.tmp 43)) rfl ky ky kr kr true ⟨fun _ _ _ => rfl, fun _ => rfl⟩ w) ?_
  clear F; intro a F
  refine T_val F H kr (.bool true) (fun _ _ => kr) ?_
  clear F; intro a F
  refine T_val F H kr (.bool true) (fun _ _ => kr) ?_
  clear F; intro a F
  refine T_val F H kr (.bool true) (fun _ _ => kr) ?_
  clear F; intro a F
  refine T_val F H kr (.bool false) (fun _ _ => kr) ?_
  clear F; intro a F
  refine T_val F H kr (.bool false) (fun _ _ => kr) ?_
  clear F; intro a F
  refine T_val F H kr (.agg (arrF .u8 32 ky)) (R_load (own := true) (g := aq15) (all := (arrF .u8 32 ky)) (t := 23) (fr := (0, 0)) 3 kr 23 (.tmp 13) rfl 0 kr (arrF .u8 32 ky) (part_all _) _ Tryd.underlying23 rfl (by rw [arrF_size]; kernel_rfl)) ?_
  clear F; intro a F
  refine T_val F H kr (.agg (arrF .u8 32 ky)) (R_load (own := true) (g := aq26) (all := (arrF .u8 32 ky)) (t := 23) (fr := (0, 0)) 0 kr 23 (.tmp 16) rfl 0 kr (arrF .u8 32 ky) (part_all _) _ Tryd.underlying23 rfl (by rw [arrF_size]; kernel_rfl)) ?_
  clear F; intro a F
  refine T_val F H kr (.bool true) (fun w _ => R_eqK (x := (.tmp 50)) (y := (.tmp 51)) rfl ky ky kr kr true ⟨fun _ _ _ => rfl, fun _ => rfl⟩ w) ?_
  clear F; intro a F
  refine T_val F H kr (.bool true) (fun _ _ => kr) ?_
  clear F; intro a F
  refine T_val F H kr (.bool true) (fun _ _ => kr) ?_
  clear F; intro a F
  refine T_val F H kr (.bool true) (fun _ _ => kr) ?_
  clear F; intro a F
  refine T_val F H kr (.slice (some ⟨rq20.g, 0, none⟩) 67 rq20.cap) (fun _ _ => kr) ?_
  clear F; intro a F
  refine T_val F H kr (.pointer (some ⟨gl, 0, none⟩)) (fun _ _ => kr) ?_
  clear F; intro a F
  refine T_val F H kr (.agg (arrF .u8 32 seed)) (R_load (own := true) (g := aq2) (all := (arrF .u8 32 seed)) (t := 23) (fr := (0, 0)) 9 kr 23 (.tmp 4) rfl 0 kr (arrF .u8 32 seed) (part_all _) _ Tryd.underlying23 rfl (by rw [arrF_size]; kernel_rfl)) ?_
  clear F; intro a F
  refine T_val F H kr (.agg (arrF .u8 32 tag)) (R_load (own := true) (g := aq3) (all := (arrF .u8 32 tag)) (t := 23) (fr := (0, 0)) 8 kr 23 (.tmp 5) rfl 0 kr (arrF .u8 32 tag) (part_all _) _ Tryd.underlying23 rfl (by rw [arrF_size]; kernel_rfl)) ?_
  clear F; intro a F
  refine T_val F H kr (.agg (arrF .u8 32 fd)) (R_load (own := true) (g := aq4) (all := (arrF .u8 32 fd)) (t := 23) (fr := (0, 0)) 7 kr 23 (.tmp 6) rfl 0 kr (arrF .u8 32 fd) (part_all _) _ Tryd.underlying23 rfl (by rw [arrF_size]; kernel_rfl)) ?_
  clear F; intro a F
  refine T_callX (α := SlR) F H kr 26 #[.pointer (some ⟨gl, 0, none⟩), .agg (arrF .u8 32 seed), .agg (arrF .u8 32 tag), .agg (arrF .u8 32 fd)] (fun rX => .slice (some ⟨rX.g, 0, none⟩) 67 rX.cap) (fun rX => [⟨true, rX.g, .cells (sl (keysC (sgK seed tag fd) 67) rX.rest) 23 (0, 0)⟩, ⟨true, aq26, .cells (arrF .u8 32 ky) 23 (0, 0)⟩, ⟨true, aq23, .cells (arrF .u8 32 ky) 23 (0, 0)⟩, ⟨true, rq20.g, .cells (sl (keysC (sgK seed tag fd) 67) rq20.rest) 23 (0, 0)⟩, ⟨true, aq15, .cells (arrF .u8 32 ky) 23 (0, 0)⟩, ⟨true, sg, .cells (sgA gm seed tag ky 1 0) 101 (0, 0)⟩, ⟨true, gl, .cells (lgr rX.n) 32 (0, 0)⟩, ⟨true, gm, .cells (mtr rq22.n) 91 (0, 0)⟩, ⟨true, aq4, .cells (arrF .u8 32 fd) 23 (0, 0)⟩, ⟨true, aq3, .cells (arrF .u8 32 tag) 23 (0, 0)⟩, ⟨true, aq2, .cells (arrF .u8 32 seed) 23 (0, 0)⟩]) (fun rX => (True) ∧ (Own (keysC (sgK seed tag fd) 67) rX.rest 67 rX.cap 32)) (fun w => kr) (fun w H => callsX_bothV H (k := 5) rfl (lsign_any gl rq25.n seed hseed tag ht fd hfd _ (H.at_ (k := 5) rfl))) ?_
  clear F H; intro rq28 a v Qrq28 F H
  refine T_call F H kr 25 #[.slice (some ⟨rq20.g, 0, none⟩) 67 rq20.cap, .slice (some ⟨rq28.g, 0, none⟩) 67 rq28.cap] (.bool true) (fun w => kr) (keysR_any (sgK seed tag fd) rq20.g rq20.cap rq28.g rq28.cap _ _ (H.apart (i := 3) (j := 0) rfl rfl (by decide)) _ (H.at_ (k := 3) rfl) (H.at_ (k := 0) rfl)) ?_
  clear F H; intro a v F H
  refine T_val F H kr (.bool true) (fun _ _ => kr) ?_
  clear F; intro a F
  refine T_val F H kr (.bool true) (fun _ _ => kr) ?_
  clear F; intro a F
  refine wpList_nil ?_
  refine hK27 _ _ ?_
  clear hK27
  try clear K27
  refine wp_ret ?_
  exact C_ret F H (rs := [.tmp 8]) rfl (vs := [.bool true]) (.tmp rfl .nil) (.bool true) rfl ⟨rfl, H.kept⟩

set_option maxRecDepth 100000 in
set_option maxHeartbeats 4000000 in
theorem signsF (seed : Nat → Nat) (hseed : ∀ i, i < 32 → seed i < 256) (tag : Nat → Nat) (ht : ∀ i, i < 32 → tag i < 256) (fd : Nat → Nat) (hfd : ∀ i, i < 32 → fd i < 256) (w : World) (hW : Laid w) : Calls Tryd.prog 4 #[.agg (arrF .u8 32 seed), .agg (arrF .u8 32 tag), .agg (arrF .u8 32 fd), .bool false] w fun e w' => e = .returned (.bool true) ∧ Kept [] w w' := by
  obtain ⟨ky, hky⟩ : ∃ ky, ky = shaK (endK tag (pbK seed tag) 67) := ⟨_, rfl⟩
  refine C_enter Tryd.func4 rfl 64 Tryd.ntmps4 (Nat.le_of_ble_eq_true rfl) (fun a F => ?_)
  have H := Hp.start [] w
  replace F : Fm 64 [] [(0, .agg (arrF .u8 32 seed)), (1, .agg (arrF .u8 32 tag)), (2, .agg (arrF .u8 32 fd)), (3, .bool false)] a := F.weak _ (⟨rfl, ⟨rfl, ⟨rfl, ⟨rfl, trivial⟩⟩⟩⟩)
  refine C_seqK (fun K1 hK1 => ?_)
  refine C_region ?_
  refine T_new F H kr (fun ad => .pointer (some ⟨ad, 0, none⟩)) (.cells (arrF .u8 32 seed) 23 (0, 0)) (fun w => kr) ?_
  clear F H; intro aq2 a v F H
  refine T_new F H kr (fun ad => .pointer (some ⟨ad, 0, none⟩)) (.cells (arrF .u8 32 tag) 23 (0, 0)) (fun w => kr) ?_
  clear F H; intro aq3 a v F H
  refine T_new F H kr (fun ad => .pointer (some ⟨ad, 0, none⟩)) (.cells (arrF .u8 32 fd) 23 (0, 0)) (fun w => kr) ?_
  clear F H; intro aq4 a v F H
  refine T_val F H kr (.bool false) (fun _ _ => kr) ?_
  clear F; intro a F
  refine wpList_nil ?_
  refine hK1 _ _ ?_
  clear hK1
  try clear K1
  refine C_seqK (fun K5 hK5 => ?_)
  refine C_region ?_
  refine T_call F H kr 15 #[] (.bool true) (fun w => kr) (awake_any _ (hW.kept H.kept List.not_mem_nil List.not_mem_nil)) ?_
  clear F H; intro a v F H
  refine T_val F H kr (.bool true) (fun _ _ => kr) ?_
  clear F; intro a F
  refine wpList_nil ?_
  refine hK5 _ _ ?_
  clear hK5
  try clear K5
  refine C_seqK (fun K6 hK6 => ?_)
  refine C_region ?_
  refine T_callX (α := SlR) F H kr 18 #[.bool false] (fun rX => .pointer (some ⟨rX.g, 0, none⟩)) (fun rX => [⟨true, rX.g, .cells (mtr 0) 91 (0, 0)⟩, ⟨true, aq4, .cells (arrF .u8 32 fd) 23 (0, 0)⟩, ⟨true, aq3, .cells (arrF .u8 32 tag) 23 (0, 0)⟩, ⟨true, aq2, .cells (arrF .u8 32 seed) 23 (0, 0)⟩]) (fun rX => True) (fun w => kr) (fun w H => callsX_newV H (newM_any _)) ?_
  clear F H; intro rq7 a v Qrq7 F H
  refine T_val F H kr (.pointer (some ⟨rq7.g, 0, none⟩)) (fun _ _ => kr) ?_
  clear F; intro a F
  refine wpList_nil ?_
  generalize rq7.g = gm at F H
  refine hK6 _ _ ?_
  clear hK6
  try clear K6
  refine C_seqK (fun K8 hK8 => ?_)
  refine C_region ?_
  refine T_val F H kr (.agg #[.bool false, .int .i64 0, .slice none 0 0]) (fun _ _ => kr) ?_
  clear F; intro a F
  refine T_new F H kr (fun ad => .pointer (some ⟨ad, 0, none⟩)) (.cells #[.bool false, .int .i64 0, .slice none 0 0] 32 (0, 0)) (fun w => kr) ?_
  clear F H; intro aq9 a v F H
  refine T_val F H kr (.pointer (some ⟨aq9, 0, none⟩)) (fun _ _ => kr) ?_
  clear F; intro a F
  refine wpList_nil ?_
  rw [show (#[.bool false, .int .i64 0, .slice none 0 0] : Array Value) = lgr 0 from kr] at H
  generalize aq9 = gl at F H
  refine hK8 _ _ ?_
  clear hK8
  try clear K8
  refine C_seqK (fun K10 hK10 => ?_)
  refine C_region ?_
  refine T_val F H kr (.pointer (some ⟨gm, 0, none⟩)) (fun _ _ => kr) ?_
  clear F; intro a F
  refine T_val F H kr (.agg (arrF .u8 32 seed)) (R_load (own := true) (g := aq2) (all := (arrF .u8 32 seed)) (t := 23) (fr := (0, 0)) 4 kr 23 (.tmp 4) rfl 0 kr (arrF .u8 32 seed) (part_all _) _ Tryd.underlying23 rfl (by rw [arrF_size]; kernel_rfl)) ?_
  clear F; intro a F
  refine T_val F H kr (.agg (arrF .u8 32 tag)) (R_load (own := true) (g := aq3) (all := (arrF .u8 32 tag)) (t := 23) (fr := (0, 0)) 3 kr 23 (.tmp 5) rfl 0 kr (arrF .u8 32 tag) (part_all _) _ Tryd.underlying23 rfl (by rw [arrF_size]; kernel_rfl)) ?_
  clear F; intro a F
  refine T_callX (α := SlR) F H kr 21 #[.pointer (some ⟨gm, 0, none⟩), .agg (arrF .u8 32 seed), .agg (arrF .u8 32 tag)] (fun rX => .pointer (some ⟨rX.g, 0, none⟩)) (fun rX => [⟨true, rX.g, .cells (sgA gm seed tag zF 0 0) 101 (0, 0)⟩, ⟨true, gl, .cells (lgr 0) 32 (0, 0)⟩, ⟨true, gm, .cells (mtr 0) 91 (0, 0)⟩, ⟨true, aq4, .cells (arrF .u8 32 fd) 23 (0, 0)⟩, ⟨true, aq3, .cells (arrF .u8 32 tag) 23 (0, 0)⟩, ⟨true, aq2, .cells (arrF .u8 32 seed) 23 (0, 0)⟩]) (fun rX => True) (fun w => kr) (fun w H => callsX_newV H (otsnew_any gm seed tag _)) ?_
  clear F H; intro rq11 a v Qrq11 F H
  refine T_val F H kr (.pointer (some ⟨rq11.g, 0, none⟩)) (fun _ _ => kr) ?_
  clear F; intro a F
  refine wpList_nil ?_
  generalize rq11.g = sg at F H
  refine hK10 _ _ ?_
  clear hK10
  try clear K10
  refine C_seqK (fun K12 hK12 => ?_)
  refine C_seqK (fun K13 hK13 => ?_)
  refine C_region ?_
  refine T_val F H kr (.pointer (some ⟨sg, 0, none⟩)) (fun _ _ => kr) ?_
  clear F; intro a F
  refine T_val F H kr (.bool false) (fun _ _ => kr) ?_
  clear F; intro a F
  refine wpList_nil ?_
  refine hK13 _ _ ?_
  clear hK13
  try clear K13
  refine C_if F false rfl rfl ?_
  refine wp_skip ?_
  refine hK12 _ _ ?_
  clear hK12
  try clear K12
  refine C_seqK (fun K14 hK14 => ?_)
  refine C_region ?_
  refine T_val F H kr (.agg (arrF .u8 32 zF)) (fun _ _ => kr) ?_
  clear F; intro a F
  refine T_new F H kr (fun ad => .pointer (some ⟨ad, 0, none⟩)) (.cells #[.int .u8 0, .int .u8 0, .int .u8 0, .int .u8 0, .int .u8 0, .int .u8 0, .int .u8 0, .int .u8 0, .int .u8 0, .int .u8 0, .int .u8 0, .int .u8 0, .int .u8 0, .int .u8 0, .int .u8 0, .int .u8 0, .int .u8 0, .int .u8 0, .int .u8 0, .int .u8 0, .int .u8 0, .int .u8 0, .int .u8 0, .int .u8 0, .int .u8 0, .int .u8 0, .int .u8 0, .int .u8 0, .int .u8 0, .int .u8 0, .int .u8 0, .int .u8 0] 23 (0, 0)) (fun w => kr) ?_
  clear F H; intro aq15 a v F H
  refine T_set F H kr rfl 0 rfl (arrF .u8 32 zF) (S_row 0 rfl 23 (.tmp 13) (.tmp 27) rfl kr (arrF .u8 32 zF) kr (by rw [arrF_size]; kernel_rfl) (by rw [arrF_size]; kernel_rfl) (arrF_one _ _ _)) [⟨true, aq15, .cells (arrF .u8 32 zF) 23 (0, 0)⟩, ⟨true, sg, .cells (sgA gm seed tag zF 0 0) 101 (0, 0)⟩, ⟨true, gl, .cells (lgr 0) 32 (0, 0)⟩, ⟨true, gm, .cells (mtr 0) 91 (0, 0)⟩, ⟨true, aq4, .cells (arrF .u8 32 fd) 23 (0, 0)⟩, ⟨true, aq3, .cells (arrF .u8 32 tag) 23 (0, 0)⟩, ⟨true, aq2, .cells (arrF .u8 32 seed) 23 (0, 0)⟩] rfl ?_
  clear F H; intro a v F H
  refine wpList_nil ?_
  refine hK14 _ _ ?_
  clear hK14
  try clear K14
  refine C_seqK (fun K16 hK16 => ?_)
  refine C_seqK (fun K17 hK17 => ?_)
  refine C_region ?_
  refine T_val F H kr (.bool false) (fun _ _ => kr) ?_
  clear F; intro a F
  refine wpList_nil ?_
  refine hK17 _ _ ?_
  clear hK17
  try clear K17
  refine C_if F false rfl rfl ?_
  refine wp_skip ?_
  refine hK16 _ _ ?_
  clear hK16
  try clear K16
  refine C_seqK (fun K18 hK18 => ?_)
  refine C_region ?_
  refine T_val F H kr (.pointer (some ⟨sg, 0, none⟩)) (fun _ _ => kr) ?_
  clear F; intro a F
  refine T_val F H kr (.agg (arrF .u8 32 fd)) (R_load (own := true) (g := aq4) (all := (arrF .u8 32 fd)) (t := 23) (fr := (0, 0)) 4 kr 23 (.tmp 6) rfl 0 kr (arrF .u8 32 fd) (part_all _) _ Tryd.underlying23 rfl (by rw [arrF_size]; kernel_rfl)) ?_
  clear F; intro a F
  refine T_callX (α := SlR) F H kr 23 #[.pointer (some ⟨sg, 0, none⟩), .agg (arrF .u8 32 fd)] (fun rX => .slice (some ⟨rX.g, 0, none⟩) 67 rX.cap) (fun rX => [⟨true, rX.g, .cells (sl (keysC (sgK seed tag fd) 67) rX.rest) 23 (0, 0)⟩, ⟨true, aq15, .cells (arrF .u8 32 zF) 23 (0, 0)⟩, ⟨true, sg, .cells (sgA gm seed tag zF 0 0) 101 (0, 0)⟩, ⟨true, gl, .cells (lgr 0) 32 (0, 0)⟩, ⟨true, gm, .cells (mtr rX.n) 91 (0, 0)⟩, ⟨true, aq4, .cells (arrF .u8 32 fd) 23 (0, 0)⟩, ⟨true, aq3, .cells (arrF .u8 32 tag) 23 (0, 0)⟩, ⟨true, aq2, .cells (arrF .u8 32 seed) 23 (0, 0)⟩]) (fun rX => (True) ∧ (Own (keysC (sgK seed tag fd) 67) rX.rest 67 rX.cap 32)) (fun w => kr) (fun w H => callsX_bothV H (k := 3) rfl (sign_any gm 0 sg seed hseed tag ht zF 0 0 fd hfd _ (hW.kept H.kept List.not_mem_nil List.not_mem_nil) (H.at_ (k := 3) rfl) (H.at_ (k := 1) rfl))) ?_
  clear F H; intro rq19 a v Qrq19 F H
  refine T_val F H kr (.slice (some ⟨rq19.g, 0, none⟩) 67 rq19.cap) (fun _ _ => kr) ?_
  clear F; intro a F
  refine wpList_nil ?_
  refine hK18 _ _ ?_
  clear hK18
  try clear K18
  refine C_seqK (fun K20 hK20 => ?_)
  refine C_region ?_
  refine T_val F H kr (.pointer (some ⟨sg, 0, none⟩)) (fun _ _ => kr) ?_
  clear F; intro a F
  refine T_callX (α := SlR) F H kr 22 #[.pointer (some ⟨sg, 0, none⟩)] (fun rX => .agg (arrF .u8 32 ky)) (fun rX => [⟨true, rq19.g, .cells (sl (keysC (sgK seed tag fd) 67) rq19.rest) 23 (0, 0)⟩, ⟨true, aq15, .cells (arrF .u8 32 zF) 23 (0, 0)⟩, ⟨true, sg, .cells (sgA gm seed tag ky 1 0) 101 (0, 0)⟩, ⟨true, gl, .cells (lgr 0) 32 (0, 0)⟩, ⟨true, gm, .cells (mtr rX.n) 91 (0, 0)⟩, ⟨true, aq4, .cells (arrF .u8 32 fd) 23 (0, 0)⟩, ⟨true, aq3, .cells (arrF .u8 32 tag) 23 (0, 0)⟩, ⟨true, aq2, .cells (arrF .u8 32 seed) 23 (0, 0)⟩]) (fun rX => True) (fun w => kr) (fun w H => callsX_put2 H (k := 4) (k2 := 2) rfl rfl (by decide) (pubP_first gm rq19.n sg seed hseed tag ht ky hky.symm zF _ (hW.kept H.kept List.not_mem_nil List.not_mem_nil) (H.at_ (k := 4) rfl) (H.at_ (k := 2) rfl))) ?_
  clear F H; intro rq21 a v Qrq21 F H
  refine T_new F H kr (fun ad => .pointer (some ⟨ad, 0, none⟩)) (.cells #[.int .u8 0, .int .u8 0, .int .u8 0, .int .u8 0, .int .u8 0, .int .u8 0, .int .u8 0, .int .u8 0, .int .u8 0, .int .u8 0, .int .u8 0, .int .u8 0, .int .u8 0, .int .u8 0, .int .u8 0, .int .u8 0, .int .u8 0, .int .u8 0, .int .u8 0, .int .u8 0, .int .u8 0, .int .u8 0, .int .u8 0, .int .u8 0, .int .u8 0, .int .u8 0, .int .u8 0, .int .u8 0, .int .u8 0, .int .u8 0, .int .u8 0, .int .u8 0] 23 (0, 0)) (fun w => kr) ?_
  clear F H; intro aq22 a v F H
  refine T_set F H kr rfl 0 rfl (arrF .u8 32 ky) (S_row 0 rfl 23 (.tmp 15) (.tmp 35) rfl kr (arrF .u8 32 ky) kr (by rw [arrF_size]; kernel_rfl) (by rw [arrF_size]; kernel_rfl) (arrF_one _ _ _)) [⟨true, aq22, .cells (arrF .u8 32 ky) 23 (0, 0)⟩, ⟨true, rq19.g, .cells (sl (keysC (sgK seed tag fd) 67) rq19.rest) 23 (0, 0)⟩, ⟨true, aq15, .cells (arrF .u8 32 zF) 23 (0, 0)⟩, ⟨true, sg, .cells (sgA gm seed tag ky 1 0) 101 (0, 0)⟩, ⟨true, gl, .cells (lgr 0) 32 (0, 0)⟩, ⟨true, gm, .cells (mtr rq21.n) 91 (0, 0)⟩, ⟨true, aq4, .cells (arrF .u8 32 fd) 23 (0, 0)⟩, ⟨true, aq3, .cells (arrF .u8 32 tag) 23 (0, 0)⟩, ⟨true, aq2, .cells (arrF .u8 32 seed) 23 (0, 0)⟩] rfl ?_
  clear F H; intro a v F H
  refine wpList_nil ?_
  refine hK20 _ _ ?_
  clear hK20
  try clear K20
  refine C_seqK (fun K23 hK23 => ?_)
  refine C_region ?_
  refine T_val F H kr (.pointer (some ⟨gl, 0, none⟩)) (fun _ _ => kr) ?_
  clear F; intro a F
  refine T_val F H kr (.agg (arrF .u8 32 seed)) (R_load (own := true) (g := aq2) (all := (arrF .u8 32 seed)) (t := 23) (fr := (0, 0)) 8 kr 23 (.tmp 4) rfl 0 kr (arrF .u8 32 seed) (part_all _) _ Tryd.underlying23 rfl (by rw [arrF_size]; kernel_rfl)) ?_
  clear F; intro a F
  refine T_val F H kr (.agg (arrF .u8 32 tag)) (R_load (own := true) (g := aq3) (all := (arrF .u8 32 tag)) (t := 23) (fr := (0, 0)) 7 kr 23 (.tmp 5) rfl 0 kr (arrF .u8 32 tag) (part_all _) _ Tryd.underlying23 rfl (by rw [arrF_size]; kernel_rfl)) ?_
  clear F; intro a F
  refine T_callX (α := SlR) F H kr 24 #[.pointer (some ⟨gl, 0, none⟩), .agg (arrF .u8 32 seed), .agg (arrF .u8 32 tag)] (fun rX => .agg (arrF .u8 32 ky)) (fun rX => [⟨true, aq22, .cells (arrF .u8 32 ky) 23 (0, 0)⟩, ⟨true, rq19.g, .cells (sl (keysC (sgK seed tag fd) 67) rq19.rest) 23 (0, 0)⟩, ⟨true, aq15, .cells (arrF .u8 32 zF) 23 (0, 0)⟩, ⟨true, sg, .cells (sgA gm seed tag ky 1 0) 101 (0, 0)⟩, ⟨true, gl, .cells (lgr rX.n) 32 (0, 0)⟩, ⟨true, gm, .cells (mtr rq21.n) 91 (0, 0)⟩, ⟨true, aq4, .cells (arrF .u8 32 fd) 23 (0, 0)⟩, ⟨true, aq3, .cells (arrF .u8 32 tag) 23 (0, 0)⟩, ⟨true, aq2, .cells (arrF .u8 32 seed) 23 (0, 0)⟩]) (fun rX => True) (fun w => kr) (fun w H => callsX_putV H (k := 4) rfl ((lpublic_any gl 0 seed hseed tag ht _ (H.at_ (k := 4) rfl)).mono (fun _ _ ⟨r, q1, q2⟩ => ⟨r, by rw [q1, hky], q2⟩))) ?_
  clear F H; intro rq24 a v Qrq24 F H
  refine T_new F H kr (fun ad => .pointer (some ⟨ad, 0, none⟩)) (.cells #[.int .u8 0, .int .u8 0, .int .u8 0, .int .u8 0, .int .u8 0, .int .u8 0, .int .u8 0, .int .u8 0, .int .u8 0, .int .u8 0, .int .u8 0, .int .u8 0, .int .u8 0, .int .u8 0, .int .u8 0, .int .u8 0, .int .u8 0, .int .u8 0, .int .u8 0, .int .u8 0, .int .u8 0, .int .u8 0, .int .u8 0, .int .u8 0, .int .u8 0, .int .u8 0, .int .u8 0, .int .u8 0, .int .u8 0, .int .u8 0, .int .u8 0, .int .u8 0] 23 (0, 0)) (fun w => kr) ?_
  clear F H; intro aq25 a v F H
  refine T_set F H kr rfl 0 rfl (arrF .u8 32 ky) (S_row 0 rfl 23 (.tmp 16) (.tmp 39) rfl kr (arrF .u8 32 ky) kr (by rw [arrF_size]; kernel_rfl) (by rw [arrF_size]; kernel_rfl) (arrF_one _ _ _)) [⟨true, aq25, .cells (arrF .u8 32 ky) 23 (0, 0)⟩, ⟨true, aq22, .cells (arrF .u8 32 ky) 23 (0, 0)⟩, ⟨true, rq19.g, .cells (sl (keysC (sgK seed tag fd) 67) rq19.rest) 23 (0, 0)⟩, ⟨true, aq15, .cells (arrF .u8 32 zF) 23 (0, 0)⟩, ⟨true, sg, .cells (sgA gm seed tag ky 1 0) 101 (0, 0)⟩, ⟨true, gl, .cells (lgr rq24.n) 32 (0, 0)⟩, ⟨true, gm, .cells (mtr rq21.n) 91 (0, 0)⟩, ⟨true, aq4, .cells (arrF .u8 32 fd) 23 (0, 0)⟩, ⟨true, aq3, .cells (arrF .u8 32 tag) 23 (0, 0)⟩, ⟨true, aq2, .cells (arrF .u8 32 seed) 23 (0, 0)⟩] rfl ?_
  clear F H; intro a v F H
  refine wpList_nil ?_
  refine hK23 _ _ ?_
  clear hK23
  try clear K23
  refine C_seqK (fun K26 hK26 => ?_)
  refine C_region ?_
  refine T_val F H kr (.bool true) (fun _ _ => kr) ?_
  clear F; intro a F
  refine T_val F H kr (.bool true) (fun _ _ => kr) ?_
  clear F; intro a F
  refine T_val F H kr (.agg (arrF .u8 32 ky)) (R_load (own := true) (g := aq22) (all := (arrF .u8 32 ky)) (t := 23) (fr := (0, 0)) 1 kr 23 (.tmp 15) rfl 0 kr (arrF .u8 32 ky) (part_all _) _ Tryd.underlying23 rfl (by rw [arrF_size]; kernel_rfl)) ?_
  clear F; intro a F
  refine T_val F H kr (.agg (arrF .u8 32 ky)) (R_load (own := true) (g := aq25) (all := (arrF .u8 32 ky)) (t := 23) (fr := (0, 0)) 0 kr 23 (.tmp 16) rfl 0 kr (arrF .u8 32 ky) (part_all _) _ Tryd.underlying23 rfl (by rw [arrF_size]; kernel_rfl)) ?_
  clear F; intro a F
  refine T_val F H kr (.bool true) (fun w _ => R_eqK (x := (.tmp 42)) (y := (.tmp 43)) rfl ky ky kr kr true ⟨fun _ _ _ => rfl, fun _ => rfl⟩ w) ?_
  clear F; intro a F
  refine T_val F H kr (.bool true) (fun _ _ => kr) ?_
  clear F; intro a F
  refine T_val F H kr (.bool true) (fun _ _ => kr) ?_
  clear F; intro a F
  refine T_val F H kr (.bool false) (fun _ _ => kr) ?_
  clear F; intro a F
  refine T_val F H kr (.bool true) (fun _ _ => kr) ?_
  clear F; intro a F
  refine T_val F H kr (.bool true) (fun _ _ => kr) ?_
  clear F; intro a F
  refine T_skip F kr kr ?_
  clear F; intro a F
  refine T_skip F kr kr ?_
  clear F; intro a F
  refine T_skip F kr kr ?_
  clear F; intro a F
  refine T_val F H kr (.bool true) (fun _ _ => kr) ?_
  clear F; intro a F
  refine T_val F H kr (.bool true) (fun _ _ => kr) ?_
  clear F; intro a F
  refine T_val F H kr (.bool true) (fun _ _ => kr) ?_
  clear F; intro a F
  refine T_val F H kr (.slice (some ⟨rq19.g, 0, none⟩) 67 rq19.cap) (fun _ _ => kr) ?_
  clear F; intro a F
  refine T_val F H kr (.pointer (some ⟨gl, 0, none⟩)) (fun _ _ => kr) ?_
  clear F; intro a F
  refine T_val F H kr (.agg (arrF .u8 32 seed)) (R_load (own := true) (g := aq2) (all := (arrF .u8 32 seed)) (t := 23) (fr := (0, 0)) 9 kr 23 (.tmp 4) rfl 0 kr (arrF .u8 32 seed) (part_all _) _ Tryd.underlying23 rfl (by rw [arrF_size]; kernel_rfl)) ?_
  clear F; intro a F
  refine T_val F H kr (.agg (arrF .u8 32 tag)) (R_load (own := true) (g := aq3) (all := (arrF .u8 32 tag)) (t := 23) (fr := (0, 0)) 8 kr 23 (.tmp 5) rfl 0 kr (arrF .u8 32 tag) (part_all _) _ Tryd.underlying23 rfl (by rw [arrF_size]; kernel_rfl)) ?_
  clear F; intro a F
  refine T_val F H kr (.agg (arrF .u8 32 fd)) (R_load (own := true) (g := aq4) (all := (arrF .u8 32 fd)) (t := 23) (fr := (0, 0)) 7 kr 23 (.tmp 6) rfl 0 kr (arrF .u8 32 fd) (part_all _) _ Tryd.underlying23 rfl (by rw [arrF_size]; kernel_rfl)) ?_
  clear F; intro a F
  refine T_callX (α := SlR) F H kr 26 #[.pointer (some ⟨gl, 0, none⟩), .agg (arrF .u8 32 seed), .agg (arrF .u8 32 tag), .agg (arrF .u8 32 fd)] (fun rX => .slice (some ⟨rX.g, 0, none⟩) 67 rX.cap) (fun rX => [⟨true, rX.g, .cells (sl (keysC (sgK seed tag fd) 67) rX.rest) 23 (0, 0)⟩, ⟨true, aq25, .cells (arrF .u8 32 ky) 23 (0, 0)⟩, ⟨true, aq22, .cells (arrF .u8 32 ky) 23 (0, 0)⟩, ⟨true, rq19.g, .cells (sl (keysC (sgK seed tag fd) 67) rq19.rest) 23 (0, 0)⟩, ⟨true, aq15, .cells (arrF .u8 32 zF) 23 (0, 0)⟩, ⟨true, sg, .cells (sgA gm seed tag ky 1 0) 101 (0, 0)⟩, ⟨true, gl, .cells (lgr rX.n) 32 (0, 0)⟩, ⟨true, gm, .cells (mtr rq21.n) 91 (0, 0)⟩, ⟨true, aq4, .cells (arrF .u8 32 fd) 23 (0, 0)⟩, ⟨true, aq3, .cells (arrF .u8 32 tag) 23 (0, 0)⟩, ⟨true, aq2, .cells (arrF .u8 32 seed) 23 (0, 0)⟩]) (fun rX => (True) ∧ (Own (keysC (sgK seed tag fd) 67) rX.rest 67 rX.cap 32)) (fun w => kr) (fun w H => callsX_bothV H (k := 5) rfl (lsign_any gl rq24.n seed hseed tag ht fd hfd _ (H.at_ (k := 5) rfl))) ?_
  clear F H; intro rq27 a v Qrq27 F H
  refine T_call F H kr 25 #[.slice (some ⟨rq19.g, 0, none⟩) 67 rq19.cap, .slice (some ⟨rq27.g, 0, none⟩) 67 rq27.cap] (.bool true) (fun w => kr) (keysR_any (sgK seed tag fd) rq19.g rq19.cap rq27.g rq27.cap _ _ (H.apart (i := 3) (j := 0) rfl rfl (by decide)) _ (H.at_ (k := 3) rfl) (H.at_ (k := 0) rfl)) ?_
  clear F H; intro a v F H
  refine T_val F H kr (.bool true) (fun _ _ => kr) ?_
  clear F; intro a F
  refine T_val F H kr (.bool true) (fun _ _ => kr) ?_
  clear F; intro a F
  refine wpList_nil ?_
  refine hK26 _ _ ?_
  clear hK26
  try clear K26
  refine wp_ret ?_
  exact C_ret F H (rs := [.tmp 8]) rfl (vs := [.bool true]) (.tmp rfl .nil) (.bool true) rfl ⟨rfl, H.kept⟩

theorem otsSigns_any (seed : Nat → Nat) (hseed : ∀ i, i < 32 → seed i < 256) (tag : Nat → Nat) (ht : ∀ i, i < 32 → tag i < 256) (fd : Nat → Nat) (hfd : ∀ i, i < 32 → fd i < 256) (b : Bool) (w : World) (hW : Laid w) : Calls Tryd.prog 4 #[.agg (arrF .u8 32 seed), .agg (arrF .u8 32 tag), .agg (arrF .u8 32 fd), .bool b] w fun e w' => e = .returned (.bool true) ∧ Kept [] w w' := by
  cases b
  · exact signsF seed hseed tag ht fd hfd w hW
  · exact signsT seed hseed tag ht fd hfd w hW
end Go.Proofs.YtdejhenkdbjakaaDoor
