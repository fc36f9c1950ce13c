/- Walks: law17's examples. -/
import Derived.Test.YtdejhenkdbjakaaDoorXC
import Derived.Test.YtdejhenkdbjakaaDoorE7
set_option linter.unusedVariables false
set_option linter.unusedSimpArgs false
namespace Go.Proofs.YtdejhenkdbjakaaDoor
open Go Go.RowKit
theorem by_a : ∀ x ∈ [97], x < 256 := by decide
theorem by_b : ∀ x ∈ [98], x < 256 := by decide
theorem sigN_lt (seed : Nat → Nat) (n : Nat) (l : List Nat) (k i : Nat) (h : i < 32) : sigN seed n l k i < 256 := sgK_lt _ _ _ k i h
theorem pubN_lt (seed : Nat → Nat) (n i : Nat) (h : i < 32) : pubN seed n i < 256 := shaK_lt _ i

set_option maxRecDepth 100000 in
set_option maxHeartbeats 4000000 in
theorem awake17_any (w : World) (hW : Laid w) : Calls Tryd.prog 30 #[] w fun e w' => e = .returned (.bool true) ∧ Kept [] w w' := by
  obtain ⟨pk, hpk⟩ : ∃ pk, pk = pubN (oneF 1) 3 := ⟨_, rfl⟩
  have hpkl : ∀ i, i < 32 → pk i < 256 := by rw [hpk]; exact pubN_lt _ _
  have hyes : ∀ i, i < 32 → vfK 3 [97] (sigN (oneF 1) 3 [97]) i = pk i := fun i _ => by rw [hpk, vf_sig]
  have hcore := core_ne
  have hnum := num_ne
  rw [← hpk] at hcore hnum
  refine C_enter Tryd.func30 rfl 71 Tryd.ntmps30 (Nat.le_of_ble_eq_true rfl) (fun a F => ?_)
  have H := Hp.start [] w
  replace F : Fm 71 [] [] a := F.weak _ (subL_of kr)
  refine C_seqK (fun K1 hK1 => ?_)
  refine C_region ?_
  refine T_k F H (.bool false) ?_
  clear F; intro a F
  refine wpList_nil ?_
  refine hK1 _ _ ?_
  clear hK1
  try clear K1
  refine C_seqK (fun K2 hK2 => ?_)
  refine C_region ?_
  refine T_callX (α := SlR) F H kr 18 #[.bool false] (fun rX => pt rX.g 0) (fun rX => [bk rX.g (mtr 0) 91]) (fun rX => True) (fun w => kr) (fun w H => callsX_newV H (newM_any _)) ?_
  clear F H; intro rq3 a v Qrq3 F H
  refine T_k F H (pt rq3.g 0) ?_
  clear F; intro a F
  refine wpList_nil ?_
  generalize rq3.g = gm at F H
  refine hK2 _ _ ?_
  clear hK2
  try clear K2
  refine C_seqK (fun K4 hK4 => ?_)
  refine C_region ?_
  refine T_k F H (pt gm 0) ?_
  clear F; intro a F
  refine T_k F H (kyV (oneF 1)) ?_
  clear F; intro a F
  refine T_callX (α := SlR) F H kr 36 #[pt gm 0, kyV (oneF 1), nw 3] (fun rX => kyV pk) (fun rX => [bk gm (mtr rX.n) 91]) (fun rX => True) (fun w => kr) (fun w H => callsX_putV H (k := 0) rfl ((spub_any gm 0 (oneF 1) (fun i _ => oneF_lt (by decide) i) 3 (by decide) _ (hW.kept H.kept List.not_mem_nil List.not_mem_nil) (H.at_ (k := 0) rfl)).mono (fun _ _ ⟨r, q1, q2⟩ => ⟨r, by rw [q1, hpk], q2⟩))) ?_
  clear F H; intro rq5 a v Qrq5 F H
  refine T_new F H kr (fun ad => pt ad 0) (ce z8 23) (fun w => kr) ?_
  clear F H; intro aq6 a v F H
  refine T_set F H kr rfl 0 rfl (arrF .u8 32 pk) (S_row 0 rfl 23 (.tmp 2) (.tmp 14) rfl kr (arrF .u8 32 pk) kr (by rw [arrF_size]; kernel_rfl) (by rw [arrF_size]; kernel_rfl) (arrF_one _ _ _)) [bk aq6 (arrF .u8 32 pk) 23, bk gm (mtr rq5.n) 91] rfl ?_
  clear F H; intro a v F H
  refine wpList_nil ?_
  refine hK4 _ _ ?_
  clear hK4
  try clear K4
  refine C_seqK (fun K7 hK7 => ?_)
  refine C_region ?_
  refine T_k F H (pt gm 0) ?_
  clear F; intro a F
  refine T_k F H (kyV (oneF 1)) ?_
  clear F; intro a F
  refine T_new F H kr (fun ad => sc ad 0 1 1) (ce (sl (ints .u8 [97]) []) 5) (fun w => R_buildS (len := 1) rfl Tryd.underlying54 ((sl (ints .u8 [97]) [])) kr w) ?_
  clear F H; intro aq8 a v F H
  refine T_callX (α := SlR) F H kr 58 #[pt gm 0, kyV (oneF 1), nw 3, sc aq8 0 1 1] (fun rX => sc rX.g 0 67 rX.cap) (fun rX => [bk rX.g (sl (keysC (sigN (oneF 1) 3 [97]) 67) rX.rest) 23, bk aq8 (sl (ints .u8 [97]) []) 5, bk aq6 (arrF .u8 32 pk) 23, bk gm (mtr rX.n) 91]) (fun rX => (True) ∧ (Own (keysC (sigN (oneF 1) 3 [97]) 67) rX.rest 67 rX.cap 32)) (fun w => kr) (fun w H => callsX_bothV H (k := 2) rfl (ssign_any gm rq5.n (oneF 1) (fun i _ => oneF_lt (by decide) i) 3 (by decide) ⟨some ⟨aq8, 0, none⟩, 1, 1, [97]⟩ by_a rfl (Nat.le_of_ble_eq_true rfl) _ (RdK.own (H.at_ (k := 0) rfl) (Nat.le_refl _) (fun h => ne_of_ty (H.at_ (k := 2) rfl) (H.at_ (k := 0) rfl) rfl (List.mem_singleton.1 h).symm)) (hW.kept H.kept List.not_mem_nil List.not_mem_nil) (H.at_ (k := 2) rfl))) ?_
  clear F H; intro rq9 a v Qrq9 F H
  refine T_k F H (sc rq9.g 0 67 rq9.cap) ?_
  clear F; intro a F
  refine wpList_nil ?_
  refine hK7 _ _ ?_
  clear hK7
  try clear K7
  refine C_seqK (fun K10 hK10 => ?_)
  refine C_region ?_
  refine T_k F H (pt gm 0) ?_
  clear F; intro a F
  refine T_val F H kr (kyV pk) (R_load (own := true) (g := aq6) (all := (arrF .u8 32 pk)) (t := 23) (fr := (0, 0)) 2 kr 23 (.tmp 2) rfl 0 kr (arrF .u8 32 pk) (part_all _) _ Tryd.underlying23 rfl (by rw [arrF_size]; kernel_rfl)) ?_
  clear F; intro a F
  refine T_new F H kr (fun ad => sc ad 0 1 1) (ce (sl (ints .u8 [97]) []) 5) (fun w => R_buildS (len := 1) rfl Tryd.underlying54 ((sl (ints .u8 [97]) [])) kr w) ?_
  clear F H; intro aq11 a v F H
  refine T_k F H (sc rq9.g 0 67 rq9.cap) ?_
  clear F; intro a F
  refine T_callX (α := SlR) F H kr 31 #[pt gm 0, kyV pk, nw 3, sc aq11 0 1 1, sc rq9.g 0 67 rq9.cap] (fun rX => ni 0) (fun rX => [bk aq11 (sl (ints .u8 [97]) []) 5, bk rq9.g (sl (keysC (sigN (oneF 1) 3 [97]) 67) rq9.rest) 23, bk aq8 (sl (ints .u8 [97]) []) 5, bk aq6 (arrF .u8 32 pk) 23, bk gm (mtr rX.n) 91]) (fun rX => True) (fun w => kr) (fun w H => callsX_putV H (k := 4) rfl (verify_yes gm rq9.n pk hpkl 3 (by decide) ⟨some ⟨aq11, 0, none⟩, 1, 1, [97]⟩ by_a rfl (Nat.le_of_ble_eq_true rfl) (sigN (oneF 1) 3 [97]) (sigN_lt _ _ _) rq9.g 0 _ _ 23 (0, 0) (fun k hk => keys_part _ _ hk) hyes _ (RdK.own (H.at_ (k := 0) rfl) (Nat.le_refl _) (fun h => ne_of_ty (H.at_ (k := 4) rfl) (H.at_ (k := 0) rfl) rfl (List.mem_singleton.1 h).symm)) (hW.kept H.kept List.not_mem_nil List.not_mem_nil) (H.at_ (k := 4) rfl) (H.at_ (k := 1) rfl) (ne_of_ty (H.at_ (k := 4) rfl) (H.at_ (k := 1) rfl) rfl))) ?_
  clear F H; intro rq12 a v Qrq12 F H
  refine T_k F H (ni 0) ?_
  clear F; intro a F
  refine wpList_nil ?_
  refine hK10 _ _ ?_
  clear hK10
  try clear K10
  refine C_seqK (fun K13 hK13 => ?_)
  refine C_region ?_
  refine T_k F H (pt gm 0) ?_
  clear F; intro a F
  refine T_val F H kr (kyV pk) (R_load (own := true) (g := aq6) (all := (arrF .u8 32 pk)) (t := 23) (fr := (0, 0)) 3 kr 23 (.tmp 2) rfl 0 kr (arrF .u8 32 pk) (part_all _) _ Tryd.underlying23 rfl (by rw [arrF_size]; kernel_rfl)) ?_
  clear F; intro a F
  refine T_new F H kr (fun ad => sc ad 0 1 1) (ce (sl (ints .u8 [98]) []) 5) (fun w => R_buildS (len := 1) rfl Tryd.underlying54 ((sl (ints .u8 [98]) [])) kr w) ?_
  clear F H; intro aq14 a v F H
  refine T_k F H (sc rq9.g 0 67 rq9.cap) ?_
  clear F; intro a F
  refine T_callX (α := SlR) F H kr 31 #[pt gm 0, kyV pk, nw 3, sc aq14 0 1 1, sc rq9.g 0 67 rq9.cap] (fun rX => ni 40) (fun rX => [bk aq14 (sl (ints .u8 [98]) []) 5, bk aq11 (sl (ints .u8 [97]) []) 5, bk rq9.g (sl (keysC (sigN (oneF 1) 3 [97]) 67) rq9.rest) 23, bk aq8 (sl (ints .u8 [97]) []) 5, bk aq6 (arrF .u8 32 pk) 23, bk gm (mtr rX.n) 91]) (fun rX => True) (fun w => kr) (fun w H => callsX_putV H (k := 5) rfl (verify_no gm rq12.n pk hpkl 3 (by decide) ⟨some ⟨aq14, 0, none⟩, 1, 1, [98]⟩ by_b rfl (Nat.le_of_ble_eq_true rfl) (sigN (oneF 1) 3 [97]) (sigN_lt _ _ _) rq9.g 0 _ _ 23 (0, 0) (fun k hk => keys_part _ _ hk) hcore _ (RdK.own (H.at_ (k := 0) rfl) (Nat.le_refl _) (fun h => ne_of_ty (H.at_ (k := 5) rfl) (H.at_ (k := 0) rfl) rfl (List.mem_singleton.1 h).symm)) (hW.kept H.kept List.not_mem_nil List.not_mem_nil) (H.at_ (k := 5) rfl) (H.at_ (k := 2) rfl) (ne_of_ty (H.at_ (k := 5) rfl) (H.at_ (k := 2) rfl) rfl))) ?_
  clear F H; intro rq15 a v Qrq15 F H
  refine T_k F H (ni 40) ?_
  clear F; intro a F
  refine wpList_nil ?_
  refine hK13 _ _ ?_
  clear hK13
  try clear K13
  refine C_seqK (fun K16 hK16 => ?_)
  refine C_region ?_
  refine T_k F H (pt gm 0) ?_
  clear F; intro a F
  refine T_val F H kr (kyV pk) (R_load (own := true) (g := aq6) (all := (arrF .u8 32 pk)) (t := 23) (fr := (0, 0)) 4 kr 23 (.tmp 2) rfl 0 kr (arrF .u8 32 pk) (part_all _) _ Tryd.underlying23 rfl (by rw [arrF_size]; kernel_rfl)) ?_
  clear F; intro a F
  refine T_new F H kr (fun ad => sc ad 0 1 1) (ce (sl (ints .u8 [97]) []) 5) (fun w => R_buildS (len := 1) rfl Tryd.underlying54 ((sl (ints .u8 [97]) [])) kr w) ?_
  clear F H; intro aq17 a v F H
  refine T_k F H (sc rq9.g 0 67 rq9.cap) ?_
  clear F; intro a F
  refine T_callX (α := SlR) F H kr 31 #[pt gm 0, kyV pk, nw 4, sc aq17 0 1 1, sc rq9.g 0 67 rq9.cap] (fun rX => ni 40) (fun rX => [bk aq17 (sl (ints .u8 [97]) []) 5, bk aq14 (sl (ints .u8 [98]) []) 5, bk aq11 (sl (ints .u8 [97]) []) 5, bk rq9.g (sl (keysC (sigN (oneF 1) 3 [97]) 67) rq9.rest) 23, bk aq8 (sl (ints .u8 [97]) []) 5, bk aq6 (arrF .u8 32 pk) 23, bk gm (mtr rX.n) 91]) (fun rX => True) (fun w => kr) (fun w H => callsX_putV H (k := 6) rfl (verify_no gm rq15.n pk hpkl 4 (by decide) ⟨some ⟨aq17, 0, none⟩, 1, 1, [97]⟩ by_a rfl (Nat.le_of_ble_eq_true rfl) (sigN (oneF 1) 3 [97]) (sigN_lt _ _ _) rq9.g 0 _ _ 23 (0, 0) (fun k hk => keys_part _ _ hk) hnum _ (RdK.own (H.at_ (k := 0) rfl) (Nat.le_refl _) (fun h => ne_of_ty (H.at_ (k := 6) rfl) (H.at_ (k := 0) rfl) rfl (List.mem_singleton.1 h).symm)) (hW.kept H.kept List.not_mem_nil List.not_mem_nil) (H.at_ (k := 6) rfl) (H.at_ (k := 3) rfl) (ne_of_ty (H.at_ (k := 6) rfl) (H.at_ (k := 3) rfl) rfl))) ?_
  clear F H; intro rq18 a v Qrq18 F H
  refine T_k F H (ni 40) ?_
  clear F; intro a F
  refine wpList_nil ?_
  refine hK16 _ _ ?_
  clear hK16
  try clear K16
  refine C_seqK (fun K19 hK19 => ?_)
  refine C_region ?_
  refine T_k F H (kyV (oneF 1)) ?_
  clear F; intro a F
  refine T_k F H (.agg (chA (oneF 1) 3)) ?_
  clear F; intro a F
  refine T_new F H kr (fun ad => pt ad 0) (ce (chA (oneF 1) 3) 60) (fun w => kr) ?_
  clear F H; intro aq20 a v F H
  refine T_k F H (pt aq20 0) ?_
  clear F; intro a F
  refine wpList_nil ?_
  generalize aq20 = cb at F H
  refine hK19 _ _ ?_
  clear hK19
  try clear K19
  refine C_seqK (fun K21 hK21 => ?_)
  refine C_region ?_
  refine T_k F H (pt cb 0) ?_
  clear F; intro a F
  refine T_k F H (pt gm 0) ?_
  clear F; intro a F
  refine T_new F H kr (fun ad => sc ad 0 1 1) (ce (sl (ints .u8 [97]) []) 5) (fun w => R_buildS (len := 1) rfl Tryd.underlying54 ((sl (ints .u8 [97]) [])) kr w) ?_
  clear F H; intro aq22 a v F H
  refine T_callX (α := SlR) F H kr 35 #[pt cb 0, pt gm 0, sc aq22 0 1 1] (fun rX => .tuple #[sc rX.g 0 67 rX.cap, ni 0]) (fun rX => [bk rX.g (sl (keysC (sigN (oneF 1) 3 [97]) 67) rX.rest) 23, bk aq22 (sl (ints .u8 [97]) []) 5, bk cb (chA (oneF 1) (add32 (3) (1))) 60, bk aq17 (sl (ints .u8 [97]) []) 5, bk aq14 (sl (ints .u8 [98]) []) 5, bk aq11 (sl (ints .u8 [97]) []) 5, bk rq9.g (sl (keysC (sigN (oneF 1) 3 [97]) 67) rq9.rest) 23, bk aq8 (sl (ints .u8 [97]) []) 5, bk aq6 (arrF .u8 32 pk) 23, bk gm (mtr rX.n) 91]) (fun rX => Own (keysC (sigN (oneF 1) 3 [97]) 67) rX.rest 67 rX.cap 32) (fun w => kr) (fun w H => callsX_new2 H (k := 8) (k2 := 1) rfl rfl (by decide) (csign_any gm rq18.n cb (oneF 1) (fun i _ => oneF_lt (by decide) i) 3 (by decide) (by decide) ⟨some ⟨aq22, 0, none⟩, 1, 1, [97]⟩ by_a rfl (Nat.le_of_ble_eq_true rfl) _ (RdK.own (H.at_ (k := 0) rfl) (Nat.le_refl _) (fun h => (List.mem_cons.1 h).elim (fun h => ne_of_ty (H.at_ (k := 8) rfl) (H.at_ (k := 0) rfl) rfl h.symm) (fun h => ne_of_ty (H.at_ (k := 1) rfl) (H.at_ (k := 0) rfl) rfl (List.mem_singleton.1 h).symm))) (hW.kept H.kept List.not_mem_nil List.not_mem_nil) (H.at_ (k := 8) rfl) (H.at_ (k := 1) rfl))) ?_
  clear F H; intro rq23 a v Qrq23 F H
  refine T_k F H (.tuple #[sc rq23.g 0 67 rq23.cap, ni 0]) ?_
  clear F; intro a F
  refine T_k F H (sc rq23.g 0 67 rq23.cap) ?_
  clear F; intro a F
  refine T_k F H (ni 0) ?_
  clear F; intro a F
  refine T_k F H (sc rq23.g 0 67 rq23.cap) ?_
  clear F; intro a F
  refine T_k F H (ni 0) ?_
  clear F; intro a F
  refine wpList_nil ?_
  refine hK21 _ _ ?_
  clear hK21
  try clear K21
  refine C_seqK (fun K24 hK24 => ?_)
  refine C_region ?_
  refine T_k F H (pt cb 0) ?_
  clear F; intro a F
  refine T_k F H (pt cb 0) ?_
  clear F; intro a F
  refine T_k F H (pt cb 32) ?_
  clear F; intro a F
  refine T_val F H kr (nw (add32 (3) (1))) (R_cell (own := true) (g := cb) (all := (chA (oneF 1) (add32 (3) (1)))) (t := 60) (fr := (0, 0)) 2 kr 53 (.tmp 46) rfl 32 kr (nw (add32 (3) (1))) kr _ Tryd.underlying53 rfl) ?_
  clear F; intro a F
  refine T_k F H (nw (add32 (3) (1))) ?_
  clear F; intro a F
  refine wpList_nil ?_
  refine hK24 _ _ ?_
  clear hK24
  try clear K24
  refine C_seqK (fun K25 hK25 => ?_)
  refine C_region ?_
  refine T_k F H (ni 0) ?_
  clear F; intro a F
  refine T_k F H (.bool true) ?_
  clear F; intro a F
  refine T_k F H (.bool true) ?_
  clear F; intro a F
  refine T_k F H (ni 40) ?_
  clear F; intro a F
  refine T_k F H (.bool true) ?_
  clear F; intro a F
  refine T_k F H (.bool true) ?_
  clear F; intro a F
  refine T_k F H (.bool true) ?_
  clear F; intro a F
  refine T_k F H (ni 40) ?_
  clear F; intro a F
  refine T_k F H (.bool true) ?_
  clear F; intro a F
  refine T_k F H (.bool true) ?_
  clear F; intro a F
  refine T_k F H (.bool true) ?_
  clear F; intro a F
  refine T_k F H (ni 0) ?_
  clear F; intro a F
  refine T_k F H (.bool true) ?_
  clear F; intro a F
  refine T_k F H (.bool true) ?_
  clear F; intro a F
  refine T_k F H (.bool true) ?_
  clear F; intro a F
  refine T_k F H (nw (add32 (3) (1))) ?_
  clear F; intro a F
  refine T_k F H (.bool true) ?_
  clear F; intro a F
  refine T_k F H (.bool true) ?_
  clear F; intro a F
  refine T_k F H (.bool true) ?_
  clear F; intro a F
  refine T_k F H (sc rq9.g 0 67 rq9.cap) ?_
  clear F; intro a F
  refine T_k F H (sc rq23.g 0 67 rq23.cap) ?_
  clear F; intro a F
  refine T_call F H kr 25 #[sc rq9.g 0 67 rq9.cap, sc rq23.g 0 67 rq23.cap] (.bool true) (fun w => kr) (keysR_any (sigN (oneF 1) 3 [97]) rq9.g rq9.cap rq23.g rq23.cap _ _ (H.apart (i := 6) (j := 0) rfl rfl (by decide)) _ (H.at_ (k := 6) rfl) (H.at_ (k := 0) rfl)) ?_
  clear F H; intro a v F H
  refine T_k F H (.bool true) ?_
  clear F; intro a F
  refine T_k F H (.bool true) ?_
  clear F; intro a F
  refine wpList_nil ?_
  refine hK25 _ _ ?_
  clear hK25
  try clear K25
  refine wp_ret ?_
  exact C_ret F H (rs := [.tmp 0]) rfl (vs := [.bool true]) (.tmp rfl .nil) (.bool true) rfl ⟨rfl, H.kept⟩
end Go.Proofs.YtdejhenkdbjakaaDoor
