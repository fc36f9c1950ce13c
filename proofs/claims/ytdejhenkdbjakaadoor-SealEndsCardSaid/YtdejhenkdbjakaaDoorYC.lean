/- Walks: a block of the stream. -/
import Derived.Test.YtdejhenkdbjakaaDoorYB
set_option linter.unusedVariables false
set_option linter.unusedSimpArgs false
namespace Go.Proofs.YtdejhenkdbjakaaDoor
open Go Go.RowKit
def qK (k j : Nat) : Nat := if j = 0 then qA k else if j = 1 then qB k else if j = 2 then qC k else qD k
theorem qT_cut {k : Nat} (h : k < 8) : (arrF .i64 32 qT).extract (k * 4) (k * 4 + 4) = arrF .i64 4 (qK k) := by
  rcases (show k = 0 ∨ k = 1 ∨ k = 2 ∨ k = 3 ∨ k = 4 ∨ k = 5 ∨ k = 6 ∨ k = 7 by omega) with rfl | rfl | rfl | rfl | rfl | rfl | rfl | rfl <;> kernel_rfl
theorem qA_lt (k : Nat) : qA k < 16 := by unfold qA; omega
theorem qB_lt (k : Nat) : qB k < 16 := by unfold qB; omega
theorem qC_lt (k : Nat) : qC k < 16 := by unfold qC; omega
theorem qD_lt (k : Nat) : qD k < 16 := by unfold qD; omega
theorem dr_lo (w : Nat → Nat) {j : Nat} (h : j < 4) : qs (dr w j) j (4 + j) (8 + j) (12 + j) 2 = dr w (j + 1) := by
  show _ = qs (dr w j) (qA j) (qB j) (qC j) (qD j) 2
  unfold qA qB qC qD
  rw [show (j + j / 4) % 4 = j by omega, show (j + 2 * (j / 4)) % 4 = j by omega, show (j + 3 * (j / 4)) % 4 = j by omega, Nat.mod_eq_of_lt h]
theorem dr_hi (w : Nat → Nat) {j : Nat} (h : j < 4) : qs (dr w (4 + j)) j (4 + (j + 1) % 4) (8 + (j + 2) % 4) (12 + (j + 3) % 4) 2 = dr w (4 + (j + 1)) := by
  have e : (4 + j) / 4 = 1 := by omega
  show _ = qs (dr w (4 + j)) (qA (4 + j)) (qB (4 + j)) (qC (4 + j)) (qD (4 + j)) 2
  unfold qA qB qC qD
  rw [e, show (4 + j) % 4 = j by omega, show (4 + j + 1) % 4 = (j + 1) % 4 by omega, show (4 + j + 2 * 1) % 4 = (j + 2) % 4 by omega, show (4 + j + 3 * 1) % 4 = (j + 3) % 4 by omega]
theorem cc_copy (key : Nat → Nat) (ct : Nat) (nc : Nat → Nat) (k : Nat) (hk : k < 16) : ((arrF .u8 64 (ccP key ct nc (4 * k))).toList.take (4 * k) ++ oct (lowL (add32 (rn (fW key ct nc) 10 k) (fW key ct nc k)) 4) ++ (arrF .u8 64 (ccP key ct nc (4 * k))).toList.drop (4 * k + (oct (lowL (add32 (rn (fW key ct nc) 10 k) (fW key ct nc k)) 4)).length)).toArray = arrF .u8 64 (ccP key ct nc (4 * (k + 1))) := by
  refine arrF_splice (by rw [lowL_len]; omega) fun j hj => ?_
  rw [lowL_len]
  unfold ccP
  by_cases h1 : j < 4 * k
  · rw [if_pos (by omega), if_pos h1, if_pos h1]
  · rw [if_neg h1]
    by_cases h2 : j < 4 * k + 4
    · rw [if_pos (by omega), if_pos h2, List.getD_eq_getElem?_getD, lowL_get _ _ _ (by omega)]
      unfold ccF
      have e1 : j / 4 = k := by omega
      have e2 : j % 4 = j - 4 * k := by omega
      rw [e1, e2]; rfl
    · rw [if_neg (by omega), if_neg h2, if_neg h1]

set_option maxRecDepth 100000 in
set_option maxHeartbeats 4000000 in
theorem cblock_any (key : Nat → Nat) (hkey : ∀ i, key i < 256) (ct : Nat) (hct : ct < 4294967296) (nc : Nat → Nat) (hnc : ∀ i, nc i < 256) (w : World) (hW : LaidS w) : Calls Tryd.prog 123 #[.agg (arrF .u8 32 key), .int .u32 ((ct : Nat) : Int), .agg (arrF .u8 12 nc)] w fun e w' => e = .returned (.agg (arrF .u8 64 (ccF key ct nc))) ∧ Kept [] w w' := by
  have hfl := fW_lt hkey hct hnc
  obtain ⟨fw, hfw⟩ : ∃ fw, fw = fW key ct nc := ⟨_, rfl⟩
  have hfc : ∀ m, m < 16 → _ := fun m hm => cc_copy key ct nc m hm
  rw [← hfw] at hfl hfc
  refine C_enter Tryd.func123 rfl 54 Tryd.ntmps123 (Nat.le_of_ble_eq_true rfl) (fun a F => ?_)
  have H := Hp.start1 [] hW.quarters
  replace F : Fm 54 [] [(0, kyV key), (1, nw ct), (2, .agg (arrF .u8 12 nc))] a := F.weak _ (subL_of kr)
  refine C_seqK (fun K1 hK1 => ?_)
  refine C_region ?_
  refine T_new F H kr (fun ad => pt ad 0) (ce (arrF .u8 32 key) 23) (fun w => kr) ?_
  clear F H; intro aq2 a v F H
  refine T_new F H kr (fun ad => pt ad 0) (ce (arrF .u8 12 nc) 121) (fun w => kr) ?_
  clear F H; intro aq3 a v F H
  refine T_new F H kr (fun ad => pt ad 0) (ce #[.int .u8 0, .int .u8 0, .int .u8 0, .int .u8 0, .int .u8 0, .int .u8 0, .int .u8 0, .int .u8 0, .int .u8 0, .int .u8 0, .int .u8 0, .int .u8 0, .int .u8 0, .int .u8 0, .int .u8 0, .int .u8 0, .int .u8 0, .int .u8 0, .int .u8 0, .int .u8 0, .int .u8 0, .int .u8 0, .int .u8 0, .int .u8 0, .int .u8 0, .int .u8 0, .int .u8 0, .int .u8 0, .int .u8 0, .int .u8 0, .int .u8 0, .int .u8 0, .int .u8 0, .int .u8 0, .int .u8 0, .int .u8 0, .int .u8 0, .int .u8 0, .int .u8 0, .int .u8 0, .int .u8 0, .int .u8 0, .int .u8 0, .int .u8 0, .int .u8 0, .int .u8 0, .int .u8 0, .int .u8 0, .int .u8 0, .int .u8 0, .int .u8 0, .int .u8 0, .int .u8 0, .int .u8 0, .int .u8 0, .int .u8 0, .int .u8 0, .int .u8 0, .int .u8 0, .int .u8 0, .int .u8 0, .int .u8 0, .int .u8 0, .int .u8 0] 140) (fun w => kr) ?_
  clear F H; intro aq4 a v F H
  refine wpList_nil ?_
  refine hK1 _ _ ?_
  clear hK1
  try clear K1
  refine C_seqK (fun K5 hK5 => ?_)
  refine C_region ?_
  refine T_val F H kr (kyV key) (R_load (own := true) (g := aq2) (all := (arrF .u8 32 key)) (t := 23) (fr := (0, 0)) 2 kr 23 (.tmp 3) rfl 0 kr (arrF .u8 32 key) (part_all _) _ Tryd.underlying23 rfl (by rw [arrF_size]; kernel_rfl)) ?_
  clear F; intro a F
  refine T_k F H (nw ct) ?_
  clear F; intro a F
  refine T_val F H kr (.agg (arrF .u8 12 nc)) (R_load (own := true) (g := aq3) (all := (arrF .u8 12 nc)) (t := 121) (fr := (0, 0)) 1 kr 121 (.tmp 5) rfl 0 kr (arrF .u8 12 nc) (part_all _) _ Tryd.underlying121 rfl (by rw [arrF_size]; kernel_rfl)) ?_
  clear F; intro a F
  refine T_call F H kr 134 #[kyV key, nw ct, .agg (arrF .u8 12 nc)] (.agg (arrF .u32 16 fw)) (fun w => kr) ((cwords_any key hkey ct hct nc hnc _ (hW.keptS H.kept (fun _ _ => List.not_mem_nil))).mono (fun _ _ ⟨q1, q2⟩ => ⟨by rw [q1, hfw], q2⟩)) ?_
  clear F H; intro a v F H
  refine T_new F H kr (fun ad => pt ad 0) (ce #[.int .u32 0, .int .u32 0, .int .u32 0, .int .u32 0, .int .u32 0, .int .u32 0, .int .u32 0, .int .u32 0, .int .u32 0, .int .u32 0, .int .u32 0, .int .u32 0, .int .u32 0, .int .u32 0, .int .u32 0, .int .u32 0] 176) (fun w => kr) ?_
  clear F H; intro aq6 a v F H
  refine T_set F H kr rfl 0 rfl (arrF .u32 16 fw) (S_row 0 rfl 176 (.tmp 7) (.tmp 16) rfl kr (arrF .u32 16 fw) kr (by rw [arrF_size]; kernel_rfl) (by rw [arrF_size]; kernel_rfl) (arrF_one _ _ _)) [bk aq6 (arrF .u32 16 fw) 176, bk aq4 #[.int .u8 0, .int .u8 0, .int .u8 0, .int .u8 0, .int .u8 0, .int .u8 0, .int .u8 0, .int .u8 0, .int .u8 0, .int .u8 0, .int .u8 0, .int .u8 0, .int .u8 0, .int .u8 0, .int .u8 0, .int .u8 0, .int .u8 0, .int .u8 0, .int .u8 0, .int .u8 0, .int .u8 0, .int .u8 0, .int .u8 0, .int .u8 0, .int .u8 0, .int .u8 0, .int .u8 0, .int .u8 0, .int .u8 0, .int .u8 0, .int .u8 0, .int .u8 0, .int .u8 0, .int .u8 0, .int .u8 0, .int .u8 0, .int .u8 0, .int .u8 0, .int .u8 0, .int .u8 0, .int .u8 0, .int .u8 0, .int .u8 0, .int .u8 0, .int .u8 0, .int .u8 0, .int .u8 0, .int .u8 0, .int .u8 0, .int .u8 0, .int .u8 0, .int .u8 0, .int .u8 0, .int .u8 0, .int .u8 0, .int .u8 0, .int .u8 0, .int .u8 0, .int .u8 0, .int .u8 0, .int .u8 0, .int .u8 0, .int .u8 0, .int .u8 0] 140, bk aq3 (arrF .u8 12 nc) 121, bk aq2 (arrF .u8 32 key) 23, br 2 (arrF .i64 32 qT) 179] rfl ?_
  clear F H; intro a v F H
  refine wpList_nil ?_
  refine hK5 _ _ ?_
  clear hK5
  try clear K5
  refine C_seqK (fun K7 hK7 => ?_)
  refine C_region ?_
  refine T_val F H kr (.agg (arrF .u32 16 fw)) (R_load (own := true) (g := aq6) (all := (arrF .u32 16 fw)) (t := 176) (fr := (0, 0)) 0 kr 176 (.tmp 7) rfl 0 kr (arrF .u32 16 fw) (part_all _) _ Tryd.underlying176 rfl (by rw [arrF_size]; kernel_rfl)) ?_
  clear F; intro a F
  refine T_new F H kr (fun ad => pt ad 0) (ce #[.int .u32 0, .int .u32 0, .int .u32 0, .int .u32 0, .int .u32 0, .int .u32 0, .int .u32 0, .int .u32 0, .int .u32 0, .int .u32 0, .int .u32 0, .int .u32 0, .int .u32 0, .int .u32 0, .int .u32 0, .int .u32 0] 176) (fun w => kr) ?_
  clear F H; intro aq8 a v F H
  refine T_set F H kr rfl 0 rfl (arrF .u32 16 fw) (S_row 0 rfl 176 (.tmp 8) (.tmp 17) rfl kr (arrF .u32 16 fw) kr (by rw [arrF_size]; kernel_rfl) (by rw [arrF_size]; kernel_rfl) (arrF_one _ _ _)) [bk aq8 (arrF .u32 16 fw) 176, bk aq6 (arrF .u32 16 fw) 176, bk aq4 #[.int .u8 0, .int .u8 0, .int .u8 0, .int .u8 0, .int .u8 0, .int .u8 0, .int .u8 0, .int .u8 0, .int .u8 0, .int .u8 0, .int .u8 0, .int .u8 0, .int .u8 0, .int .u8 0, .int .u8 0, .int .u8 0, .int .u8 0, .int .u8 0, .int .u8 0, .int .u8 0, .int .u8 0, .int .u8 0, .int .u8 0, .int .u8 0, .int .u8 0, .int .u8 0, .int .u8 0, .int .u8 0, .int .u8 0, .int .u8 0, .int .u8 0, .int .u8 0, .int .u8 0, .int .u8 0, .int .u8 0, .int .u8 0, .int .u8 0, .int .u8 0, .int .u8 0, .int .u8 0, .int .u8 0, .int .u8 0, .int .u8 0, .int .u8 0, .int .u8 0, .int .u8 0, .int .u8 0, .int .u8 0, .int .u8 0, .int .u8 0, .int .u8 0, .int .u8 0, .int .u8 0, .int .u8 0, .int .u8 0, .int .u8 0, .int .u8 0, .int .u8 0, .int .u8 0, .int .u8 0, .int .u8 0, .int .u8 0, .int .u8 0, .int .u8 0] 140, bk aq3 (arrF .u8 12 nc) 121, bk aq2 (arrF .u8 32 key) 23, br 2 (arrF .i64 32 qT) 179] rfl ?_
  clear F H; intro a v F H
  refine wpList_nil ?_
  refine hK7 _ _ ?_
  clear hK7
  try clear K7
  refine C_seqK (fun K9 hK9 => ?_)
  refine C_seqK (fun K10 hK10 => ?_)
  refine C_region ?_
  refine T_k F H (ni 0) ?_
  clear F; intro a F
  refine wpList_nil ?_
  replace F : Fm 54 [] [(18, ni 0), (7, pt aq6 0), (8, pt aq8 0), (6, pt aq4 0)] a := F.weak _ (subL_of kr)
  replace H : Hp [] w [bk aq8 (arrF .u32 16 fw) 176, bk aq6 (arrF .u32 16 fw) 176, bk aq4 #[.int .u8 0, .int .u8 0, .int .u8 0, .int .u8 0, .int .u8 0, .int .u8 0, .int .u8 0, .int .u8 0, .int .u8 0, .int .u8 0, .int .u8 0, .int .u8 0, .int .u8 0, .int .u8 0, .int .u8 0, .int .u8 0, .int .u8 0, .int .u8 0, .int .u8 0, .int .u8 0, .int .u8 0, .int .u8 0, .int .u8 0, .int .u8 0, .int .u8 0, .int .u8 0, .int .u8 0, .int .u8 0, .int .u8 0, .int .u8 0, .int .u8 0, .int .u8 0, .int .u8 0, .int .u8 0, .int .u8 0, .int .u8 0, .int .u8 0, .int .u8 0, .int .u8 0, .int .u8 0, .int .u8 0, .int .u8 0, .int .u8 0, .int .u8 0, .int .u8 0, .int .u8 0, .int .u8 0, .int .u8 0, .int .u8 0, .int .u8 0, .int .u8 0, .int .u8 0, .int .u8 0, .int .u8 0, .int .u8 0, .int .u8 0, .int .u8 0, .int .u8 0, .int .u8 0, .int .u8 0, .int .u8 0, .int .u8 0, .int .u8 0, .int .u8 0] 140, br 2 (arrF .i64 32 qT) 179] v := H.pick [0, 1, 2, 5] kr _ rfl
  replace H : Hp [] w [bk aq8 (arrF .u32 16 (rn fw 0)) 176, bk aq6 (arrF .u32 16 fw) 176, bk aq4 #[.int .u8 0, .int .u8 0, .int .u8 0, .int .u8 0, .int .u8 0, .int .u8 0, .int .u8 0, .int .u8 0, .int .u8 0, .int .u8 0, .int .u8 0, .int .u8 0, .int .u8 0, .int .u8 0, .int .u8 0, .int .u8 0, .int .u8 0, .int .u8 0, .int .u8 0, .int .u8 0, .int .u8 0, .int .u8 0, .int .u8 0, .int .u8 0, .int .u8 0, .int .u8 0, .int .u8 0, .int .u8 0, .int .u8 0, .int .u8 0, .int .u8 0, .int .u8 0, .int .u8 0, .int .u8 0, .int .u8 0, .int .u8 0, .int .u8 0, .int .u8 0, .int .u8 0, .int .u8 0, .int .u8 0, .int .u8 0, .int .u8 0, .int .u8 0, .int .u8 0, .int .u8 0, .int .u8 0, .int .u8 0, .int .u8 0, .int .u8 0, .int .u8 0, .int .u8 0, .int .u8 0, .int .u8 0, .int .u8 0, .int .u8 0, .int .u8 0, .int .u8 0, .int .u8 0, .int .u8 0, .int .u8 0, .int .u8 0, .int .u8 0, .int .u8 0] 140, br 2 (arrF .i64 32 qT) 179] v := H
  refine hK10 _ _ ?_
  clear hK10
  try clear K10
  refine wp_block ?_
  refine C_loop (fun m a v => ∃ k, k + m = 10 ∧ Fm 54 [] [(18, ni k), (7, pt aq6 0), (8, pt aq8 0), (6, pt aq4 0)] a ∧ Hp [] w [bk aq8 (arrF .u32 16 (rn fw k)) 176, bk aq6 (arrF .u32 16 fw) 176, bk aq4 #[.int .u8 0, .int .u8 0, .int .u8 0, .int .u8 0, .int .u8 0, .int .u8 0, .int .u8 0, .int .u8 0, .int .u8 0, .int .u8 0, .int .u8 0, .int .u8 0, .int .u8 0, .int .u8 0, .int .u8 0, .int .u8 0, .int .u8 0, .int .u8 0, .int .u8 0, .int .u8 0, .int .u8 0, .int .u8 0, .int .u8 0, .int .u8 0, .int .u8 0, .int .u8 0, .int .u8 0, .int .u8 0, .int .u8 0, .int .u8 0, .int .u8 0, .int .u8 0, .int .u8 0, .int .u8 0, .int .u8 0, .int .u8 0, .int .u8 0, .int .u8 0, .int .u8 0, .int .u8 0, .int .u8 0, .int .u8 0, .int .u8 0, .int .u8 0, .int .u8 0, .int .u8 0, .int .u8 0, .int .u8 0, .int .u8 0, .int .u8 0, .int .u8 0, .int .u8 0, .int .u8 0, .int .u8 0, .int .u8 0, .int .u8 0, .int .u8 0, .int .u8 0, .int .u8 0, .int .u8 0, .int .u8 0, .int .u8 0, .int .u8 0, .int .u8 0] 140, br 2 (arrF .i64 32 qT) 179] v) (10) ⟨0, Nat.zero_add _, F, H⟩ ?_
  clear F H
  intro m a v ⟨k, hk, F, H⟩
  rcases m with _ | m
  rotate_left
  · skip
    refine C_seqK (fun K11 hK11 => ?_)
    refine C_region ?_
    refine T_val F H kr (.bool true) (fun w _ => R_bin (x := (.tmp 18)) (y := (.const (.int .i64 10))) rfl (k := .i64) (a := ((k : Nat) : Int)) (b := ((10 : Nat) : Int)) kr kr (i_lt (by omega)) w) ?_
    clear F; intro a F
    refine wpList_nil ?_
    refine hK11 _ _ ?_
    clear hK11
    try clear K11
    refine C_seqK (fun K12 hK12 => ?_)
    refine C_if F true rfl rfl ?_
    refine wp_skip ?_
    refine hK12 _ _ ?_
    clear hK12
    try clear K12
    refine C_seqK (fun K13 hK13 => ?_)
    refine wp_block ?_
    refine C_seqK (fun K14 hK14 => ?_)
    refine C_region ?_
    refine T_val F H kr (.agg (arrF .i64 32 qT)) (R_load (own := false) (g := 2) (all := (arrF .i64 32 qT)) (t := 179) (fr := (0, 0)) 3 kr 179 (.global 2) rfl 0 kr (arrF .i64 32 qT) (part_all _) _ Tryd.underlying179 rfl (by rw [arrF_size]; kernel_rfl)) ?_
    clear F; intro a F
    refine T_k F H (ni 0) ?_
    clear F; intro a F
    refine wpList_nil ?_
    replace F : Fm 54 [] [(21, ni 0), (20, .agg (arrF .i64 32 qT)), (18, ni k), (7, pt aq6 0), (8, pt aq8 0), (6, pt aq4 0)] a := F.weak _ (subL_of kr)
    replace H : Hp [] w [bk aq8 (arrF .u32 16 (dr (rn fw k) 0)) 176, bk aq6 (arrF .u32 16 fw) 176, bk aq4 #[.int .u8 0, .int .u8 0, .int .u8 0, .int .u8 0, .int .u8 0, .int .u8 0, .int .u8 0, .int .u8 0, .int .u8 0, .int .u8 0, .int .u8 0, .int .u8 0, .int .u8 0, .int .u8 0, .int .u8 0, .int .u8 0, .int .u8 0, .int .u8 0, .int .u8 0, .int .u8 0, .int .u8 0, .int .u8 0, .int .u8 0, .int .u8 0, .int .u8 0, .int .u8 0, .int .u8 0, .int .u8 0, .int .u8 0, .int .u8 0, .int .u8 0, .int .u8 0, .int .u8 0, .int .u8 0, .int .u8 0, .int .u8 0, .int .u8 0, .int .u8 0, .int .u8 0, .int .u8 0, .int .u8 0, .int .u8 0, .int .u8 0, .int .u8 0, .int .u8 0, .int .u8 0, .int .u8 0, .int .u8 0, .int .u8 0, .int .u8 0, .int .u8 0, .int .u8 0, .int .u8 0, .int .u8 0, .int .u8 0, .int .u8 0, .int .u8 0, .int .u8 0, .int .u8 0, .int .u8 0, .int .u8 0, .int .u8 0, .int .u8 0, .int .u8 0] 140, br 2 (arrF .i64 32 qT) 179] v := H
    refine hK14 _ _ ?_
    clear hK14
    try clear K14
    refine wp_block ?_
    refine C_loop (fun mj a v => ∃ j, j + mj = 8 ∧ Fm 54 [] [(21, ni j), (20, .agg (arrF .i64 32 qT)), (18, ni k), (7, pt aq6 0), (8, pt aq8 0), (6, pt aq4 0)] a ∧ Hp [] w [bk aq8 (arrF .u32 16 (dr (rn fw k) j)) 176, bk aq6 (arrF .u32 16 fw) 176, bk aq4 #[.int .u8 0, .int .u8 0, .int .u8 0, .int .u8 0, .int .u8 0, .int .u8 0, .int .u8 0, .int .u8 0, .int .u8 0, .int .u8 0, .int .u8 0, .int .u8 0, .int .u8 0, .int .u8 0, .int .u8 0, .int .u8 0, .int .u8 0, .int .u8 0, .int .u8 0, .int .u8 0, .int .u8 0, .int .u8 0, .int .u8 0, .int .u8 0, .int .u8 0, .int .u8 0, .int .u8 0, .int .u8 0, .int .u8 0, .int .u8 0, .int .u8 0, .int .u8 0, .int .u8 0, .int .u8 0, .int .u8 0, .int .u8 0, .int .u8 0, .int .u8 0, .int .u8 0, .int .u8 0, .int .u8 0, .int .u8 0, .int .u8 0, .int .u8 0, .int .u8 0, .int .u8 0, .int .u8 0, .int .u8 0, .int .u8 0, .int .u8 0, .int .u8 0, .int .u8 0, .int .u8 0, .int .u8 0, .int .u8 0, .int .u8 0, .int .u8 0, .int .u8 0, .int .u8 0, .int .u8 0, .int .u8 0, .int .u8 0, .int .u8 0, .int .u8 0] 140, br 2 (arrF .i64 32 qT) 179] v) (8) ⟨0, Nat.zero_add _, F, H⟩ ?_
    clear F H
    intro mj a v ⟨j, hj, F, H⟩
    rcases mj with _ | mj
    rotate_left
    · skip
      refine C_seqK (fun K15 hK15 => ?_)
      refine C_region ?_
      refine T_val F H kr (.bool true) (fun w _ => R_bin (x := (.tmp 21)) (y := (.const (.int .i64 8))) rfl (k := .i64) (a := ((j : Nat) : Int)) (b := ((8 : Nat) : Int)) kr kr (i_lt (by omega)) w) ?_
      clear F; intro a F
      refine wpList_nil ?_
      refine hK15 _ _ ?_
      clear hK15
      try clear K15
      refine C_seqK (fun K16 hK16 => ?_)
      refine C_if F true rfl rfl ?_
      refine wp_skip ?_
      refine hK16 _ _ ?_
      clear hK16
      try clear K16
      refine C_seqK (fun K17 hK17 => ?_)
      refine wp_block ?_
      refine C_seqK (fun K18 hK18 => ?_)
      refine C_region ?_
      refine T_val F H kr (.agg (arrF .i64 4 (qK j))) (fun w _ => R_indexAgg (x := (.tmp 20)) (y := (.tmp 21)) rfl Tryd.underlying179 Tryd.underlying178 rfl (sz := 4) kr (cs := (arrF .i64 32 qT)) kr (k := .i64) j kr (by omega) _ (qT_cut (by omega)) w) ?_
      clear F; intro a F
      refine T_new F H kr (fun ad => pt ad 0) (ce #[.int .i64 0, .int .i64 0, .int .i64 0, .int .i64 0] 178) (fun w => kr) ?_
      clear F H; intro aq19 a v F H
      refine T_set F H kr rfl 0 rfl (arrF .i64 4 (qK j)) (S_row 0 rfl 178 (.tmp 10) (.tmp 23) rfl kr (arrF .i64 4 (qK j)) kr (by rw [arrF_size]; kernel_rfl) (by rw [arrF_size]; kernel_rfl) (arrF_one _ _ _)) [bk aq19 (arrF .i64 4 (qK j)) 178, bk aq8 (arrF .u32 16 (dr (rn fw k) j)) 176, bk aq6 (arrF .u32 16 fw) 176, bk aq4 #[.int .u8 0, .int .u8 0, .int .u8 0, .int .u8 0, .int .u8 0, .int .u8 0, .int .u8 0, .int .u8 0, .int .u8 0, .int .u8 0, .int .u8 0, .int .u8 0, .int .u8 0, .int .u8 0, .int .u8 0, .int .u8 0, .int .u8 0, .int .u8 0, .int .u8 0, .int .u8 0, .int .u8 0, .int .u8 0, .int .u8 0, .int .u8 0, .int .u8 0, .int .u8 0, .int .u8 0, .int .u8 0, .int .u8 0, .int .u8 0, .int .u8 0, .int .u8 0, .int .u8 0, .int .u8 0, .int .u8 0, .int .u8 0, .int .u8 0, .int .u8 0, .int .u8 0, .int .u8 0, .int .u8 0, .int .u8 0, .int .u8 0, .int .u8 0, .int .u8 0, .int .u8 0, .int .u8 0, .int .u8 0, .int .u8 0, .int .u8 0, .int .u8 0, .int .u8 0, .int .u8 0, .int .u8 0, .int .u8 0, .int .u8 0, .int .u8 0, .int .u8 0, .int .u8 0, .int .u8 0, .int .u8 0, .int .u8 0, .int .u8 0, .int .u8 0] 140, br 2 (arrF .i64 32 qT) 179] rfl ?_
      clear F H; intro a v F H
      refine wpList_nil ?_
      refine hK18 _ _ ?_
      clear hK18
      try clear K18
      refine C_region ?_
      refine T_val F H kr (.agg (arrF .u32 16 (dr (rn fw k) j))) (R_load (own := true) (g := aq8) (all := (arrF .u32 16 (dr (rn fw k) j))) (t := 176) (fr := (0, 0)) 1 kr 176 (.tmp 8) rfl 0 kr (arrF .u32 16 (dr (rn fw k) j)) (part_all _) _ Tryd.underlying176 rfl (by rw [arrF_size]; kernel_rfl)) ?_
      clear F; intro a F
      refine T_k F H (pt aq19 0) ?_
      clear F; intro a F
      refine T_val F H kr (ni ((qK j) 0)) (R_cell (own := true) (g := aq19) (all := (arrF .i64 4 (qK j))) (t := 178) (fr := (0, 0)) 0 kr 3 (.tmp 25) rfl 0 kr (ni ((qK j) 0)) kr _ Tryd.underlying3 rfl) ?_
      clear F; intro a F
      refine T_k F H (pt aq19 1) ?_
      clear F; intro a F
      refine T_val F H kr (ni ((qK j) 1)) (R_cell (own := true) (g := aq19) (all := (arrF .i64 4 (qK j))) (t := 178) (fr := (0, 0)) 0 kr 3 (.tmp 27) rfl 1 kr (ni ((qK j) 1)) kr _ Tryd.underlying3 rfl) ?_
      clear F; intro a F
      refine T_k F H (pt aq19 2) ?_
      clear F; intro a F
      refine T_val F H kr (ni ((qK j) 2)) (R_cell (own := true) (g := aq19) (all := (arrF .i64 4 (qK j))) (t := 178) (fr := (0, 0)) 0 kr 3 (.tmp 29) rfl 2 kr (ni ((qK j) 2)) kr _ Tryd.underlying3 rfl) ?_
      clear F; intro a F
      refine T_k F H (pt aq19 3) ?_
      clear F; intro a F
      refine T_val F H kr (ni ((qK j) 3)) (R_cell (own := true) (g := aq19) (all := (arrF .i64 4 (qK j))) (t := 178) (fr := (0, 0)) 0 kr 3 (.tmp 31) rfl 3 kr (ni ((qK j) 3)) kr _ Tryd.underlying3 rfl) ?_
      clear F; intro a F
      refine T_call F H kr 135 #[.agg (arrF .u32 16 (dr (rn fw k) j)), ni ((qK j) 0), ni ((qK j) 1), ni ((qK j) 2), ni ((qK j) 3)] (.agg (arrF .u32 16 (qs (dr (rn fw k) j) (qA j) (qB j) (qC j) (qD j) 2))) (fun w => kr) (quarter_any (dr (rn fw k) j) (dr_lt (rn_lt hfl k) j) (qA j) (qB j) (qC j) (qD j) (qA_lt j) (qB_lt j) (qC_lt j) (qD_lt j) _) ?_
      clear F H; intro a v F H
      refine T_set F H kr rfl 1 rfl (arrF .u32 16 (qs (dr (rn fw k) j) (qA j) (qB j) (qC j) (qD j) 2)) (S_row 1 rfl 176 (.tmp 8) (.tmp 33) rfl kr (arrF .u32 16 (qs (dr (rn fw k) j) (qA j) (qB j) (qC j) (qD j) 2)) kr (by rw [arrF_size]; kernel_rfl) ((arrF_size _ _ _).trans (arrF_size _ _ _).symm) (arrF_one _ _ _)) [bk aq19 (arrF .i64 4 (qK j)) 178, bk aq8 (arrF .u32 16 (qs (dr (rn fw k) j) (qA j) (qB j) (qC j) (qD j) 2)) 176, bk aq6 (arrF .u32 16 fw) 176, bk aq4 #[.int .u8 0, .int .u8 0, .int .u8 0, .int .u8 0, .int .u8 0, .int .u8 0, .int .u8 0, .int .u8 0, .int .u8 0, .int .u8 0, .int .u8 0, .int .u8 0, .int .u8 0, .int .u8 0, .int .u8 0, .int .u8 0, .int .u8 0, .int .u8 0, .int .u8 0, .int .u8 0, .int .u8 0, .int .u8 0, .int .u8 0, .int .u8 0, .int .u8 0, .int .u8 0, .int .u8 0, .int .u8 0, .int .u8 0, .int .u8 0, .int .u8 0, .int .u8 0, .int .u8 0, .int .u8 0, .int .u8 0, .int .u8 0, .int .u8 0, .int .u8 0, .int .u8 0, .int .u8 0, .int .u8 0, .int .u8 0, .int .u8 0, .int .u8 0, .int .u8 0, .int .u8 0, .int .u8 0, .int .u8 0, .int .u8 0, .int .u8 0, .int .u8 0, .int .u8 0, .int .u8 0, .int .u8 0, .int .u8 0, .int .u8 0, .int .u8 0, .int .u8 0, .int .u8 0, .int .u8 0, .int .u8 0, .int .u8 0, .int .u8 0, .int .u8 0] 140, br 2 (arrF .i64 32 qT) 179] rfl ?_
      clear F H; intro a v F H
      refine wpList_nil ?_
      replace H : Hp [] w [bk aq8 (arrF .u32 16 (qs (dr (rn fw k) j) (qA j) (qB j) (qC j) (qD j) 2)) 176, bk aq6 (arrF .u32 16 fw) 176, bk aq4 #[.int .u8 0, .int .u8 0, .int .u8 0, .int .u8 0, .int .u8 0, .int .u8 0, .int .u8 0, .int .u8 0, .int .u8 0, .int .u8 0, .int .u8 0, .int .u8 0, .int .u8 0, .int .u8 0, .int .u8 0, .int .u8 0, .int .u8 0, .int .u8 0, .int .u8 0, .int .u8 0, .int .u8 0, .int .u8 0, .int .u8 0, .int .u8 0, .int .u8 0, .int .u8 0, .int .u8 0, .int .u8 0, .int .u8 0, .int .u8 0, .int .u8 0, .int .u8 0, .int .u8 0, .int .u8 0, .int .u8 0, .int .u8 0, .int .u8 0, .int .u8 0, .int .u8 0, .int .u8 0, .int .u8 0, .int .u8 0, .int .u8 0, .int .u8 0, .int .u8 0, .int .u8 0, .int .u8 0, .int .u8 0, .int .u8 0, .int .u8 0, .int .u8 0, .int .u8 0, .int .u8 0, .int .u8 0, .int .u8 0, .int .u8 0, .int .u8 0, .int .u8 0, .int .u8 0, .int .u8 0, .int .u8 0, .int .u8 0, .int .u8 0, .int .u8 0] 140, br 2 (arrF .i64 32 qT) 179] v := H.pick [1, 2, 3, 4] kr _ rfl
      replace H : Hp [] w [bk aq8 (arrF .u32 16 (dr (rn fw k) (j + 1))) 176, bk aq6 (arrF .u32 16 fw) 176, bk aq4 #[.int .u8 0, .int .u8 0, .int .u8 0, .int .u8 0, .int .u8 0, .int .u8 0, .int .u8 0, .int .u8 0, .int .u8 0, .int .u8 0, .int .u8 0, .int .u8 0, .int .u8 0, .int .u8 0, .int .u8 0, .int .u8 0, .int .u8 0, .int .u8 0, .int .u8 0, .int .u8 0, .int .u8 0, .int .u8 0, .int .u8 0, .int .u8 0, .int .u8 0, .int .u8 0, .int .u8 0, .int .u8 0, .int .u8 0, .int .u8 0, .int .u8 0, .int .u8 0, .int .u8 0, .int .u8 0, .int .u8 0, .int .u8 0, .int .u8 0, .int .u8 0, .int .u8 0, .int .u8 0, .int .u8 0, .int .u8 0, .int .u8 0, .int .u8 0, .int .u8 0, .int .u8 0, .int .u8 0, .int .u8 0, .int .u8 0, .int .u8 0, .int .u8 0, .int .u8 0, .int .u8 0, .int .u8 0, .int .u8 0, .int .u8 0, .int .u8 0, .int .u8 0, .int .u8 0, .int .u8 0, .int .u8 0, .int .u8 0, .int .u8 0, .int .u8 0] 140, br 2 (arrF .i64 32 qT) 179] v := H
      refine hK17 _ _ ?_
      clear hK17
      try clear K17
      refine C_region ?_
      refine T_val F H kr (ni (j + 1)) (fun w _ => R_bin (x := (.tmp 21)) (y := (.const (.int .i64 1))) rfl (k := .i64) (a := ((j : Nat) : Int)) (b := ((1 : Nat) : Int)) kr kr (i_addn64 (a := j) (b := 1) (by omega)) w) ?_
      clear F; intro a F
      refine T_k F H (ni (j + 1)) ?_
      clear F; intro a F
      refine wpList_nil ?_
      replace F : Fm 54 [] [(21, ni (j + 1)), (20, .agg (arrF .i64 32 qT)), (18, ni k), (7, pt aq6 0), (8, pt aq8 0), (6, pt aq4 0)] a := F.weak _ (subL_of kr)
      replace H : Hp [] w [bk aq8 (arrF .u32 16 (dr (rn fw k) (j + 1))) 176, bk aq6 (arrF .u32 16 fw) 176, bk aq4 #[.int .u8 0, .int .u8 0, .int .u8 0, .int .u8 0, .int .u8 0, .int .u8 0, .int .u8 0, .int .u8 0, .int .u8 0, .int .u8 0, .int .u8 0, .int .u8 0, .int .u8 0, .int .u8 0, .int .u8 0, .int .u8 0, .int .u8 0, .int .u8 0, .int .u8 0, .int .u8 0, .int .u8 0, .int .u8 0, .int .u8 0, .int .u8 0, .int .u8 0, .int .u8 0, .int .u8 0, .int .u8 0, .int .u8 0, .int .u8 0, .int .u8 0, .int .u8 0, .int .u8 0, .int .u8 0, .int .u8 0, .int .u8 0, .int .u8 0, .int .u8 0, .int .u8 0, .int .u8 0, .int .u8 0, .int .u8 0, .int .u8 0, .int .u8 0, .int .u8 0, .int .u8 0, .int .u8 0, .int .u8 0, .int .u8 0, .int .u8 0, .int .u8 0, .int .u8 0, .int .u8 0, .int .u8 0, .int .u8 0, .int .u8 0, .int .u8 0, .int .u8 0, .int .u8 0, .int .u8 0, .int .u8 0, .int .u8 0, .int .u8 0, .int .u8 0] 140, br 2 (arrF .i64 32 qT) 179] v := H
      exact ⟨mj, Nat.lt_succ_self mj, j + 1, by omega, F, H⟩
    have hjt : j = 8 := by omega
    try rw [hjt] at F
    try rw [hjt] at H
    clear hj
    refine C_seqK (fun K20 hK20 => ?_)
    refine C_region ?_
    refine T_val F H kr (.bool false) (fun w _ => R_bin (x := (.tmp 21)) (y := (.const (.int .i64 8))) rfl (k := .i64) (a := ((8 : Nat) : Int)) (b := ((8 : Nat) : Int)) kr kr (i_nlt (by omega)) w) ?_
    clear F; intro a F
    refine wpList_nil ?_
    refine hK20 _ _ ?_
    clear hK20
    try clear K20
    refine C_seqK (fun K21 hK21 => ?_)
    refine C_if F false rfl rfl ?_
    refine wp_exit ?_
    refine hK13 _ _ ?_
    clear hK13
    try clear K13
    replace H : Hp [] w [bk aq8 (arrF .u32 16 (rn fw (k + 1))) 176, bk aq6 (arrF .u32 16 fw) 176, bk aq4 #[.int .u8 0, .int .u8 0, .int .u8 0, .int .u8 0, .int .u8 0, .int .u8 0, .int .u8 0, .int .u8 0, .int .u8 0, .int .u8 0, .int .u8 0, .int .u8 0, .int .u8 0, .int .u8 0, .int .u8 0, .int .u8 0, .int .u8 0, .int .u8 0, .int .u8 0, .int .u8 0, .int .u8 0, .int .u8 0, .int .u8 0, .int .u8 0, .int .u8 0, .int .u8 0, .int .u8 0, .int .u8 0, .int .u8 0, .int .u8 0, .int .u8 0, .int .u8 0, .int .u8 0, .int .u8 0, .int .u8 0, .int .u8 0, .int .u8 0, .int .u8 0, .int .u8 0, .int .u8 0, .int .u8 0, .int .u8 0, .int .u8 0, .int .u8 0, .int .u8 0, .int .u8 0, .int .u8 0, .int .u8 0, .int .u8 0, .int .u8 0, .int .u8 0, .int .u8 0, .int .u8 0, .int .u8 0, .int .u8 0, .int .u8 0, .int .u8 0, .int .u8 0, .int .u8 0, .int .u8 0, .int .u8 0, .int .u8 0, .int .u8 0, .int .u8 0] 140, br 2 (arrF .i64 32 qT) 179] v := H
    refine C_region ?_
    refine T_val F H kr (ni (k + 1)) (fun w _ => R_bin (x := (.tmp 18)) (y := (.const (.int .i64 1))) rfl (k := .i64) (a := ((k : Nat) : Int)) (b := ((1 : Nat) : Int)) kr kr (i_addn64 (a := k) (b := 1) (by omega)) w) ?_
    clear F; intro a F
    refine T_k F H (ni (k + 1)) ?_
    clear F; intro a F
    refine wpList_nil ?_
    replace F : Fm 54 [] [(18, ni (k + 1)), (7, pt aq6 0), (8, pt aq8 0), (6, pt aq4 0)] a := F.weak _ (subL_of kr)
    replace H : Hp [] w [bk aq8 (arrF .u32 16 (rn fw (k + 1))) 176, bk aq6 (arrF .u32 16 fw) 176, bk aq4 #[.int .u8 0, .int .u8 0, .int .u8 0, .int .u8 0, .int .u8 0, .int .u8 0, .int .u8 0, .int .u8 0, .int .u8 0, .int .u8 0, .int .u8 0, .int .u8 0, .int .u8 0, .int .u8 0, .int .u8 0, .int .u8 0, .int .u8 0, .int .u8 0, .int .u8 0, .int .u8 0, .int .u8 0, .int .u8 0, .int .u8 0, .int .u8 0, .int .u8 0, .int .u8 0, .int .u8 0, .int .u8 0, .int .u8 0, .int .u8 0, .int .u8 0, .int .u8 0, .int .u8 0, .int .u8 0, .int .u8 0, .int .u8 0, .int .u8 0, .int .u8 0, .int .u8 0, .int .u8 0, .int .u8 0, .int .u8 0, .int .u8 0, .int .u8 0, .int .u8 0, .int .u8 0, .int .u8 0, .int .u8 0, .int .u8 0, .int .u8 0, .int .u8 0, .int .u8 0, .int .u8 0, .int .u8 0, .int .u8 0, .int .u8 0, .int .u8 0, .int .u8 0, .int .u8 0, .int .u8 0, .int .u8 0, .int .u8 0, .int .u8 0, .int .u8 0] 140, br 2 (arrF .i64 32 qT) 179] v := H
    exact ⟨m, Nat.lt_succ_self m, k + 1, by omega, F, H⟩
  have hkt : k = 10 := by omega
  try rw [hkt] at F
  try rw [hkt] at H
  clear hk
  refine C_seqK (fun K22 hK22 => ?_)
  refine C_region ?_
  refine T_val F H kr (.bool false) (fun w _ => R_bin (x := (.tmp 18)) (y := (.const (.int .i64 10))) rfl (k := .i64) (a := ((10 : Nat) : Int)) (b := ((10 : Nat) : Int)) kr kr (i_nlt (by omega)) w) ?_
  clear F; intro a F
  refine wpList_nil ?_
  refine hK22 _ _ ?_
  clear hK22
  try clear K22
  refine C_seqK (fun K23 hK23 => ?_)
  refine C_if F false rfl rfl ?_
  refine wp_exit ?_
  refine hK9 _ _ ?_
  clear hK9
  try clear K9
  refine C_seqK (fun K24 hK24 => ?_)
  refine C_region ?_
  refine T_new F H kr (fun ad => pt ad 0) (ce #[.int .u8 0, .int .u8 0, .int .u8 0, .int .u8 0, .int .u8 0, .int .u8 0, .int .u8 0, .int .u8 0, .int .u8 0, .int .u8 0, .int .u8 0, .int .u8 0, .int .u8 0, .int .u8 0, .int .u8 0, .int .u8 0, .int .u8 0, .int .u8 0, .int .u8 0, .int .u8 0, .int .u8 0, .int .u8 0, .int .u8 0, .int .u8 0, .int .u8 0, .int .u8 0, .int .u8 0, .int .u8 0, .int .u8 0, .int .u8 0, .int .u8 0, .int .u8 0, .int .u8 0, .int .u8 0, .int .u8 0, .int .u8 0, .int .u8 0, .int .u8 0, .int .u8 0, .int .u8 0, .int .u8 0, .int .u8 0, .int .u8 0, .int .u8 0, .int .u8 0, .int .u8 0, .int .u8 0, .int .u8 0, .int .u8 0, .int .u8 0, .int .u8 0, .int .u8 0, .int .u8 0, .int .u8 0, .int .u8 0, .int .u8 0, .int .u8 0, .int .u8 0, .int .u8 0, .int .u8 0, .int .u8 0, .int .u8 0, .int .u8 0, .int .u8 0] 140) (fun w => kr) ?_
  clear F H; intro aq25 a v F H
  refine wpList_nil ?_
  rw [show (#[.int .u8 0, .int .u8 0, .int .u8 0, .int .u8 0, .int .u8 0, .int .u8 0, .int .u8 0, .int .u8 0, .int .u8 0, .int .u8 0, .int .u8 0, .int .u8 0, .int .u8 0, .int .u8 0, .int .u8 0, .int .u8 0, .int .u8 0, .int .u8 0, .int .u8 0, .int .u8 0, .int .u8 0, .int .u8 0, .int .u8 0, .int .u8 0, .int .u8 0, .int .u8 0, .int .u8 0, .int .u8 0, .int .u8 0, .int .u8 0, .int .u8 0, .int .u8 0, .int .u8 0, .int .u8 0, .int .u8 0, .int .u8 0, .int .u8 0, .int .u8 0, .int .u8 0, .int .u8 0, .int .u8 0, .int .u8 0, .int .u8 0, .int .u8 0, .int .u8 0, .int .u8 0, .int .u8 0, .int .u8 0, .int .u8 0, .int .u8 0, .int .u8 0, .int .u8 0, .int .u8 0, .int .u8 0, .int .u8 0, .int .u8 0, .int .u8 0, .int .u8 0, .int .u8 0, .int .u8 0, .int .u8 0, .int .u8 0, .int .u8 0, .int .u8 0] : Array Value) = arrF .u8 64 (ccP key ct nc (4 * 0)) from kr] at H
  refine hK24 _ _ ?_
  clear hK24
  try clear K24
  refine C_seqK (fun K26 hK26 => ?_)
  refine C_seqK (fun K27 hK27 => ?_)
  refine C_region ?_
  refine T_k F H (ni 0) ?_
  clear F; intro a F
  refine wpList_nil ?_
  replace F : Fm 54 [] [(36, ni 0), (11, pt aq25 0), (7, pt aq6 0), (8, pt aq8 0), (6, pt aq4 0)] a := F.weak _ (subL_of kr)
  replace H : Hp [] w [bk aq25 (arrF .u8 64 (ccP key ct nc (4 * 0))) 140, bk aq8 (arrF .u32 16 (rn fw 10)) 176, bk aq6 (arrF .u32 16 fw) 176, bk aq4 (arrF .u8 64 (ccP key ct nc (4 * 0))) 140] v := H.pick [0, 1, 2, 3] kr _ rfl
  have hrl := rn_lt hfl 10
  refine hK27 _ _ ?_
  clear hK27
  try clear K27
  refine wp_block ?_
  refine C_loop (fun m a v => ∃ k, k + m = 16 ∧ Fm 54 [] [(36, ni k), (11, pt aq25 0), (7, pt aq6 0), (8, pt aq8 0), (6, pt aq4 0)] a ∧ Hp [] w [bk aq25 (arrF .u8 64 (ccP key ct nc (4 * k))) 140, bk aq8 (arrF .u32 16 (rn fw 10)) 176, bk aq6 (arrF .u32 16 fw) 176, bk aq4 (arrF .u8 64 (ccP key ct nc (4 * 0))) 140] v) (16) ⟨0, Nat.zero_add _, F, H⟩ ?_
  clear F H
  intro m a v ⟨k, hk, F, H⟩
  rcases m with _ | m
  rotate_left
  · skip
    have hadl := add32_lt (rn fw 10 k) (fw k)
    refine C_seqK (fun K28 hK28 => ?_)
    refine C_region ?_
    refine T_val F H kr (.bool true) (fun w _ => R_bin (x := (.tmp 36)) (y := (.const (.int .i64 16))) rfl (k := .i64) (a := ((k : Nat) : Int)) (b := ((16 : Nat) : Int)) kr kr (i_lt (by omega)) w) ?_
    clear F; intro a F
    refine wpList_nil ?_
    refine hK28 _ _ ?_
    clear hK28
    try clear K28
    refine C_seqK (fun K29 hK29 => ?_)
    refine C_if F true rfl rfl ?_
    refine wp_skip ?_
    refine hK29 _ _ ?_
    clear hK29
    try clear K29
    refine C_seqK (fun K30 hK30 => ?_)
    refine wp_block ?_
    refine C_seqK (fun K31 hK31 => ?_)
    refine C_region ?_
    refine T_k F H (ni k) ?_
    clear F; intro a F
    refine T_k F H (ni k) ?_
    clear F; intro a F
    refine wpList_nil ?_
    refine hK31 _ _ ?_
    clear hK31
    try clear K31
    refine E_region F H (fun β => [(39, ni k), (40, ni (4 * k)), (41, sc aq25 (4 * k) (64 - 4 * k) (64 - 4 * k)), (42, ni k), (43, pt aq8 (0 + (k) * 1)), (44, nw ((rn fw 10) (k))), (45, ni k), (46, pt aq6 (0 + (k) * 1)), (47, nw (fw (k))), (48, nw (add32 ((rn fw 10) (k)) (fw (k)))), (49, nu (add32 ((rn fw 10) (k)) (fw (k)))), (50, sc ((β 11).g) 0 4 (β 11).cap), (51, ni 4)]) [39, 40, 41, 42, 43, 44, 45, 46, 47, 48, 49, 50, 51] [⟨some 11, none, 0, [11], fun q_ => ce (sl (oct (lowL (add32 ((rn fw 10) (k)) (fw (k))) 4)) (gh q_ 0).rest) 5, fun q_ => Own (oct (lowL (add32 ((rn fw 10) (k)) (fw (k))) 4)) (gh q_ 0).rest (4) (gh q_ 0).cap 1, []⟩,
      ⟨none, none, aq25, [], fun q_ => ce (arrF .u8 64 (ccP key ct nc (4 * k))) 140, gT, [⟨12, [], fun q_ => ce (arrF .u8 64 (ccP key ct nc (4 * (k + 1)))) 140, gT⟩]⟩] [bk aq8 (arrF .u32 16 (rn fw 10)) 176, bk aq6 (arrF .u32 16 fw) 176, bk aq4 (arrF .u8 64 (ccP key ct nc (4 * 0))) 140] [0, 1, 2, 3] 2 [] kr kr kr (fun β => rfl) ⟨fun h _ => Bool.noConfusion h, ⟨fun _ _ => trivial, trivial⟩⟩ ⟨?_, ?_, ?_, ?_, ?_, ?_, ?_, ?_, ?_, ?_, ?_, ?_, ?_, trivial⟩ ?_
    · exact E_k 54 (fun β => ni k) 39 2
    · exact E_v 54 (fun β => ni (4 * k)) 40 2 [] (fun β w hk hl hq => R_bin (x := (.const (.int .i64 4))) (y := (.tmp 39)) rfl (k := .i64) (a := ((4 : Nat) : Int)) (b := ((k : Nat) : Int)) kr kr (i_muln64 (a := 4) (b := k) (by omega)) w)
    · exact E_v 54 (fun β => sc aq25 (4 * k) (64 - 4 * k) (64 - 4 * k)) 41 2 [] (fun β w hk hl hq => (R_sliceAl (x := (.tmp 11)) (ylo := (.tmp 40)) rfl Tryd.underlying140 (g := aq25) (off := 0) kr (k1 := .i64) (4 * k) kr (by omega) kr w).trans (by rw [Nat.zero_add]))
    · exact E_k 54 (fun β => ni k) 42 2
    · exact E_v 54 (fun β => pt aq8 (0 + (k) * 1)) 43 2 [] (fun β w hk hl hq => R_index (k := .i64) (g := aq8) (off := 0) (x := (.tmp 8)) (y := (.tmp 42)) rfl Tryd.underlying176 kr (k) kr (by omega) (sz := 1) kr w)
    · exact E_v 54 (fun β => nw ((rn fw 10) (k))) 44 2 [] (fun β w hk hl hq => R_cellH hl (own := true) (g := aq8) (all := (arrF .u32 16 (rn fw 10))) (t := 176) (fr := (0, 0)) 0 kr 53 (.tmp 43) rfl (0 + (k) * 1) kr (nw ((rn fw 10) (k))) ((congrArg (fun q => ((arrF .u32 16 (rn fw 10)))[q]?) (show (0 + (k) * 1) = k by omega)).trans (arrF_get (rn fw 10) (by omega))) _ Tryd.underlying53 rfl)
    · exact E_k 54 (fun β => ni k) 45 2
    · exact E_v 54 (fun β => pt aq6 (0 + (k) * 1)) 46 2 [] (fun β w hk hl hq => R_index (k := .i64) (g := aq6) (off := 0) (x := (.tmp 7)) (y := (.tmp 45)) rfl Tryd.underlying176 kr (k) kr (by omega) (sz := 1) kr w)
    · exact E_v 54 (fun β => nw (fw (k))) 47 2 [] (fun β w hk hl hq => R_cellH hl (own := true) (g := aq6) (all := (arrF .u32 16 fw)) (t := 176) (fr := (0, 0)) 1 kr 53 (.tmp 46) rfl (0 + (k) * 1) kr (nw (fw (k))) ((congrArg (fun q => ((arrF .u32 16 fw))[q]?) (show (0 + (k) * 1) = k by omega)).trans (arrF_get fw (by omega))) _ Tryd.underlying53 rfl)
    · exact E_v 54 (fun β => nw (add32 ((rn fw 10) (k)) (fw (k)))) 48 2 [] (fun β w hk hl hq => R_bin (x := (.tmp 44)) (y := (.tmp 47)) rfl (k := .u32) (a := (((rn fw 10) (k) : Nat) : Int)) (b := ((fw (k) : Nat) : Int)) kr kr (i_add32 (a := (rn fw 10) (k)) (b := fw (k))) w)
    · exact E_v 54 (fun β => nu (add32 ((rn fw 10) (k)) (fw (k)))) 49 2 [] (fun β w hk hl hq => R_conv (x := (.tmp 48)) rfl (k0 := .u32) kr kr (k := .u32) (a := ((add32 ((rn fw 10) (k)) (fw (k)) : Nat) : Int)) kr (wru64 (a := add32 ((rn fw 10) (k)) (fw (k))) (by omega)) w)
    · exact E_callS 54 kq (fun β => sc ((β 11).g) 0 4 (β 11).cap) 50 rfl kq 2 (fun β r => offAt2_of kr kr) 79 (fun β => #[nu (add32 ((rn fw 10) (k)) (fw (k))), ni 4]) (fun β w => kr) 2 [] 0 _ rfl kr kr rfl (fun β w hk hl hq => low_any (add32 ((rn fw 10) (k)) (fw (k))) 4 (by omega) (by omega) _)
    · exact E_put 54 kq (fun β => ni 4) 51 rfl kq 2 (fun β r => offAt2_of kr kr) 2 [(0, 0)] 1 0 _ _ rfl rfl kr kr rfl (fun β w hk hl hq hm => let ⟨w', q1, q2, q3⟩ := P_copy (s := (.tmp 41)) (x := (.tmp 50)) (t := 54) (e := 5) rfl kr kr (g := aq25) (off := (4 * k)) (dLen := (64 - 4 * k)) (cap := (64 - 4 * k)) kr (xv := sc ((β 11).g) 0 4 (β 11).cap) kr (m := 4) (cs := oct (lowL (add32 ((rn fw 10) (k)) (fw (k))) 4)) (RdS.all (hl.at_ (k := 0) rfl) (Own.le hq.1.1)) (by rw [ints_len, lowL_len]) (by omega) hm (by rw [arrF_size]; omega) (ints_one _ _) _ (hfc k (by omega)); ⟨r0, w', q1, trivial, q2, q3⟩)
    clear F H; intro β a v Q F H
    replace H : Hp [] w [bk ((β 11).g) (sl (oct (lowL (add32 ((rn fw 10) (k)) (fw (k))) 4)) (β 11).rest) 5, bk aq25 (arrF .u8 64 (ccP key ct nc (4 * (k + 1)))) 140, bk aq8 (arrF .u32 16 (rn fw 10)) 176, bk aq6 (arrF .u32 16 fw) 176, bk aq4 (arrF .u8 64 (ccP key ct nc (4 * 0))) 140] v := H
    replace F : Fm 54 [] [(51, ni 4), (50, sc ((β 11).g) 0 4 (β 11).cap), (49, nu (add32 ((rn fw 10) (k)) (fw (k)))), (48, nw (add32 ((rn fw 10) (k)) (fw (k)))), (47, nw (fw (k))), (46, pt aq6 (0 + (k) * 1)), (45, ni k), (44, nw ((rn fw 10) (k))), (43, pt aq8 (0 + (k) * 1)), (42, ni k), (41, sc aq25 (4 * k) (64 - 4 * k) (64 - 4 * k)), (40, ni (4 * k)), (39, ni k), (12, ni k), (38, ni k), (37, .bool true), (36, ni k), (11, pt aq25 0), (7, pt aq6 0), (8, pt aq8 0), (6, pt aq4 0)] a := F.weak _ (subL_of kr)
    have Qh32_0 : Own (oct (lowL (add32 ((rn fw 10) (k)) (fw (k))) 4)) (β 11).rest (4) (β 11).cap 1 := Q.1
    clear Q
    generalize β 11 = rq32 at F H Qh32_0
    skip
    refine ?_
    replace H : Hp [] w [bk aq25 (arrF .u8 64 (ccP key ct nc (4 * (k + 1)))) 140, bk aq8 (arrF .u32 16 (rn fw 10)) 176, bk aq6 (arrF .u32 16 fw) 176, bk aq4 (arrF .u8 64 (ccP key ct nc (4 * 0))) 140] v := H.pick [1, 2, 3, 4] kr _ rfl
    refine hK30 _ _ ?_
    clear hK30
    try clear K30
    refine C_region ?_
    refine T_val F H kr (ni (k + 1)) (fun w _ => R_bin (x := (.tmp 36)) (y := (.const (.int .i64 1))) rfl (k := .i64) (a := ((k : Nat) : Int)) (b := ((1 : Nat) : Int)) kr kr (i_addn64 (a := k) (b := 1) (by omega)) w) ?_
    clear F; intro a F
    refine T_k F H (ni (k + 1)) ?_
    clear F; intro a F
    refine wpList_nil ?_
    replace F : Fm 54 [] [(36, ni (k + 1)), (11, pt aq25 0), (7, pt aq6 0), (8, pt aq8 0), (6, pt aq4 0)] a := F.weak _ (subL_of kr)
    replace H : Hp [] w [bk aq25 (arrF .u8 64 (ccP key ct nc (4 * (k + 1)))) 140, bk aq8 (arrF .u32 16 (rn fw 10)) 176, bk aq6 (arrF .u32 16 fw) 176, bk aq4 (arrF .u8 64 (ccP key ct nc (4 * 0))) 140] v := H
    exact ⟨m, Nat.lt_succ_self m, k + 1, by omega, F, H⟩
  have hkt : k = 16 := by omega
  try rw [hkt] at F
  try rw [hkt] at H
  clear hk
  refine C_seqK (fun K33 hK33 => ?_)
  refine C_region ?_
  refine T_val F H kr (.bool false) (fun w _ => R_bin (x := (.tmp 36)) (y := (.const (.int .i64 16))) rfl (k := .i64) (a := ((16 : Nat) : Int)) (b := ((16 : Nat) : Int)) kr kr (i_nlt (by omega)) w) ?_
  clear F; intro a F
  refine wpList_nil ?_
  refine hK33 _ _ ?_
  clear hK33
  try clear K33
  refine C_seqK (fun K34 hK34 => ?_)
  refine C_if F false rfl rfl ?_
  refine wp_exit ?_
  refine hK26 _ _ ?_
  clear hK26
  try clear K26
  refine C_seqK (fun K35 hK35 => ?_)
  replace H : Hp [] w [bk aq25 (arrF .u8 64 (ccP key ct nc (4 * 16))) 140, bk aq8 (arrF .u32 16 (rn fw 10)) 176, bk aq6 (arrF .u32 16 fw) 176, bk aq4 (arrF .u8 64 (ccP key ct nc (4 * 0))) 140] v := H
  rw [show 4 * 16 = 64 from rfl, ccP_all] at H
  refine C_region ?_
  refine T_val F H kr (.agg (arrF .u8 64 (ccF key ct nc))) (R_load (own := true) (g := aq25) (all := (arrF .u8 64 (ccF key ct nc))) (t := 140) (fr := (0, 0)) 0 kr 140 (.tmp 11) rfl 0 kr (arrF .u8 64 (ccF key ct nc)) (part_all _) _ Tryd.underlying140 rfl (by rw [arrF_size]; kernel_rfl)) ?_
  clear F; intro a F
  refine T_set F H kr rfl 3 rfl (arrF .u8 64 (ccF key ct nc)) (S_row 3 rfl 140 (.tmp 6) (.tmp 53) rfl kr (arrF .u8 64 (ccF key ct nc)) kr (by rw [arrF_size]; kernel_rfl) ((arrF_size _ _ _).trans (arrF_size _ _ _).symm) (arrF_one _ _ _)) [bk aq25 (arrF .u8 64 (ccF key ct nc)) 140, bk aq8 (arrF .u32 16 (rn fw 10)) 176, bk aq6 (arrF .u32 16 fw) 176, bk aq4 (arrF .u8 64 (ccF key ct nc)) 140] rfl ?_
  clear F H; intro a v F H
  refine wpList_nil ?_
  refine hK35 _ _ ?_
  clear hK35
  try clear K35
  refine wp_ret ?_
  exact C_ret F H (rs := [.cell 6 140]) rfl (vs := [.agg (arrF .u8 64 (ccF key ct nc))]) (.row 3 rfl rfl _ Tryd.underlying140 rfl kr .nil) (.agg (arrF .u8 64 (ccF key ct nc))) rfl ⟨rfl, H.kept⟩
end Go.Proofs.YtdejhenkdbjakaaDoor
