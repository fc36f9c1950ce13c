/- The ladder's laws LadderRaw and LadderClamped: the walks, by rules. -/
import Derived.Test.YtdmioipdmdmkhaaDoorF6
set_option linter.unusedVariables false
set_option linter.unusedSimpArgs false
namespace Go.Proofs.YtdmioipdmdmkhaaDoor
open Go.RowKit
set_option maxRecDepth 100000 in
set_option maxHeartbeats 4000000 in
theorem awake07_any (w : World) (h4 : Four w) : Calls Tryd.prog 38 #[] w fun e w' => e = .returned (.bool true) ∧ Below w.heap.size w w' := by
  have h4p := h4.pos
  have da := fun w h => public_any nineF nineF_lt w h
  obtain ⟨RA, hRA⟩ : ∃ RA, RA = byteOf (sharedN nineF nineF) := ⟨_, rfl⟩
  have hRA1 : hiN RA 0 4 = 1110216314 := by rw [hRA]; exact hi_first
  have hRA2 : hiN RA 28 4 = 296628345 := by rw [hRA]; exact hi_last
  have hRAl : ∀ b, b < 32 → RA b < 256 := fun b _ => by rw [hRA]; exact byteOf_lt _ _
  rw [← hRA] at da
  clear hRA
  have db := fun w h => mult_any fiveF fiveF_lt zeroF zeroF_lt w h
  rw [five_e] at db
  generalize multK fiveF zeroF = RB at db
  have dc := fun w h => mult_any fiveF fiveF_lt prF prF_lt w h
  rw [prF_e] at dc
  generalize multK fiveF prF = RC at dc
  refine C_enter Tryd.func38 rfl 47 Tryd.ntmps38 (Nat.le_of_ble_eq_true rfl) (fun a F => ?_)
  have H := Hp.start [] w
  replace F : Fm 47 [] [] a := F.weak _ (trivial)
  refine C_seqK (fun K hK => ?_)
  refine C_region ?_
  refine T_val F H (by as_aux_lemma => kernel_rfl) (.bool false) (fun _ _ => by as_aux_lemma => kernel_rfl) ?_
  clear F; intro a F
  refine T_end (hK _ _ ?_)
  clear hK K
  refine C_seqK (fun K hK => ?_)
  refine C_region ?_
  refine T_val F H (by as_aux_lemma => kernel_rfl) (.agg (kArr nineF)) (fun _ _ => by as_aux_lemma => kernel_rfl) ?_
  clear F; intro a F
  refine T_call F H (by as_aux_lemma => kernel_rfl) 50 #[.agg (kArr nineF)] (.agg (kArr RA)) (fun w => by as_aux_lemma => kernel_rfl) (Calls.kept (da _ (h4.below h4p H.kept.below))) ?_
  clear F H; intro a v F H
  refine T_new F H (by as_aux_lemma => kernel_rfl) (fun ad => .pointer (some ⟨ad, 0, none⟩)) (.cells z32 23 (0, 0)) (fun w => by as_aux_lemma => kernel_rfl) ?_
  clear F H; intro aq1 a v F H
  refine T_set F H (by as_aux_lemma => kernel_rfl) rfl 0 rfl (kArr RA) (S_row 0 rfl 23 (.tmp 1) (.tmp 9) rfl (by as_aux_lemma => kernel_rfl) (kArr RA) (by as_aux_lemma => kernel_rfl) (by as_aux_lemma => kernel_rfl) (by as_aux_lemma => kernel_rfl) (by as_aux_lemma => kernel_rfl)) [⟨true, aq1, .cells (kArr RA) 23 (0, 0)⟩] rfl ?_
  clear F H; intro a v F H
  refine T_end (hK _ _ ?_)
  clear hK K
  refine C_seqK (fun K hK => ?_)
  refine C_region ?_
  refine T_val F H (by as_aux_lemma => kernel_rfl) (.agg (kArr fiveF)) (fun _ _ => by as_aux_lemma => kernel_rfl) ?_
  clear F; intro a F
  refine T_val F H (by as_aux_lemma => kernel_rfl) (.agg (kArr zeroF)) (fun _ _ => by as_aux_lemma => kernel_rfl) ?_
  clear F; intro a F
  refine T_call F H (by as_aux_lemma => kernel_rfl) 41 #[.agg (kArr fiveF), .agg (kArr zeroF)] (.tuple #[.agg (kArr RB), .int .i64 30]) (fun w => by as_aux_lemma => kernel_rfl) (Calls.kept (db _ (h4.below h4p H.kept.below))) ?_
  clear F H; intro a v F H
  refine T_val F H (by as_aux_lemma => kernel_rfl) (.tuple #[.agg (kArr RB), .int .i64 30]) (fun _ _ => by as_aux_lemma => kernel_rfl) ?_
  clear F; intro a F
  refine T_val F H (by as_aux_lemma => kernel_rfl) (.agg (kArr RB)) (fun _ _ => by as_aux_lemma => kernel_rfl) ?_
  clear F; intro a F
  refine T_val F H (by as_aux_lemma => kernel_rfl) (.int .i64 30) (fun _ _ => by as_aux_lemma => kernel_rfl) ?_
  clear F; intro a F
  refine T_new F H (by as_aux_lemma => kernel_rfl) (fun ad => .pointer (some ⟨ad, 0, none⟩)) (.cells z32 23 (0, 0)) (fun w => by as_aux_lemma => kernel_rfl) ?_
  clear F H; intro aq2 a v F H
  refine T_set F H (by as_aux_lemma => kernel_rfl) rfl 0 rfl (kArr RB) (S_row 0 rfl 23 (.tmp 2) (.tmp 14) rfl (by as_aux_lemma => kernel_rfl) (kArr RB) (by as_aux_lemma => kernel_rfl) (by as_aux_lemma => kernel_rfl) (by as_aux_lemma => kernel_rfl) (by as_aux_lemma => kernel_rfl)) [⟨true, aq2, .cells (kArr RB) 23 (0, 0)⟩, ⟨true, aq1, .cells (kArr RA) 23 (0, 0)⟩] rfl ?_
  clear F H; intro a v F H
  refine T_val F H (by as_aux_lemma => kernel_rfl) (.int .i64 30) (fun _ _ => by as_aux_lemma => kernel_rfl) ?_
  clear F; intro a F
  refine T_end (hK _ _ ?_)
  clear hK K
  refine C_seqK (fun K hK => ?_)
  refine C_region ?_
  refine T_val F H (by as_aux_lemma => kernel_rfl) (.agg (kArr zeroF)) (fun _ _ => by as_aux_lemma => kernel_rfl) ?_
  clear F; intro a F
  refine T_new F H (by as_aux_lemma => kernel_rfl) (fun ad => .pointer (some ⟨ad, 0, none⟩)) (.cells z32 23 (0, 0)) (fun w => by as_aux_lemma => kernel_rfl) ?_
  clear F H; intro aq3 a v F H
  refine T_set F H (by as_aux_lemma => kernel_rfl) rfl 0 rfl (kArr zeroF) (S_row 0 rfl 23 (.tmp 4) (.tmp 16) rfl (by as_aux_lemma => kernel_rfl) (kArr zeroF) (by as_aux_lemma => kernel_rfl) (by as_aux_lemma => kernel_rfl) (by as_aux_lemma => kernel_rfl) (by as_aux_lemma => kernel_rfl)) [⟨true, aq3, .cells (kArr zeroF) 23 (0, 0)⟩, ⟨true, aq2, .cells (kArr RB) 23 (0, 0)⟩, ⟨true, aq1, .cells (kArr RA) 23 (0, 0)⟩] rfl ?_
  clear F H; intro a v F H
  refine T_end (hK _ _ ?_)
  clear hK K
  refine C_seqK (fun K hK => ?_)
  refine C_seqK (fun K hK => ?_)
  refine C_region ?_
  refine T_val F H (by as_aux_lemma => kernel_rfl) (.int .i64 0) (fun _ _ => by as_aux_lemma => kernel_rfl) ?_
  clear F; intro a F
  refine T_end (hK _ _ ?_)
  clear hK K
  replace F : Fm 47 [] [(5, .int .i64 0), (1, .pointer (some ⟨aq1, 0, none⟩)), (3, .int .i64 30), (4, .pointer (some ⟨aq3, 0, none⟩)), (0, .bool false)] a := F.weak _ (⟨rfl, ⟨rfl, ⟨rfl, ⟨rfl, ⟨rfl, trivial⟩⟩⟩⟩⟩)
  replace H : Hp [] w [⟨true, aq3, .cells (kArr (ffF 0)) 23 (0, 0)⟩, ⟨true, aq2, .cells (kArr RB) 23 (0, 0)⟩, ⟨true, aq1, .cells (kArr RA) 23 (0, 0)⟩] v := H
  refine wp_block ?_
  refine C_loop (fun m a v => ∃ k, k + m = 32 ∧ Fm 47 [] [(5, .int .i64 ((k : Nat) : Int)), (1, .pointer (some ⟨aq1, 0, none⟩)), (3, .int .i64 30), (4, .pointer (some ⟨aq3, 0, none⟩)), (0, .bool false)] a ∧ Hp [] w [⟨true, aq3, .cells (kArr (ffF (k))) 23 (0, 0)⟩, ⟨true, aq2, .cells (kArr RB) 23 (0, 0)⟩, ⟨true, aq1, .cells (kArr RA) 23 (0, 0)⟩] v) 32 ⟨0, rfl, F, H⟩ ?_
  clear F H
  intro m a v ⟨k, hk, F, H⟩
  refine C_seqK (fun K1 hK1 => ?_)
  rcases m with _ | m
  rotate_left
  · refine C_seqK (fun K hK => ?_)
    refine C_region ?_
    refine T_val F H (by as_aux_lemma => kernel_rfl) (.int .i64 ((k : Nat) : Int)) (fun _ _ => by as_aux_lemma => kernel_rfl) ?_
    clear F; intro a F
    refine T_val F H (by as_aux_lemma => kernel_rfl) (.bool true) (fun w _ => R_bin (x := (.tmp 17)) (y := (.const (.int .i64 32))) rfl (k := .i64) (a := ((k : Nat) : Int)) (b := 32) (by as_aux_lemma => kernel_rfl) (by as_aux_lemma => kernel_rfl) (i_lt (by omega)) w) ?_
    clear F; intro a F
    refine T_end (hK _ _ ?_)
    clear hK K
    refine C_if F true rfl rfl ?_
    refine wp_skip ?_
    refine hK1 _ _ ?_
    clear hK1 K1
    replace F : Fm 47 [] [(5, .int .i64 ((k : Nat) : Int)), (1, .pointer (some ⟨aq1, 0, none⟩)), (3, .int .i64 30), (4, .pointer (some ⟨aq3, 0, none⟩)), (0, .bool false)] a := F.weak _ (⟨rfl, ⟨rfl, ⟨rfl, ⟨rfl, ⟨rfl, trivial⟩⟩⟩⟩⟩)
    refine C_seqK (fun K2 hK2 => ?_)
    refine wp_block ?_
    refine C_region ?_
    refine T_val F H (by as_aux_lemma => kernel_rfl) (.int .i64 ((k : Nat) : Int)) (fun _ _ => by as_aux_lemma => kernel_rfl) ?_
    clear F; intro a F
    refine T_val F H (by as_aux_lemma => kernel_rfl) (.pointer (some ⟨aq3, (0 + k * 1), none⟩)) (fun w _ => R_index (k := .i64) (g := aq3) (off := 0) (x := (.tmp 4)) (y := (.tmp 21)) rfl Tryd.underlying23 (by as_aux_lemma => kernel_rfl) k (by as_aux_lemma => kernel_rfl) (by omega) (sz := 1) (by as_aux_lemma => kernel_rfl) w) ?_
    clear F; intro a F
    refine T_set F H (by as_aux_lemma => kernel_rfl) rfl 0 rfl _ (S_cell 0 rfl 5 (.tmp 22) (.const (.int .u8 255)) rfl (0 + k * 1) (by as_aux_lemma => kernel_rfl) (.int .u8 255) (by as_aux_lemma => kernel_rfl) rfl (by show 0 + k * 1 < 32; omega) _ Tryd.underlying5 rfl (by as_aux_lemma => kernel_rfl)) [⟨true, aq3, .cells (kArr (ffF (k + 1))) 23 (0, 0)⟩, ⟨true, aq2, .cells (kArr RB) 23 (0, 0)⟩, ⟨true, aq1, .cells (kArr RA) 23 (0, 0)⟩] (by rw [ffF_set (by omega)]; rfl) ?_
    clear F H; intro a v F H
    refine wpList_nil ?_
    refine hK2 _ _ ?_
    clear hK2 K2
    refine C_region ?_
    refine T_val F H (by as_aux_lemma => kernel_rfl) (.int .i64 ((k : Nat) : Int)) (fun _ _ => by as_aux_lemma => kernel_rfl) ?_
    clear F; intro a F
    refine T_val F H (by as_aux_lemma => kernel_rfl) (.int .i64 ((k + 1 : Nat) : Int)) (fun w _ => R_bin (x := (.tmp 19)) (y := (.const (.int .i64 1))) rfl (k := .i64) (a := ((k : Nat) : Int)) (b := 1) (by as_aux_lemma => kernel_rfl) (by as_aux_lemma => kernel_rfl) (i_addn64 (a := k) (b := 1) (by omega)) w) ?_
    clear F; intro a F
    refine T_val F H (by as_aux_lemma => kernel_rfl) (.int .i64 ((k + 1 : Nat) : Int)) (fun _ _ => by as_aux_lemma => kernel_rfl) ?_
    clear F; intro a F
    refine wpList_nil ?_
    replace F : Fm 47 [] [(5, .int .i64 ((k + 1 : Nat) : Int)), (1, .pointer (some ⟨aq1, 0, none⟩)), (3, .int .i64 30), (4, .pointer (some ⟨aq3, 0, none⟩)), (0, .bool false)] a := F.weak _ (⟨rfl, ⟨rfl, ⟨rfl, ⟨rfl, ⟨rfl, trivial⟩⟩⟩⟩⟩)
    exact ⟨m, Nat.lt_succ_self m, k + 1, by omega, F, H⟩
  obtain rfl : k = 32 := by omega
  refine C_seqK (fun K hK => ?_)
  refine C_region ?_
  refine T_val F H (by as_aux_lemma => kernel_rfl) (.int .i64 ((32 : Nat) : Int)) (fun _ _ => by as_aux_lemma => kernel_rfl) ?_
  clear F; intro a F
  refine T_val F H (by as_aux_lemma => kernel_rfl) (.bool false) (fun w _ => R_bin (x := (.tmp 17)) (y := (.const (.int .i64 32))) rfl (k := .i64) (a := ((32 : Nat) : Int)) (b := 32) (by as_aux_lemma => kernel_rfl) (by as_aux_lemma => kernel_rfl) (i_nlt (by omega)) w) ?_
  clear F; intro a F
  refine T_end (hK _ _ ?_)
  clear hK K
  refine C_if F false rfl rfl ?_
  refine wp_exit ?_
  refine hK _ _ ?_
  clear hK1 K1 hK K
  refine C_seqK (fun K hK => ?_)
  refine C_region ?_
  refine T_val F H (by as_aux_lemma => kernel_rfl) (.pointer (some ⟨aq3, 0, none⟩)) (fun _ _ => by as_aux_lemma => kernel_rfl) ?_
  clear F; intro a F
  refine T_set F H (by as_aux_lemma => kernel_rfl) rfl 0 rfl _ (S_cell 0 rfl 5 (.tmp 23) (.const (.int .u8 237)) rfl 0 (by as_aux_lemma => kernel_rfl) (.int .u8 237) (by as_aux_lemma => kernel_rfl) rfl (Nat.le_of_ble_eq_true rfl) _ Tryd.underlying5 rfl (by as_aux_lemma => kernel_rfl)) [⟨true, aq3, .cells (kArr (upd (ffF 32) 0 (237))) 23 (0, 0)⟩, ⟨true, aq2, .cells (kArr RB) 23 (0, 0)⟩, ⟨true, aq1, .cells (kArr RA) 23 (0, 0)⟩] (by as_aux_lemma => kernel_rfl) ?_
  clear F H; intro a v F H
  refine T_end (hK _ _ ?_)
  clear hK K
  refine C_seqK (fun K hK => ?_)
  refine C_region ?_
  refine T_val F H (by as_aux_lemma => kernel_rfl) (.pointer (some ⟨aq3, 31, none⟩)) (fun _ _ => by as_aux_lemma => kernel_rfl) ?_
  clear F; intro a F
  refine T_set F H (by as_aux_lemma => kernel_rfl) rfl 0 rfl _ (S_cell 0 rfl 5 (.tmp 24) (.const (.int .u8 127)) rfl 31 (by as_aux_lemma => kernel_rfl) (.int .u8 127) (by as_aux_lemma => kernel_rfl) rfl (Nat.le_of_ble_eq_true rfl) _ Tryd.underlying5 rfl (by as_aux_lemma => kernel_rfl)) [⟨true, aq3, .cells (kArr (upd (upd (ffF 32) 0 (237)) 31 (127))) 23 (0, 0)⟩, ⟨true, aq2, .cells (kArr RB) 23 (0, 0)⟩, ⟨true, aq1, .cells (kArr RA) 23 (0, 0)⟩] (by as_aux_lemma => kernel_rfl) ?_
  clear F H; intro a v F H
  refine T_end (hK _ _ ?_)
  clear hK K
  replace H : Hp [] w [⟨true, aq3, .cells (kArr prF) 23 (0, 0)⟩, ⟨true, aq2, .cells (kArr RB) 23 (0, 0)⟩, ⟨true, aq1, .cells (kArr RA) 23 (0, 0)⟩] v := H
  refine C_seqK (fun K hK => ?_)
  refine C_region ?_
  refine T_val F H (by as_aux_lemma => kernel_rfl) (.agg (kArr fiveF)) (fun _ _ => by as_aux_lemma => kernel_rfl) ?_
  clear F; intro a F
  refine T_val F H (by as_aux_lemma => kernel_rfl) (.agg (kArr prF)) (R_load (own := true) (g := aq3) (all := (kArr prF)) (t := 23) (fr := (0, 0)) 0 (by as_aux_lemma => kernel_rfl) 23 (.tmp 4) rfl 0 (by as_aux_lemma => kernel_rfl) (kArr prF) (part_all _) _ Tryd.underlying23 rfl (by as_aux_lemma => kernel_rfl)) ?_
  clear F; intro a F
  refine T_call F H (by as_aux_lemma => kernel_rfl) 41 #[.agg (kArr fiveF), .agg (kArr prF)] (.tuple #[.agg (kArr RC), .int .i64 30]) (fun w => by as_aux_lemma => kernel_rfl) (Calls.kept (dc _ (h4.below h4p H.kept.below))) ?_
  clear F H; intro a v F H
  refine T_val F H (by as_aux_lemma => kernel_rfl) (.tuple #[.agg (kArr RC), .int .i64 30]) (fun _ _ => by as_aux_lemma => kernel_rfl) ?_
  clear F; intro a F
  refine T_val F H (by as_aux_lemma => kernel_rfl) (.agg (kArr RC)) (fun _ _ => by as_aux_lemma => kernel_rfl) ?_
  clear F; intro a F
  refine T_val F H (by as_aux_lemma => kernel_rfl) (.int .i64 30) (fun _ _ => by as_aux_lemma => kernel_rfl) ?_
  clear F; intro a F
  refine T_new F H (by as_aux_lemma => kernel_rfl) (fun ad => .pointer (some ⟨ad, 0, none⟩)) (.cells z32 23 (0, 0)) (fun w => by as_aux_lemma => kernel_rfl) ?_
  clear F H; intro aq4 a v F H
  refine T_set F H (by as_aux_lemma => kernel_rfl) rfl 0 rfl (kArr RC) (S_row 0 rfl 23 (.tmp 6) (.tmp 29) rfl (by as_aux_lemma => kernel_rfl) (kArr RC) (by as_aux_lemma => kernel_rfl) (by as_aux_lemma => kernel_rfl) (by as_aux_lemma => kernel_rfl) (by as_aux_lemma => kernel_rfl)) [⟨true, aq4, .cells (kArr RC) 23 (0, 0)⟩, ⟨true, aq3, .cells (kArr prF) 23 (0, 0)⟩, ⟨true, aq2, .cells (kArr RB) 23 (0, 0)⟩, ⟨true, aq1, .cells (kArr RA) 23 (0, 0)⟩] rfl ?_
  clear F H; intro a v F H
  refine T_val F H (by as_aux_lemma => kernel_rfl) (.int .i64 30) (fun _ _ => by as_aux_lemma => kernel_rfl) ?_
  clear F; intro a F
  refine T_end (hK _ _ ?_)
  clear hK K
  refine C_seqK (fun K hK => ?_)
  refine C_region ?_
  refine T_val F H (by as_aux_lemma => kernel_rfl) (.slice (some ⟨aq1, 0, none⟩) 4 32) (fun _ _ => by as_aux_lemma => kernel_rfl) ?_
  clear F; intro a F
  refine T_call F H (by as_aux_lemma => kernel_rfl) 60 #[.slice (some ⟨aq1, 0, none⟩) 4 32] (.int .u64 ((hiN RA 0 4 : Nat) : Int)) (fun w => by as_aux_lemma => kernel_rfl) (Calls.kept (ofHigh_any RA hRAl _ 0 4 32 (by omega) (by omega) _ (H.at_ (k := 3) rfl))) ?_
  clear F H; intro a v F H
  refine T_val F H (by as_aux_lemma => kernel_rfl) (.bool true) (fun w _ => R_bin (x := (.tmp 32)) (y := (.const (.int .u64 1110216314))) rfl (k := .u64) (a := ((hiN RA 0 4 : Nat) : Int)) (b := 1110216314) (by as_aux_lemma => kernel_rfl) (by as_aux_lemma => kernel_rfl) (i_eq (by rw [hRA1]; rfl)) w) ?_
  clear F; intro a F
  refine T_val F H (by as_aux_lemma => kernel_rfl) (.bool true) (fun _ _ => by as_aux_lemma => kernel_rfl) ?_
  clear F; intro a F
  refine T_val F H (by as_aux_lemma => kernel_rfl) (.slice (some ⟨aq1, 28, none⟩) 4 4) (fun _ _ => by as_aux_lemma => kernel_rfl) ?_
  clear F; intro a F
  refine T_call F H (by as_aux_lemma => kernel_rfl) 60 #[.slice (some ⟨aq1, 28, none⟩) 4 4] (.int .u64 ((hiN RA 28 4 : Nat) : Int)) (fun w => by as_aux_lemma => kernel_rfl) (Calls.kept (ofHigh_any RA hRAl _ 28 4 4 (by omega) (by omega) _ (H.at_ (k := 3) rfl))) ?_
  clear F H; intro a v F H
  refine T_val F H (by as_aux_lemma => kernel_rfl) (.bool true) (fun w _ => R_bin (x := (.tmp 36)) (y := (.const (.int .u64 296628345))) rfl (k := .u64) (a := ((hiN RA 28 4 : Nat) : Int)) (b := 296628345) (by as_aux_lemma => kernel_rfl) (by as_aux_lemma => kernel_rfl) (i_eq (by rw [hRA2]; rfl)) w) ?_
  clear F; intro a F
  refine T_val F H (by as_aux_lemma => kernel_rfl) (.bool true) (fun _ _ => by as_aux_lemma => kernel_rfl) ?_
  clear F; intro a F
  refine T_val F H (by as_aux_lemma => kernel_rfl) (.bool true) (fun _ _ => by as_aux_lemma => kernel_rfl) ?_
  clear F; intro a F
  refine T_val F H (by as_aux_lemma => kernel_rfl) (.int .i64 30) (fun _ _ => by as_aux_lemma => kernel_rfl) ?_
  clear F; intro a F
  refine T_val F H (by as_aux_lemma => kernel_rfl) (.bool true) (fun w _ => R_bin (x := (.tmp 40)) (y := (.const (.int .i64 30))) rfl (k := .i64) (a := 30) (b := 30) (by as_aux_lemma => kernel_rfl) (by as_aux_lemma => kernel_rfl) (i_eq rfl) w) ?_
  clear F; intro a F
  refine T_val F H (by as_aux_lemma => kernel_rfl) (.bool true) (fun _ _ => by as_aux_lemma => kernel_rfl) ?_
  clear F; intro a F
  refine T_val F H (by as_aux_lemma => kernel_rfl) (.bool true) (fun _ _ => by as_aux_lemma => kernel_rfl) ?_
  clear F; intro a F
  refine T_val F H (by as_aux_lemma => kernel_rfl) (.int .i64 30) (fun _ _ => by as_aux_lemma => kernel_rfl) ?_
  clear F; intro a F
  refine T_val F H (by as_aux_lemma => kernel_rfl) (.bool true) (fun w _ => R_bin (x := (.tmp 44)) (y := (.const (.int .i64 30))) rfl (k := .i64) (a := 30) (b := 30) (by as_aux_lemma => kernel_rfl) (by as_aux_lemma => kernel_rfl) (i_eq rfl) w) ?_
  clear F; intro a F
  refine T_val F H (by as_aux_lemma => kernel_rfl) (.bool true) (fun _ _ => by as_aux_lemma => kernel_rfl) ?_
  clear F; intro a F
  refine T_val F H (by as_aux_lemma => kernel_rfl) (.bool true) (fun _ _ => by as_aux_lemma => kernel_rfl) ?_
  clear F; intro a F
  refine T_end (hK _ _ ?_)
  clear hK K
  refine wp_ret ?_
  exact C_ret F H (rs := [.tmp 0]) rfl (vs := [.bool true]) (.tmp rfl .nil) (.bool true) rfl ⟨rfl, H.kept.below⟩

set_option maxRecDepth 100000 in
set_option maxHeartbeats 4000000 in
theorem ladderRaw_any (f : Nat → Nat) (hf : ∀ b, b < 32 → f b < 256) (g : Nat → Nat) (hg : ∀ b, b < 32 → g b < 256) (w : World) (h4 : Four w) : Calls Tryd.prog 11 #[.agg (kArr f), .agg (kArr g)] w fun e w' => e = .returned (.bool true) ∧ Below w.heap.size w w' := by
  have h4p := h4.pos
  have dw := fun w h => awake07_any w h
  have d1 := fun w => clamp_any f hf w
  have d2 := fun w h => raw_any f hf g hg w h
  have d3 := fun w h => mult_any f hf g hg w h
  have e1 := fun w => rclamp_any f hf w
  have e2 := fun w => rraw_any f hf g hg w
  have e3 := fun w => rmult_any f hf g hg w
  generalize byteOf (rawN (clampF f) (kVal g % two255 % pr)) = RF at d2 e2
  generalize clampF f = CF at d1 e1
  generalize multK f g = MK at d3 e3
  generalize multE f g = ME at d3 e3
  refine C_enter Tryd.func11 rfl 54 Tryd.ntmps11 (Nat.le_of_ble_eq_true rfl) (fun a F => ?_)
  have H := Hp.start [] w
  replace F : Fm 54 [] [(0, .agg (kArr f)), (1, .agg (kArr g))] a := F.weak _ (⟨rfl, ⟨rfl, trivial⟩⟩)
  refine C_seqK (fun K hK => ?_)
  refine C_region ?_
  refine T_new F H (by as_aux_lemma => kernel_rfl) (fun ad => .pointer (some ⟨ad, 0, none⟩)) (.cells (kArr f) 23 (0, 0)) (fun w => by as_aux_lemma => kernel_rfl) ?_
  clear F H; intro aq1 a v F H
  refine T_new F H (by as_aux_lemma => kernel_rfl) (fun ad => .pointer (some ⟨ad, 0, none⟩)) (.cells (kArr g) 23 (0, 0)) (fun w => by as_aux_lemma => kernel_rfl) ?_
  clear F H; intro aq2 a v F H
  refine T_val F H (by as_aux_lemma => kernel_rfl) (.bool false) (fun _ _ => by as_aux_lemma => kernel_rfl) ?_
  clear F; intro a F
  refine T_end (hK _ _ ?_)
  clear hK K
  refine C_seqK (fun K hK => ?_)
  refine C_region ?_
  refine T_call F H (by as_aux_lemma => kernel_rfl) 38 #[] (.bool true) (fun w => by as_aux_lemma => kernel_rfl) (Calls.kept (dw _ (h4.below h4p H.kept.below))) ?_
  clear F H; intro a v F H
  refine T_val F H (by as_aux_lemma => kernel_rfl) (.bool true) (fun _ _ => by as_aux_lemma => kernel_rfl) ?_
  clear F; intro a F
  refine T_end (hK _ _ ?_)
  clear hK K
  refine C_seqK (fun K hK => ?_)
  refine C_region ?_
  refine T_val F H (by as_aux_lemma => kernel_rfl) (.agg (kArr f)) (R_load (own := true) (g := aq1) (all := (kArr f)) (t := 23) (fr := (0, 0)) 1 (by as_aux_lemma => kernel_rfl) 23 (.tmp 2) rfl 0 (by as_aux_lemma => kernel_rfl) (kArr f) (part_all _) _ Tryd.underlying23 rfl (by as_aux_lemma => kernel_rfl)) ?_
  clear F; intro a F
  refine T_call F H (by as_aux_lemma => kernel_rfl) 39 #[.agg (kArr f)] (.agg (kArr CF)) (fun w => by as_aux_lemma => kernel_rfl) (Calls.kept (d1 _)) ?_
  clear F H; intro a v F H
  refine T_new F H (by as_aux_lemma => kernel_rfl) (fun ad => .pointer (some ⟨ad, 0, none⟩)) (.cells z32 23 (0, 0)) (fun w => by as_aux_lemma => kernel_rfl) ?_
  clear F H; intro aq3 a v F H
  refine T_set F H (by as_aux_lemma => kernel_rfl) rfl 0 rfl (kArr CF) (S_row 0 rfl 23 (.tmp 6) (.tmp 14) rfl (by as_aux_lemma => kernel_rfl) (kArr CF) (by as_aux_lemma => kernel_rfl) (by as_aux_lemma => kernel_rfl) (by as_aux_lemma => kernel_rfl) (by as_aux_lemma => kernel_rfl)) [⟨true, aq3, .cells (kArr CF) 23 (0, 0)⟩, ⟨true, aq2, .cells (kArr g) 23 (0, 0)⟩, ⟨true, aq1, .cells (kArr f) 23 (0, 0)⟩] rfl ?_
  clear F H; intro a v F H
  refine T_end (hK _ _ ?_)
  clear hK K
  refine C_seqK (fun K hK => ?_)
  refine C_region ?_
  refine T_val F H (by as_aux_lemma => kernel_rfl) (.agg (kArr f)) (R_load (own := true) (g := aq1) (all := (kArr f)) (t := 23) (fr := (0, 0)) 2 (by as_aux_lemma => kernel_rfl) 23 (.tmp 2) rfl 0 (by as_aux_lemma => kernel_rfl) (kArr f) (part_all _) _ Tryd.underlying23 rfl (by as_aux_lemma => kernel_rfl)) ?_
  clear F; intro a F
  refine T_val F H (by as_aux_lemma => kernel_rfl) (.agg (kArr g)) (R_load (own := true) (g := aq2) (all := (kArr g)) (t := 23) (fr := (0, 0)) 1 (by as_aux_lemma => kernel_rfl) 23 (.tmp 3) rfl 0 (by as_aux_lemma => kernel_rfl) (kArr g) (part_all _) _ Tryd.underlying23 rfl (by as_aux_lemma => kernel_rfl)) ?_
  clear F; intro a F
  refine T_call F H (by as_aux_lemma => kernel_rfl) 40 #[.agg (kArr f), .agg (kArr g)] (.agg (kArr RF)) (fun w => by as_aux_lemma => kernel_rfl) (Calls.kept (d2 _ (h4.below h4p H.kept.below))) ?_
  clear F H; intro a v F H
  refine T_new F H (by as_aux_lemma => kernel_rfl) (fun ad => .pointer (some ⟨ad, 0, none⟩)) (.cells z32 23 (0, 0)) (fun w => by as_aux_lemma => kernel_rfl) ?_
  clear F H; intro aq4 a v F H
  refine T_set F H (by as_aux_lemma => kernel_rfl) rfl 0 rfl (kArr RF) (S_row 0 rfl 23 (.tmp 7) (.tmp 17) rfl (by as_aux_lemma => kernel_rfl) (kArr RF) (by as_aux_lemma => kernel_rfl) (by as_aux_lemma => kernel_rfl) (by as_aux_lemma => kernel_rfl) (by as_aux_lemma => kernel_rfl)) [⟨true, aq4, .cells (kArr RF) 23 (0, 0)⟩, ⟨true, aq3, .cells (kArr CF) 23 (0, 0)⟩, ⟨true, aq2, .cells (kArr g) 23 (0, 0)⟩, ⟨true, aq1, .cells (kArr f) 23 (0, 0)⟩] rfl ?_
  clear F H; intro a v F H
  refine T_end (hK _ _ ?_)
  clear hK K
  refine C_seqK (fun K hK => ?_)
  refine C_region ?_
  refine T_val F H (by as_aux_lemma => kernel_rfl) (.agg (kArr f)) (R_load (own := true) (g := aq1) (all := (kArr f)) (t := 23) (fr := (0, 0)) 3 (by as_aux_lemma => kernel_rfl) 23 (.tmp 2) rfl 0 (by as_aux_lemma => kernel_rfl) (kArr f) (part_all _) _ Tryd.underlying23 rfl (by as_aux_lemma => kernel_rfl)) ?_
  clear F; intro a F
  refine T_val F H (by as_aux_lemma => kernel_rfl) (.agg (kArr g)) (R_load (own := true) (g := aq2) (all := (kArr g)) (t := 23) (fr := (0, 0)) 2 (by as_aux_lemma => kernel_rfl) 23 (.tmp 3) rfl 0 (by as_aux_lemma => kernel_rfl) (kArr g) (part_all _) _ Tryd.underlying23 rfl (by as_aux_lemma => kernel_rfl)) ?_
  clear F; intro a F
  refine T_call F H (by as_aux_lemma => kernel_rfl) 41 #[.agg (kArr f), .agg (kArr g)] (.tuple #[.agg (kArr MK), .int .i64 ME]) (fun w => by as_aux_lemma => kernel_rfl) (Calls.kept (d3 _ (h4.below h4p H.kept.below))) ?_
  clear F H; intro a v F H
  refine T_val F H (by as_aux_lemma => kernel_rfl) (.tuple #[.agg (kArr MK), .int .i64 ME]) (fun _ _ => by as_aux_lemma => kernel_rfl) ?_
  clear F; intro a F
  refine T_val F H (by as_aux_lemma => kernel_rfl) (.agg (kArr MK)) (fun _ _ => by as_aux_lemma => kernel_rfl) ?_
  clear F; intro a F
  refine T_val F H (by as_aux_lemma => kernel_rfl) (.int .i64 ME) (fun _ _ => by as_aux_lemma => kernel_rfl) ?_
  clear F; intro a F
  refine T_new F H (by as_aux_lemma => kernel_rfl) (fun ad => .pointer (some ⟨ad, 0, none⟩)) (.cells z32 23 (0, 0)) (fun w => by as_aux_lemma => kernel_rfl) ?_
  clear F H; intro aq5 a v F H
  refine T_set F H (by as_aux_lemma => kernel_rfl) rfl 0 rfl (kArr MK) (S_row 0 rfl 23 (.tmp 8) (.tmp 22) rfl (by as_aux_lemma => kernel_rfl) (kArr MK) (by as_aux_lemma => kernel_rfl) (by as_aux_lemma => kernel_rfl) (by as_aux_lemma => kernel_rfl) (by as_aux_lemma => kernel_rfl)) [⟨true, aq5, .cells (kArr MK) 23 (0, 0)⟩, ⟨true, aq4, .cells (kArr RF) 23 (0, 0)⟩, ⟨true, aq3, .cells (kArr CF) 23 (0, 0)⟩, ⟨true, aq2, .cells (kArr g) 23 (0, 0)⟩, ⟨true, aq1, .cells (kArr f) 23 (0, 0)⟩] rfl ?_
  clear F H; intro a v F H
  refine T_val F H (by as_aux_lemma => kernel_rfl) (.int .i64 ME) (fun _ _ => by as_aux_lemma => kernel_rfl) ?_
  clear F; intro a F
  refine T_end (hK _ _ ?_)
  clear hK K
  refine C_seqK (fun K hK => ?_)
  refine C_region ?_
  refine T_val F H (by as_aux_lemma => kernel_rfl) (.agg (kArr f)) (R_load (own := true) (g := aq1) (all := (kArr f)) (t := 23) (fr := (0, 0)) 4 (by as_aux_lemma => kernel_rfl) 23 (.tmp 2) rfl 0 (by as_aux_lemma => kernel_rfl) (kArr f) (part_all _) _ Tryd.underlying23 rfl (by as_aux_lemma => kernel_rfl)) ?_
  clear F; intro a F
  refine T_val F H (by as_aux_lemma => kernel_rfl) (.agg (kArr g)) (R_load (own := true) (g := aq2) (all := (kArr g)) (t := 23) (fr := (0, 0)) 3 (by as_aux_lemma => kernel_rfl) 23 (.tmp 3) rfl 0 (by as_aux_lemma => kernel_rfl) (kArr g) (part_all _) _ Tryd.underlying23 rfl (by as_aux_lemma => kernel_rfl)) ?_
  clear F; intro a F
  refine T_call F H (by as_aux_lemma => kernel_rfl) 42 #[.agg (kArr f), .agg (kArr g)] (.tuple #[.agg (kArr MK), .int .i64 ME]) (fun w => by as_aux_lemma => kernel_rfl) (Calls.kept (e3 _)) ?_
  clear F H; intro a v F H
  refine T_val F H (by as_aux_lemma => kernel_rfl) (.tuple #[.agg (kArr MK), .int .i64 ME]) (fun _ _ => by as_aux_lemma => kernel_rfl) ?_
  clear F; intro a F
  refine T_val F H (by as_aux_lemma => kernel_rfl) (.agg (kArr MK)) (fun _ _ => by as_aux_lemma => kernel_rfl) ?_
  clear F; intro a F
  refine T_val F H (by as_aux_lemma => kernel_rfl) (.int .i64 ME) (fun _ _ => by as_aux_lemma => kernel_rfl) ?_
  clear F; intro a F
  refine T_new F H (by as_aux_lemma => kernel_rfl) (fun ad => .pointer (some ⟨ad, 0, none⟩)) (.cells z32 23 (0, 0)) (fun w => by as_aux_lemma => kernel_rfl) ?_
  clear F H; intro aq6 a v F H
  refine T_set F H (by as_aux_lemma => kernel_rfl) rfl 0 rfl (kArr MK) (S_row 0 rfl 23 (.tmp 10) (.tmp 28) rfl (by as_aux_lemma => kernel_rfl) (kArr MK) (by as_aux_lemma => kernel_rfl) (by as_aux_lemma => kernel_rfl) (by as_aux_lemma => kernel_rfl) (by as_aux_lemma => kernel_rfl)) [⟨true, aq6, .cells (kArr MK) 23 (0, 0)⟩, ⟨true, aq5, .cells (kArr MK) 23 (0, 0)⟩, ⟨true, aq4, .cells (kArr RF) 23 (0, 0)⟩, ⟨true, aq3, .cells (kArr CF) 23 (0, 0)⟩, ⟨true, aq2, .cells (kArr g) 23 (0, 0)⟩, ⟨true, aq1, .cells (kArr f) 23 (0, 0)⟩] rfl ?_
  clear F H; intro a v F H
  refine T_val F H (by as_aux_lemma => kernel_rfl) (.int .i64 ME) (fun _ _ => by as_aux_lemma => kernel_rfl) ?_
  clear F; intro a F
  refine T_end (hK _ _ ?_)
  clear hK K
  refine C_seqK (fun K hK => ?_)
  refine D_region F H (fun β => [(30, .bool true), (31, .bool true), (32, .agg (kArr CF)), (33, .agg (kArr f)), (34, .agg (kArr CF)), (35, .bool true), (36, .bool true), (37, .bool true), (38, .agg (kArr RF)), (39, .agg (kArr f)), (40, .agg (kArr g)), (41, .agg (kArr RF)), (42, .bool true), (43, .bool true), (44, .bool true), (45, .agg (kArr MK)), (46, .agg (kArr MK)), (47, .bool true), (48, .bool true), (49, .bool true), (50, .int .i64 ME), (51, .int .i64 ME), (52, .bool true), (53, .bool true), (4, .bool true)]) [30, 31, 32, 33, 34, 35, 36, 37, 38, 39, 40, 41, 42, 43, 44, 45, 46, 47, 48, 49, 50, 51, 52, 53, 4] [] [] [⟨true, aq6, .cells (kArr MK) 23 (0, 0)⟩, ⟨true, aq5, .cells (kArr MK) 23 (0, 0)⟩, ⟨true, aq4, .cells (kArr RF) 23 (0, 0)⟩, ⟨true, aq3, .cells (kArr CF) 23 (0, 0)⟩, ⟨true, aq2, .cells (kArr g) 23 (0, 0)⟩, ⟨true, aq1, .cells (kArr f) 23 (0, 0)⟩] [0, 1, 2, 3, 4, 5] (by as_aux_lemma => kernel_rfl) (by as_aux_lemma => kernel_rfl) (by as_aux_lemma => kernel_rfl) (fun β => rfl) (fun fit => ⟨?_, ?_, ?_, ?_, ?_, ?_, ?_, ?_, ?_, ?_, ?_, ?_, ?_, ?_, ?_, ?_, ?_, ?_, ?_, ?_, ?_, ?_, ?_, ?_, ?_, trivial⟩) ?_
  · exact D_val 54 (fun β => by as_aux_lemma => kernel_rfl) (fun β => .bool true) 30 rfl (fun β => by as_aux_lemma => kernel_rfl) (fun β _ _ => by as_aux_lemma => kernel_rfl) (by as_aux_lemma => kernel_rfl)
  · exact D_val 54 (fun β => by as_aux_lemma => kernel_rfl) (fun β => .bool true) 31 rfl (fun β => by as_aux_lemma => kernel_rfl) (fun β _ _ => by as_aux_lemma => kernel_rfl) (by as_aux_lemma => kernel_rfl)
  · exact D_val 54 (fun β => by as_aux_lemma => kernel_rfl) (fun β => .agg (kArr CF)) 32 rfl (fun β => by as_aux_lemma => kernel_rfl) (fun β => R_load (own := true) (g := aq3) (all := (kArr CF)) (t := 23) (fr := (0, 0)) 3 (by as_aux_lemma => kernel_rfl) 23 (.tmp 6) rfl 0 (by as_aux_lemma => kernel_rfl) (kArr CF) (part_all _) _ Tryd.underlying23 rfl (by as_aux_lemma => kernel_rfl)) (by as_aux_lemma => kernel_rfl)
  · exact D_val 54 (fun β => by as_aux_lemma => kernel_rfl) (fun β => .agg (kArr f)) 33 rfl (fun β => by as_aux_lemma => kernel_rfl) (fun β => R_load (own := true) (g := aq1) (all := (kArr f)) (t := 23) (fr := (0, 0)) 5 (by as_aux_lemma => kernel_rfl) 23 (.tmp 2) rfl 0 (by as_aux_lemma => kernel_rfl) (kArr f) (part_all _) _ Tryd.underlying23 rfl (by as_aux_lemma => kernel_rfl)) (by as_aux_lemma => kernel_rfl)
  · exact D_call 54 (fun β => by as_aux_lemma => kernel_rfl) (fun β => .agg (kArr CF)) 34 rfl (fun β => by as_aux_lemma => kernel_rfl) 43 (fun β => #[.agg (kArr f)]) (fun β w => by as_aux_lemma => kernel_rfl) (fun β w hk => Calls.kept (e1 _)) (by as_aux_lemma => kernel_rfl)
  · exact D_val 54 (fun β => by as_aux_lemma => kernel_rfl) (fun β => .bool true) 35 rfl (fun β => by as_aux_lemma => kernel_rfl) (fun β w _ => R_same (x := (.tmp 32)) (y := (.tmp 34)) rfl CF (by as_aux_lemma => kernel_rfl) (by as_aux_lemma => kernel_rfl) w) (by as_aux_lemma => kernel_rfl)
  · exact D_val 54 (fun β => by as_aux_lemma => kernel_rfl) (fun β => .bool true) 36 rfl (fun β => by as_aux_lemma => kernel_rfl) (fun β _ _ => by as_aux_lemma => kernel_rfl) (by as_aux_lemma => kernel_rfl)
  · exact D_val 54 (fun β => by as_aux_lemma => kernel_rfl) (fun β => .bool true) 37 rfl (fun β => by as_aux_lemma => kernel_rfl) (fun β _ _ => by as_aux_lemma => kernel_rfl) (by as_aux_lemma => kernel_rfl)
  · exact D_val 54 (fun β => by as_aux_lemma => kernel_rfl) (fun β => .agg (kArr RF)) 38 rfl (fun β => by as_aux_lemma => kernel_rfl) (fun β => R_load (own := true) (g := aq4) (all := (kArr RF)) (t := 23) (fr := (0, 0)) 2 (by as_aux_lemma => kernel_rfl) 23 (.tmp 7) rfl 0 (by as_aux_lemma => kernel_rfl) (kArr RF) (part_all _) _ Tryd.underlying23 rfl (by as_aux_lemma => kernel_rfl)) (by as_aux_lemma => kernel_rfl)
  · exact D_val 54 (fun β => by as_aux_lemma => kernel_rfl) (fun β => .agg (kArr f)) 39 rfl (fun β => by as_aux_lemma => kernel_rfl) (fun β => R_load (own := true) (g := aq1) (all := (kArr f)) (t := 23) (fr := (0, 0)) 5 (by as_aux_lemma => kernel_rfl) 23 (.tmp 2) rfl 0 (by as_aux_lemma => kernel_rfl) (kArr f) (part_all _) _ Tryd.underlying23 rfl (by as_aux_lemma => kernel_rfl)) (by as_aux_lemma => kernel_rfl)
  · exact D_val 54 (fun β => by as_aux_lemma => kernel_rfl) (fun β => .agg (kArr g)) 40 rfl (fun β => by as_aux_lemma => kernel_rfl) (fun β => R_load (own := true) (g := aq2) (all := (kArr g)) (t := 23) (fr := (0, 0)) 4 (by as_aux_lemma => kernel_rfl) 23 (.tmp 3) rfl 0 (by as_aux_lemma => kernel_rfl) (kArr g) (part_all _) _ Tryd.underlying23 rfl (by as_aux_lemma => kernel_rfl)) (by as_aux_lemma => kernel_rfl)
  · exact D_call 54 (fun β => by as_aux_lemma => kernel_rfl) (fun β => .agg (kArr RF)) 41 rfl (fun β => by as_aux_lemma => kernel_rfl) 44 (fun β => #[.agg (kArr f), .agg (kArr g)]) (fun β w => by as_aux_lemma => kernel_rfl) (fun β w hk => Calls.kept (e2 _)) (by as_aux_lemma => kernel_rfl)
  · exact D_val 54 (fun β => by as_aux_lemma => kernel_rfl) (fun β => .bool true) 42 rfl (fun β => by as_aux_lemma => kernel_rfl) (fun β w _ => R_same (x := (.tmp 38)) (y := (.tmp 41)) rfl RF (by as_aux_lemma => kernel_rfl) (by as_aux_lemma => kernel_rfl) w) (by as_aux_lemma => kernel_rfl)
  · exact D_val 54 (fun β => by as_aux_lemma => kernel_rfl) (fun β => .bool true) 43 rfl (fun β => by as_aux_lemma => kernel_rfl) (fun β _ _ => by as_aux_lemma => kernel_rfl) (by as_aux_lemma => kernel_rfl)
  · exact D_val 54 (fun β => by as_aux_lemma => kernel_rfl) (fun β => .bool true) 44 rfl (fun β => by as_aux_lemma => kernel_rfl) (fun β _ _ => by as_aux_lemma => kernel_rfl) (by as_aux_lemma => kernel_rfl)
  · exact D_val 54 (fun β => by as_aux_lemma => kernel_rfl) (fun β => .agg (kArr MK)) 45 rfl (fun β => by as_aux_lemma => kernel_rfl) (fun β => R_load (own := true) (g := aq5) (all := (kArr MK)) (t := 23) (fr := (0, 0)) 1 (by as_aux_lemma => kernel_rfl) 23 (.tmp 8) rfl 0 (by as_aux_lemma => kernel_rfl) (kArr MK) (part_all _) _ Tryd.underlying23 rfl (by as_aux_lemma => kernel_rfl)) (by as_aux_lemma => kernel_rfl)
  · exact D_val 54 (fun β => by as_aux_lemma => kernel_rfl) (fun β => .agg (kArr MK)) 46 rfl (fun β => by as_aux_lemma => kernel_rfl) (fun β => R_load (own := true) (g := aq6) (all := (kArr MK)) (t := 23) (fr := (0, 0)) 0 (by as_aux_lemma => kernel_rfl) 23 (.tmp 10) rfl 0 (by as_aux_lemma => kernel_rfl) (kArr MK) (part_all _) _ Tryd.underlying23 rfl (by as_aux_lemma => kernel_rfl)) (by as_aux_lemma => kernel_rfl)
  · exact D_val 54 (fun β => by as_aux_lemma => kernel_rfl) (fun β => .bool true) 47 rfl (fun β => by as_aux_lemma => kernel_rfl) (fun β w _ => R_same (x := (.tmp 45)) (y := (.tmp 46)) rfl MK (by as_aux_lemma => kernel_rfl) (by as_aux_lemma => kernel_rfl) w) (by as_aux_lemma => kernel_rfl)
  · exact D_val 54 (fun β => by as_aux_lemma => kernel_rfl) (fun β => .bool true) 48 rfl (fun β => by as_aux_lemma => kernel_rfl) (fun β _ _ => by as_aux_lemma => kernel_rfl) (by as_aux_lemma => kernel_rfl)
  · exact D_val 54 (fun β => by as_aux_lemma => kernel_rfl) (fun β => .bool true) 49 rfl (fun β => by as_aux_lemma => kernel_rfl) (fun β _ _ => by as_aux_lemma => kernel_rfl) (by as_aux_lemma => kernel_rfl)
  · exact D_val 54 (fun β => by as_aux_lemma => kernel_rfl) (fun β => .int .i64 ME) 50 rfl (fun β => by as_aux_lemma => kernel_rfl) (fun β _ _ => by as_aux_lemma => kernel_rfl) (by as_aux_lemma => kernel_rfl)
  · exact D_val 54 (fun β => by as_aux_lemma => kernel_rfl) (fun β => .int .i64 ME) 51 rfl (fun β => by as_aux_lemma => kernel_rfl) (fun β _ _ => by as_aux_lemma => kernel_rfl) (by as_aux_lemma => kernel_rfl)
  · exact D_val 54 (fun β => by as_aux_lemma => kernel_rfl) (fun β => .bool true) 52 rfl (fun β => by as_aux_lemma => kernel_rfl) (fun β w _ => R_bin (x := (.tmp 50)) (y := (.tmp 51)) rfl (k := .i64) (a := ME) (b := ME) (by as_aux_lemma => kernel_rfl) (by as_aux_lemma => kernel_rfl) (i_eq rfl) w) (by as_aux_lemma => kernel_rfl)
  · exact D_val 54 (fun β => by as_aux_lemma => kernel_rfl) (fun β => .bool true) 53 rfl (fun β => by as_aux_lemma => kernel_rfl) (fun β _ _ => by as_aux_lemma => kernel_rfl) (by as_aux_lemma => kernel_rfl)
  · exact D_val 54 (fun β => by as_aux_lemma => kernel_rfl) (fun β => .bool true) 4 rfl (fun β => by as_aux_lemma => kernel_rfl) (fun β _ _ => by as_aux_lemma => kernel_rfl) (by as_aux_lemma => kernel_rfl)
  clear F H; intro β a v F H
  replace H : Hp [] w [⟨true, aq6, .cells (kArr MK) 23 (0, 0)⟩, ⟨true, aq5, .cells (kArr MK) 23 (0, 0)⟩, ⟨true, aq4, .cells (kArr RF) 23 (0, 0)⟩, ⟨true, aq3, .cells (kArr CF) 23 (0, 0)⟩, ⟨true, aq2, .cells (kArr g) 23 (0, 0)⟩, ⟨true, aq1, .cells (kArr f) 23 (0, 0)⟩] v := H
  replace F : Fm 54 [] [(4, .bool true), (53, .bool true), (52, .bool true), (51, .int .i64 ME), (50, .int .i64 ME), (49, .bool true), (48, .bool true), (47, .bool true), (46, .agg (kArr MK)), (45, .agg (kArr MK)), (44, .bool true), (43, .bool true), (42, .bool true), (41, .agg (kArr RF)), (40, .agg (kArr g)), (39, .agg (kArr f)), (38, .agg (kArr RF)), (37, .bool true), (36, .bool true), (35, .bool true), (34, .agg (kArr CF)), (33, .agg (kArr f)), (32, .agg (kArr CF)), (31, .bool true), (30, .bool true), (11, .int .i64 ME), (10, .pointer (some ⟨aq6, 0, none⟩)), (29, .int .i64 ME), (28, .agg (kArr MK)), (24, .tuple #[.agg (kArr MK), .int .i64 ME]), (27, .tuple #[.agg (kArr MK), .int .i64 ME]), (26, .agg (kArr g)), (25, .agg (kArr f)), (9, .int .i64 ME), (8, .pointer (some ⟨aq5, 0, none⟩)), (23, .int .i64 ME), (22, .agg (kArr MK)), (18, .tuple #[.agg (kArr MK), .int .i64 ME]), (21, .tuple #[.agg (kArr MK), .int .i64 ME]), (20, .agg (kArr g)), (19, .agg (kArr f)), (7, .pointer (some ⟨aq4, 0, none⟩)), (17, .agg (kArr RF)), (16, .agg (kArr g)), (15, .agg (kArr f)), (6, .pointer (some ⟨aq3, 0, none⟩)), (14, .agg (kArr CF)), (13, .agg (kArr f)), (5, .bool true), (12, .bool true), (3, .pointer (some ⟨aq2, 0, none⟩)), (2, .pointer (some ⟨aq1, 0, none⟩)), (0, .agg (kArr f)), (1, .agg (kArr g))] a := F.weak _ (⟨rfl, ⟨rfl, ⟨rfl, ⟨rfl, ⟨rfl, ⟨rfl, ⟨rfl, ⟨rfl, ⟨rfl, ⟨rfl, ⟨rfl, ⟨rfl, ⟨rfl, ⟨rfl, ⟨rfl, ⟨rfl, ⟨rfl, ⟨rfl, ⟨rfl, ⟨rfl, ⟨rfl, ⟨rfl, ⟨rfl, ⟨rfl, ⟨rfl, ⟨rfl, ⟨rfl, ⟨rfl, ⟨rfl, ⟨rfl, ⟨rfl, ⟨rfl, ⟨rfl, ⟨rfl, ⟨rfl, ⟨rfl, ⟨rfl, ⟨rfl, ⟨rfl, ⟨rfl, ⟨rfl, ⟨rfl, ⟨rfl, ⟨rfl, ⟨rfl, ⟨rfl, ⟨rfl, ⟨rfl, ⟨rfl, ⟨rfl, ⟨rfl, ⟨rfl, ⟨rfl, ⟨rfl, trivial⟩⟩⟩⟩⟩⟩⟩⟩⟩⟩⟩⟩⟩⟩⟩⟩⟩⟩⟩⟩⟩⟩⟩⟩⟩⟩⟩⟩⟩⟩⟩⟩⟩⟩⟩⟩⟩⟩⟩⟩⟩⟩⟩⟩⟩⟩⟩⟩⟩⟩⟩⟩⟩⟩)
  refine hK _ _ ?_
  clear hK K
  refine wp_ret ?_
  exact C_ret F H (rs := [.tmp 4]) rfl (vs := [.bool true]) (.tmp rfl .nil) (.bool true) rfl ⟨rfl, H.kept.below⟩

theorem ladS_congr {c c' : Nat → Nat} (h : ∀ i, i < 32 → c i = c' i) (u : Nat) : ∀ k, ladS c u k = ladS c' u k
  | 0 => rfl
  | k + 1 => by
    have hb : ladBit c (254 - k) = ladBit c' (254 - k) := by unfold ladBit; rw [h _ (by omega)]
    rw [ladS, ladS, hb, ladS_congr h u k]
theorem rawN_congr {c c' : Nat → Nat} (h : ∀ i, i < 32 → c i = c' i) {u : Nat} : rawN c u = rawN c' u := by
  unfold rawN; rw [ladS_congr h]
theorem clamp_clamp (f : Nat → Nat) : ∀ i, i < 32 → clampF (clampF f) i = clampF f i := by
  intro i _
  unfold clampF
  by_cases h0 : i = 0
  · subst h0; simp only [if_true]; rw [Nat.and_assoc]; rfl
  · by_cases h1 : i = 31
    · subst h1
      simp only [if_true, if_neg (show ¬ (31 : Nat) = 0 by omega)]
      rw [Nat.and_or_distrib_right, Nat.and_assoc, Nat.or_assoc]; rfl
    · simp [h0, h1]
theorem clamp_other (f : Nat → Nat) (b : Nat) : ∀ i, i < 32 → clampF (upd (upd f 0 (f 0 ^^^ b &&& 7)) 31 ((upd f 0 (f 0 ^^^ b &&& 7)) 31 ^^^ b &&& 192)) i = clampF f i := by
  intro i _
  unfold clampF upd
  by_cases h0 : i = 0
  · subst h0
    simp only [if_true, if_neg (show ¬ (0 : Nat) = 31 by omega)]
    rw [Nat.and_xor_distrib_right, Nat.and_assoc b, show 7 &&& 248 = 0 from rfl, Nat.and_zero, Nat.xor_zero]
  · by_cases h1 : i = 31
    · subst h1
      simp only [if_true, if_neg (show ¬ (31 : Nat) = 0 by omega)]
      have hq : ∀ x, (x ^^^ b &&& 192) &&& 127 ||| 64 = x &&& 127 ||| 64 := fun x => by
        rw [Nat.and_xor_distrib_right, Nat.and_assoc b, show 192 &&& 127 = 64 from rfl]
        refine Nat.eq_of_testBit_eq fun j => ?_
        simp only [Nat.testBit_or, Nat.testBit_xor, Nat.testBit_and]
        cases Nat.testBit 64 j <;> simp
      exact hq _
    · simp [h0, h1]
theorem other_lt {f : Nat → Nat} (hf : ∀ b, b < 32 → f b < 256) {nb : Nat} (hb : nb < 256) : ∀ i, i < 32 → upd (upd f 0 (f 0 ^^^ nb &&& 7)) 31 ((upd f 0 (f 0 ^^^ nb &&& 7)) 31 ^^^ nb &&& 192) i < 256 := by
  intro i hi
  have h7 : nb &&& 7 < 256 := Nat.lt_of_le_of_lt Nat.and_le_left hb
  have h192 : nb &&& 192 < 256 := Nat.lt_of_le_of_lt Nat.and_le_left hb
  unfold upd
  split
  · exact Nat.xor_lt_two_pow (n := 8) (by simpa using hf 31 (by omega)) h192
  · split
    · exact Nat.xor_lt_two_pow (n := 8) (hf 0 (by omega)) h7
    · exact hf i hi
theorem turned_lt {g : Nat → Nat} (hg : ∀ b, b < 32 → g b < 256) : ∀ i, i < 32 → upd g 31 (g 31 ^^^ 128) i < 256 := by
  intro i hi
  unfold upd
  split
  · exact Nat.xor_lt_two_pow (n := 8) (hg 31 (by omega)) (by omega)
  · exact hg i hi
theorem xor128 : ∀ a, a < 256 → (a ^^^ 128) % 128 = a % 128 := by decide +kernel
set_option maxRecDepth 100000 in
theorem turned_num {g : Nat → Nat} (hg : ∀ b, b < 32 → g b < 256) : kVal (upd g 31 (g 31 ^^^ 128)) % two255 % pr = kVal g % two255 % pr := by
  have h1 := xor128 (g 31) (hg 31 (by omega))
  have hs : ∀ f : Nat → Nat, kVal f = kNum f 31 + f 31 * 256 ^ 31 := fun f => by first | rfl | (unfold kVal; rw [kNum])
  have hc : kNum (upd g 31 (g 31 ^^^ 128)) 31 = kNum g 31 := kNum_congr 31 (fun b hb => by unfold upd; rw [if_neg (by omega)])
  have hv : (upd g 31 (g 31 ^^^ 128)) 31 = g 31 ^^^ 128 := by unfold upd; rw [if_pos rfl]
  refine congrArg (fun q : Nat => q % pr) ?_
  rw [hs, hs, hc, hv]
  clear hs hc hv hg
  generalize g 31 ^^^ 128 = y at *
  generalize g 31 = x at *
  generalize kNum g 31 = z
  unfold two255
  have hp : (256 : Nat) ^ 31 = 452312848583266388373324160190187140051835877600158453279131187530910662656 := by decide +kernel
  rw [hp]
  omega
set_option maxRecDepth 100000 in
set_option maxHeartbeats 4000000 in
theorem ladderClamped_any (f : Nat → Nat) (hf : ∀ b, b < 32 → f b < 256) (g : Nat → Nat) (hg : ∀ b, b < 32 → g b < 256) (nb : Nat) (hb : nb < 256) (w : World) (h4 : Four w) : Calls Tryd.prog 13 #[.agg (kArr f), .agg (kArr g), .int .u8 ((nb : Nat) : Int)] w fun e w' => e = .returned (.bool true) ∧ Below w.heap.size w w' := by
  have h4p := h4.pos
  have dw := fun w h => awake07_any w h
  have d1 := fun w => clamp_any f hf w
  have d2 := fun w h => raw_any f hf g hg w h
  have d3 := fun w h => raw_any (clampF f) (clampF_lt hf) g hg w h
  have lo := other_lt hf hb
  have d4 := fun w h => raw_any (upd (upd f 0 (f 0 ^^^ nb &&& 7)) 31 ((upd f 0 (f 0 ^^^ nb &&& 7)) 31 ^^^ nb &&& 192)) lo g hg w h
  have lt := turned_lt hg
  have d5 := fun w h => raw_any f hf (upd g 31 (g 31 ^^^ 128)) lt w h
  rw [rawN_congr (c := clampF (clampF f)) (c' := clampF f) (clamp_clamp f)] at d3
  rw [rawN_congr (c' := clampF f) (clamp_other f nb)] at d4
  rw [turned_num hg] at d5
  generalize byteOf (rawN (clampF f) (kVal g % two255 % pr)) = RF at d2 d3 d4 d5
  generalize clampF f = CF at d1 d3
  refine C_enter Tryd.func13 rfl 62 Tryd.ntmps13 (Nat.le_of_ble_eq_true rfl) (fun a F => ?_)
  have H := Hp.start [] w
  replace F : Fm 62 [] [(0, .agg (kArr f)), (1, .agg (kArr g)), (2, .int .u8 ((nb : Nat) : Int))] a := F.weak _ (⟨rfl, ⟨rfl, ⟨rfl, trivial⟩⟩⟩)
  refine C_seqK (fun K hK => ?_)
  refine C_region ?_
  refine T_new F H (by as_aux_lemma => kernel_rfl) (fun ad => .pointer (some ⟨ad, 0, none⟩)) (.cells (kArr f) 23 (0, 0)) (fun w => by as_aux_lemma => kernel_rfl) ?_
  clear F H; intro aq1 a v F H
  refine T_new F H (by as_aux_lemma => kernel_rfl) (fun ad => .pointer (some ⟨ad, 0, none⟩)) (.cells (kArr g) 23 (0, 0)) (fun w => by as_aux_lemma => kernel_rfl) ?_
  clear F H; intro aq2 a v F H
  refine T_val F H (by as_aux_lemma => kernel_rfl) (.bool false) (fun _ _ => by as_aux_lemma => kernel_rfl) ?_
  clear F; intro a F
  refine T_end (hK _ _ ?_)
  clear hK K
  refine C_seqK (fun K hK => ?_)
  refine C_region ?_
  refine T_call F H (by as_aux_lemma => kernel_rfl) 38 #[] (.bool true) (fun w => by as_aux_lemma => kernel_rfl) (Calls.kept (dw _ (h4.below h4p H.kept.below))) ?_
  clear F H; intro a v F H
  refine T_val F H (by as_aux_lemma => kernel_rfl) (.bool true) (fun _ _ => by as_aux_lemma => kernel_rfl) ?_
  clear F; intro a F
  refine T_end (hK _ _ ?_)
  clear hK K
  refine C_seqK (fun K hK => ?_)
  refine C_region ?_
  refine T_val F H (by as_aux_lemma => kernel_rfl) (.agg (kArr f)) (R_load (own := true) (g := aq1) (all := (kArr f)) (t := 23) (fr := (0, 0)) 1 (by as_aux_lemma => kernel_rfl) 23 (.tmp 3) rfl 0 (by as_aux_lemma => kernel_rfl) (kArr f) (part_all _) _ Tryd.underlying23 rfl (by as_aux_lemma => kernel_rfl)) ?_
  clear F; intro a F
  refine T_val F H (by as_aux_lemma => kernel_rfl) (.agg (kArr g)) (R_load (own := true) (g := aq2) (all := (kArr g)) (t := 23) (fr := (0, 0)) 0 (by as_aux_lemma => kernel_rfl) 23 (.tmp 4) rfl 0 (by as_aux_lemma => kernel_rfl) (kArr g) (part_all _) _ Tryd.underlying23 rfl (by as_aux_lemma => kernel_rfl)) ?_
  clear F; intro a F
  refine T_call F H (by as_aux_lemma => kernel_rfl) 40 #[.agg (kArr f), .agg (kArr g)] (.agg (kArr RF)) (fun w => by as_aux_lemma => kernel_rfl) (Calls.kept (d2 _ (h4.below h4p H.kept.below))) ?_
  clear F H; intro a v F H
  refine T_new F H (by as_aux_lemma => kernel_rfl) (fun ad => .pointer (some ⟨ad, 0, none⟩)) (.cells z32 23 (0, 0)) (fun w => by as_aux_lemma => kernel_rfl) ?_
  clear F H; intro aq3 a v F H
  refine T_set F H (by as_aux_lemma => kernel_rfl) rfl 0 rfl (kArr RF) (S_row 0 rfl 23 (.tmp 8) (.tmp 17) rfl (by as_aux_lemma => kernel_rfl) (kArr RF) (by as_aux_lemma => kernel_rfl) (by as_aux_lemma => kernel_rfl) (by as_aux_lemma => kernel_rfl) (by as_aux_lemma => kernel_rfl)) [⟨true, aq3, .cells (kArr RF) 23 (0, 0)⟩, ⟨true, aq2, .cells (kArr g) 23 (0, 0)⟩, ⟨true, aq1, .cells (kArr f) 23 (0, 0)⟩] rfl ?_
  clear F H; intro a v F H
  refine T_end (hK _ _ ?_)
  clear hK K
  refine C_seqK (fun K hK => ?_)
  refine D_region F H (fun β => [(18, .agg (kArr f)), (19, .agg (kArr CF)), (20, .agg (kArr g)), (21, .agg (kArr RF)), (9, .pointer (some ⟨(β 4), 0, none⟩))]) [18, 19, 20, 21, 9] [⟨4, 5, .cells z32 23 (0, 0), .cells (kArr RF) 23 (0, 0)⟩] [] [⟨true, aq3, .cells (kArr RF) 23 (0, 0)⟩, ⟨true, aq2, .cells (kArr g) 23 (0, 0)⟩, ⟨true, aq1, .cells (kArr f) 23 (0, 0)⟩] [0, 1, 2] (by as_aux_lemma => kernel_rfl) (by as_aux_lemma => kernel_rfl) (by as_aux_lemma => kernel_rfl) (fun β => rfl) (fun fit => ⟨?_, ?_, ?_, ?_, ?_, ?_, trivial⟩) ?_
  · exact D_val 62 (fun β => by as_aux_lemma => kernel_rfl) (fun β => .agg (kArr f)) 18 rfl (fun β => by as_aux_lemma => kernel_rfl) (fun β => R_load (own := true) (g := aq1) (all := (kArr f)) (t := 23) (fr := (0, 0)) 2 (by as_aux_lemma => kernel_rfl) 23 (.tmp 3) rfl 0 (by as_aux_lemma => kernel_rfl) (kArr f) (part_all _) _ Tryd.underlying23 rfl (by as_aux_lemma => kernel_rfl)) (by as_aux_lemma => kernel_rfl)
  · exact D_call 62 (fun β => by as_aux_lemma => kernel_rfl) (fun β => .agg (kArr CF)) 19 rfl (fun β => by as_aux_lemma => kernel_rfl) 39 (fun β => #[.agg (kArr f)]) (fun β w => by as_aux_lemma => kernel_rfl) (fun β w hk => Calls.kept (d1 _)) (by as_aux_lemma => kernel_rfl)
  · exact D_val 62 (fun β => by as_aux_lemma => kernel_rfl) (fun β => .agg (kArr g)) 20 rfl (fun β => by as_aux_lemma => kernel_rfl) (fun β => R_load (own := true) (g := aq2) (all := (kArr g)) (t := 23) (fr := (0, 0)) 1 (by as_aux_lemma => kernel_rfl) 23 (.tmp 4) rfl 0 (by as_aux_lemma => kernel_rfl) (kArr g) (part_all _) _ Tryd.underlying23 rfl (by as_aux_lemma => kernel_rfl)) (by as_aux_lemma => kernel_rfl)
  · exact D_call 62 (fun β => by as_aux_lemma => kernel_rfl) (fun β => .agg (kArr RF)) 21 rfl (fun β => by as_aux_lemma => kernel_rfl) 40 (fun β => #[.agg (kArr CF), .agg (kArr g)]) (fun β w => by as_aux_lemma => kernel_rfl) (fun β w hk => Calls.kept (d3 _ (h4.below h4p hk.below))) (by as_aux_lemma => kernel_rfl)
  · exact D_new fit ⟨4, 5, .cells z32 23 (0, 0), .cells (kArr RF) 23 (0, 0)⟩ (List.mem_of_getElem? (i := 0) rfl) rfl 62 (fun β => by as_aux_lemma => kernel_rfl) 9 rfl (fun ad => .pointer (some ⟨ad, 0, none⟩)) (fun β w => by as_aux_lemma => kernel_rfl) (fun β => by as_aux_lemma => kernel_rfl) (fun β b => ⟨rfl, .inr rfl, ⟨rfl, .inr rfl, ⟨rfl, .inr rfl, ⟨rfl, .inr rfl, ⟨rfl, .inl rfl, trivial⟩⟩⟩⟩⟩) (by as_aux_lemma => kernel_rfl)
  · exact D_put fit ⟨4, 5, .cells z32 23 (0, 0), .cells (kArr RF) 23 (0, 0)⟩ (List.mem_of_getElem? (i := 0) rfl) rfl 62 (fun β => by as_aux_lemma => kernel_rfl) rfl (by as_aux_lemma => kernel_rfl) (fun β w _ hg => P_row rfl rfl (ty := 23) (x := (.tmp 9)) (y := (.tmp 21)) rfl (by as_aux_lemma => kernel_rfl) (by as_aux_lemma => kernel_rfl) (by as_aux_lemma => kernel_rfl) (by as_aux_lemma => kernel_rfl) (by as_aux_lemma => kernel_rfl) hg) (by as_aux_lemma => kernel_rfl)
  clear F H; intro β a v F H
  replace H : Hp [] w [⟨true, (β 4), .cells (kArr RF) 23 (0, 0)⟩, ⟨true, aq3, .cells (kArr RF) 23 (0, 0)⟩, ⟨true, aq2, .cells (kArr g) 23 (0, 0)⟩, ⟨true, aq1, .cells (kArr f) 23 (0, 0)⟩] v := H
  replace F : Fm 62 [] [(9, .pointer (some ⟨(β 4), 0, none⟩)), (21, .agg (kArr RF)), (20, .agg (kArr g)), (19, .agg (kArr CF)), (18, .agg (kArr f)), (8, .pointer (some ⟨aq3, 0, none⟩)), (17, .agg (kArr RF)), (16, .agg (kArr g)), (15, .agg (kArr f)), (7, .bool true), (14, .bool true), (6, .bool false), (4, .pointer (some ⟨aq2, 0, none⟩)), (3, .pointer (some ⟨aq1, 0, none⟩)), (0, .agg (kArr f)), (1, .agg (kArr g)), (2, .int .u8 ((nb : Nat) : Int))] a := F.weak _ (⟨rfl, ⟨rfl, ⟨rfl, ⟨rfl, ⟨rfl, ⟨rfl, ⟨rfl, ⟨rfl, ⟨rfl, ⟨rfl, ⟨rfl, ⟨rfl, ⟨rfl, ⟨rfl, ⟨rfl, ⟨rfl, ⟨rfl, trivial⟩⟩⟩⟩⟩⟩⟩⟩⟩⟩⟩⟩⟩⟩⟩⟩⟩)
  generalize β 4 = aq4 at F H
  refine hK _ _ ?_
  clear hK K
  refine C_seqK (fun K hK => ?_)
  refine C_region ?_
  refine T_val F H (by as_aux_lemma => kernel_rfl) (.agg (kArr f)) (R_load (own := true) (g := aq1) (all := (kArr f)) (t := 23) (fr := (0, 0)) 3 (by as_aux_lemma => kernel_rfl) 23 (.tmp 3) rfl 0 (by as_aux_lemma => kernel_rfl) (kArr f) (part_all _) _ Tryd.underlying23 rfl (by as_aux_lemma => kernel_rfl)) ?_
  clear F; intro a F
  refine T_new F H (by as_aux_lemma => kernel_rfl) (fun ad => .pointer (some ⟨ad, 0, none⟩)) (.cells z32 23 (0, 0)) (fun w => by as_aux_lemma => kernel_rfl) ?_
  clear F H; intro aq5 a v F H
  refine T_set F H (by as_aux_lemma => kernel_rfl) rfl 0 rfl (kArr f) (S_row 0 rfl 23 (.tmp 10) (.tmp 22) rfl (by as_aux_lemma => kernel_rfl) (kArr f) (by as_aux_lemma => kernel_rfl) (by as_aux_lemma => kernel_rfl) (by as_aux_lemma => kernel_rfl) (by as_aux_lemma => kernel_rfl)) [⟨true, aq5, .cells (kArr f) 23 (0, 0)⟩, ⟨true, aq4, .cells (kArr RF) 23 (0, 0)⟩, ⟨true, aq3, .cells (kArr RF) 23 (0, 0)⟩, ⟨true, aq2, .cells (kArr g) 23 (0, 0)⟩, ⟨true, aq1, .cells (kArr f) 23 (0, 0)⟩] rfl ?_
  clear F H; intro a v F H
  refine T_end (hK _ _ ?_)
  clear hK K
  refine C_seqK (fun K hK => ?_)
  refine C_region ?_
  refine T_val F H (by as_aux_lemma => kernel_rfl) (.pointer (some ⟨aq5, 0, none⟩)) (fun _ _ => by as_aux_lemma => kernel_rfl) ?_
  clear F; intro a F
  refine T_val F H (by as_aux_lemma => kernel_rfl) (.int .u8 ((f 0 : Nat) : Int)) (R_cell (own := true) (g := aq5) (all := (kArr f)) (t := 23) (fr := (0, 0)) 0 (by as_aux_lemma => kernel_rfl) 5 (.tmp 23) rfl 0 (by as_aux_lemma => kernel_rfl) (.int .u8 ((f 0 : Nat) : Int)) (by as_aux_lemma => kernel_rfl) _ Tryd.underlying5 rfl) ?_
  clear F; intro a F
  refine T_val F H (by as_aux_lemma => kernel_rfl) (.int .u8 ((nb : Nat) : Int)) (fun _ _ => by as_aux_lemma => kernel_rfl) ?_
  clear F; intro a F
  refine T_val F H (by as_aux_lemma => kernel_rfl) (.int .u8 ((nb &&& 7 : Nat) : Int)) (fun w _ => R_bin (x := (.tmp 25)) (y := (.const (.int .u8 7))) rfl (k := .u8) (a := ((nb : Nat) : Int)) (b := 7) (by as_aux_lemma => kernel_rfl) (by as_aux_lemma => kernel_rfl) (i_and8 (a := nb) (b := 7) hb (by omega)) w) ?_
  clear F; intro a F
  refine T_val F H (by as_aux_lemma => kernel_rfl) (.int .u8 ((f 0 ^^^ nb &&& 7 : Nat) : Int)) (fun w _ => R_bin (x := (.tmp 24)) (y := (.tmp 26)) rfl (k := .u8) (a := ((f 0 : Nat) : Int)) (b := ((nb &&& 7 : Nat) : Int)) (by as_aux_lemma => kernel_rfl) (by as_aux_lemma => kernel_rfl) (i_xor8 (a := f 0) (b := nb &&& 7) (hf 0 (by omega)) (Nat.lt_of_le_of_lt Nat.and_le_left hb)) w) ?_
  clear F; intro a F
  refine T_val F H (by as_aux_lemma => kernel_rfl) (.pointer (some ⟨aq5, 0, none⟩)) (fun _ _ => by as_aux_lemma => kernel_rfl) ?_
  clear F; intro a F
  refine T_set F H (by as_aux_lemma => kernel_rfl) rfl 0 rfl _ (S_cell 0 rfl 5 (.tmp 28) (.tmp 27) rfl 0 (by as_aux_lemma => kernel_rfl) (.int .u8 ((f 0 ^^^ nb &&& 7 : Nat) : Int)) (by as_aux_lemma => kernel_rfl) rfl (Nat.le_of_ble_eq_true rfl) _ Tryd.underlying5 rfl (by as_aux_lemma => kernel_rfl)) [⟨true, aq5, .cells (kArr (upd f 0 (f 0 ^^^ nb &&& 7))) 23 (0, 0)⟩, ⟨true, aq4, .cells (kArr RF) 23 (0, 0)⟩, ⟨true, aq3, .cells (kArr RF) 23 (0, 0)⟩, ⟨true, aq2, .cells (kArr g) 23 (0, 0)⟩, ⟨true, aq1, .cells (kArr f) 23 (0, 0)⟩] (by as_aux_lemma => kernel_rfl) ?_
  clear F H; intro a v F H
  refine T_end (hK _ _ ?_)
  clear hK K
  refine C_seqK (fun K hK => ?_)
  refine C_region ?_
  refine T_val F H (by as_aux_lemma => kernel_rfl) (.pointer (some ⟨aq5, 31, none⟩)) (fun _ _ => by as_aux_lemma => kernel_rfl) ?_
  clear F; intro a F
  refine T_val F H (by as_aux_lemma => kernel_rfl) (.int .u8 (((upd f 0 (f 0 ^^^ nb &&& 7)) 31 : Nat) : Int)) (R_cell (own := true) (g := aq5) (all := (kArr (upd f 0 (f 0 ^^^ nb &&& 7)))) (t := 23) (fr := (0, 0)) 0 (by as_aux_lemma => kernel_rfl) 5 (.tmp 29) rfl 31 (by as_aux_lemma => kernel_rfl) (.int .u8 (((upd f 0 (f 0 ^^^ nb &&& 7)) 31 : Nat) : Int)) (by as_aux_lemma => kernel_rfl) _ Tryd.underlying5 rfl) ?_
  clear F; intro a F
  refine T_val F H (by as_aux_lemma => kernel_rfl) (.int .u8 ((nb : Nat) : Int)) (fun _ _ => by as_aux_lemma => kernel_rfl) ?_
  clear F; intro a F
  refine T_val F H (by as_aux_lemma => kernel_rfl) (.int .u8 ((nb &&& 192 : Nat) : Int)) (fun w _ => R_bin (x := (.tmp 31)) (y := (.const (.int .u8 192))) rfl (k := .u8) (a := ((nb : Nat) : Int)) (b := 192) (by as_aux_lemma => kernel_rfl) (by as_aux_lemma => kernel_rfl) (i_and8 (a := nb) (b := 192) hb (by omega)) w) ?_
  clear F; intro a F
  refine T_val F H (by as_aux_lemma => kernel_rfl) (.int .u8 (((upd f 0 (f 0 ^^^ nb &&& 7)) 31 ^^^ nb &&& 192 : Nat) : Int)) (fun w _ => R_bin (x := (.tmp 30)) (y := (.tmp 32)) rfl (k := .u8) (a := (((upd f 0 (f 0 ^^^ nb &&& 7)) 31 : Nat) : Int)) (b := ((nb &&& 192 : Nat) : Int)) (by as_aux_lemma => kernel_rfl) (by as_aux_lemma => kernel_rfl) (i_xor8 (a := (upd f 0 (f 0 ^^^ nb &&& 7)) 31) (b := nb &&& 192) (hf 31 (by omega)) (Nat.lt_of_le_of_lt Nat.and_le_left hb)) w) ?_
  clear F; intro a F
  refine T_val F H (by as_aux_lemma => kernel_rfl) (.pointer (some ⟨aq5, 31, none⟩)) (fun _ _ => by as_aux_lemma => kernel_rfl) ?_
  clear F; intro a F
  refine T_set F H (by as_aux_lemma => kernel_rfl) rfl 0 rfl _ (S_cell 0 rfl 5 (.tmp 34) (.tmp 33) rfl 31 (by as_aux_lemma => kernel_rfl) (.int .u8 (((upd f 0 (f 0 ^^^ nb &&& 7)) 31 ^^^ nb &&& 192 : Nat) : Int)) (by as_aux_lemma => kernel_rfl) rfl (Nat.le_of_ble_eq_true rfl) _ Tryd.underlying5 rfl (by as_aux_lemma => kernel_rfl)) [⟨true, aq5, .cells (kArr (upd (upd f 0 (f 0 ^^^ nb &&& 7)) 31 ((upd f 0 (f 0 ^^^ nb &&& 7)) 31 ^^^ nb &&& 192))) 23 (0, 0)⟩, ⟨true, aq4, .cells (kArr RF) 23 (0, 0)⟩, ⟨true, aq3, .cells (kArr RF) 23 (0, 0)⟩, ⟨true, aq2, .cells (kArr g) 23 (0, 0)⟩, ⟨true, aq1, .cells (kArr f) 23 (0, 0)⟩] (by as_aux_lemma => kernel_rfl) ?_
  clear F H; intro a v F H
  refine T_end (hK _ _ ?_)
  clear hK K
  refine C_seqK (fun K hK => ?_)
  refine C_region ?_
  refine T_val F H (by as_aux_lemma => kernel_rfl) (.agg (kArr (upd (upd f 0 (f 0 ^^^ nb &&& 7)) 31 ((upd f 0 (f 0 ^^^ nb &&& 7)) 31 ^^^ nb &&& 192)))) (R_load (own := true) (g := aq5) (all := (kArr (upd (upd f 0 (f 0 ^^^ nb &&& 7)) 31 ((upd f 0 (f 0 ^^^ nb &&& 7)) 31 ^^^ nb &&& 192)))) (t := 23) (fr := (0, 0)) 0 (by as_aux_lemma => kernel_rfl) 23 (.tmp 10) rfl 0 (by as_aux_lemma => kernel_rfl) (kArr (upd (upd f 0 (f 0 ^^^ nb &&& 7)) 31 ((upd f 0 (f 0 ^^^ nb &&& 7)) 31 ^^^ nb &&& 192))) (part_all _) _ Tryd.underlying23 rfl (by as_aux_lemma => kernel_rfl)) ?_
  clear F; intro a F
  refine T_val F H (by as_aux_lemma => kernel_rfl) (.agg (kArr g)) (R_load (own := true) (g := aq2) (all := (kArr g)) (t := 23) (fr := (0, 0)) 3 (by as_aux_lemma => kernel_rfl) 23 (.tmp 4) rfl 0 (by as_aux_lemma => kernel_rfl) (kArr g) (part_all _) _ Tryd.underlying23 rfl (by as_aux_lemma => kernel_rfl)) ?_
  clear F; intro a F
  refine T_call F H (by as_aux_lemma => kernel_rfl) 40 #[.agg (kArr (upd (upd f 0 (f 0 ^^^ nb &&& 7)) 31 ((upd f 0 (f 0 ^^^ nb &&& 7)) 31 ^^^ nb &&& 192))), .agg (kArr g)] (.agg (kArr RF)) (fun w => by as_aux_lemma => kernel_rfl) (Calls.kept (d4 _ (h4.below h4p H.kept.below))) ?_
  clear F H; intro a v F H
  refine T_new F H (by as_aux_lemma => kernel_rfl) (fun ad => .pointer (some ⟨ad, 0, none⟩)) (.cells z32 23 (0, 0)) (fun w => by as_aux_lemma => kernel_rfl) ?_
  clear F H; intro aq6 a v F H
  refine T_set F H (by as_aux_lemma => kernel_rfl) rfl 0 rfl (kArr RF) (S_row 0 rfl 23 (.tmp 11) (.tmp 37) rfl (by as_aux_lemma => kernel_rfl) (kArr RF) (by as_aux_lemma => kernel_rfl) (by as_aux_lemma => kernel_rfl) (by as_aux_lemma => kernel_rfl) (by as_aux_lemma => kernel_rfl)) [⟨true, aq6, .cells (kArr RF) 23 (0, 0)⟩, ⟨true, aq5, .cells (kArr (upd (upd f 0 (f 0 ^^^ nb &&& 7)) 31 ((upd f 0 (f 0 ^^^ nb &&& 7)) 31 ^^^ nb &&& 192))) 23 (0, 0)⟩, ⟨true, aq4, .cells (kArr RF) 23 (0, 0)⟩, ⟨true, aq3, .cells (kArr RF) 23 (0, 0)⟩, ⟨true, aq2, .cells (kArr g) 23 (0, 0)⟩, ⟨true, aq1, .cells (kArr f) 23 (0, 0)⟩] rfl ?_
  clear F H; intro a v F H
  refine T_end (hK _ _ ?_)
  clear hK K
  refine C_seqK (fun K hK => ?_)
  refine C_region ?_
  refine T_val F H (by as_aux_lemma => kernel_rfl) (.agg (kArr g)) (R_load (own := true) (g := aq2) (all := (kArr g)) (t := 23) (fr := (0, 0)) 4 (by as_aux_lemma => kernel_rfl) 23 (.tmp 4) rfl 0 (by as_aux_lemma => kernel_rfl) (kArr g) (part_all _) _ Tryd.underlying23 rfl (by as_aux_lemma => kernel_rfl)) ?_
  clear F; intro a F
  refine T_new F H (by as_aux_lemma => kernel_rfl) (fun ad => .pointer (some ⟨ad, 0, none⟩)) (.cells z32 23 (0, 0)) (fun w => by as_aux_lemma => kernel_rfl) ?_
  clear F H; intro aq7 a v F H
  refine T_set F H (by as_aux_lemma => kernel_rfl) rfl 0 rfl (kArr g) (S_row 0 rfl 23 (.tmp 12) (.tmp 38) rfl (by as_aux_lemma => kernel_rfl) (kArr g) (by as_aux_lemma => kernel_rfl) (by as_aux_lemma => kernel_rfl) (by as_aux_lemma => kernel_rfl) (by as_aux_lemma => kernel_rfl)) [⟨true, aq7, .cells (kArr g) 23 (0, 0)⟩, ⟨true, aq6, .cells (kArr RF) 23 (0, 0)⟩, ⟨true, aq5, .cells (kArr (upd (upd f 0 (f 0 ^^^ nb &&& 7)) 31 ((upd f 0 (f 0 ^^^ nb &&& 7)) 31 ^^^ nb &&& 192))) 23 (0, 0)⟩, ⟨true, aq4, .cells (kArr RF) 23 (0, 0)⟩, ⟨true, aq3, .cells (kArr RF) 23 (0, 0)⟩, ⟨true, aq2, .cells (kArr g) 23 (0, 0)⟩, ⟨true, aq1, .cells (kArr f) 23 (0, 0)⟩] rfl ?_
  clear F H; intro a v F H
  refine T_end (hK _ _ ?_)
  clear hK K
  refine C_seqK (fun K hK => ?_)
  refine C_region ?_
  refine T_val F H (by as_aux_lemma => kernel_rfl) (.pointer (some ⟨aq7, 31, none⟩)) (fun _ _ => by as_aux_lemma => kernel_rfl) ?_
  clear F; intro a F
  refine T_val F H (by as_aux_lemma => kernel_rfl) (.int .u8 ((g 31 : Nat) : Int)) (R_cell (own := true) (g := aq7) (all := (kArr g)) (t := 23) (fr := (0, 0)) 0 (by as_aux_lemma => kernel_rfl) 5 (.tmp 39) rfl 31 (by as_aux_lemma => kernel_rfl) (.int .u8 ((g 31 : Nat) : Int)) (by as_aux_lemma => kernel_rfl) _ Tryd.underlying5 rfl) ?_
  clear F; intro a F
  refine T_val F H (by as_aux_lemma => kernel_rfl) (.int .u8 ((g 31 ^^^ 128 : Nat) : Int)) (fun w _ => R_bin (x := (.tmp 40)) (y := (.const (.int .u8 128))) rfl (k := .u8) (a := ((g 31 : Nat) : Int)) (b := 128) (by as_aux_lemma => kernel_rfl) (by as_aux_lemma => kernel_rfl) (i_xor8 (a := g 31) (b := 128) (hg 31 (by omega)) (by omega)) w) ?_
  clear F; intro a F
  refine T_val F H (by as_aux_lemma => kernel_rfl) (.pointer (some ⟨aq7, 31, none⟩)) (fun _ _ => by as_aux_lemma => kernel_rfl) ?_
  clear F; intro a F
  refine T_set F H (by as_aux_lemma => kernel_rfl) rfl 0 rfl _ (S_cell 0 rfl 5 (.tmp 42) (.tmp 41) rfl 31 (by as_aux_lemma => kernel_rfl) (.int .u8 ((g 31 ^^^ 128 : Nat) : Int)) (by as_aux_lemma => kernel_rfl) rfl (Nat.le_of_ble_eq_true rfl) _ Tryd.underlying5 rfl (by as_aux_lemma => kernel_rfl)) [⟨true, aq7, .cells (kArr (upd g 31 (g 31 ^^^ 128))) 23 (0, 0)⟩, ⟨true, aq6, .cells (kArr RF) 23 (0, 0)⟩, ⟨true, aq5, .cells (kArr (upd (upd f 0 (f 0 ^^^ nb &&& 7)) 31 ((upd f 0 (f 0 ^^^ nb &&& 7)) 31 ^^^ nb &&& 192))) 23 (0, 0)⟩, ⟨true, aq4, .cells (kArr RF) 23 (0, 0)⟩, ⟨true, aq3, .cells (kArr RF) 23 (0, 0)⟩, ⟨true, aq2, .cells (kArr g) 23 (0, 0)⟩, ⟨true, aq1, .cells (kArr f) 23 (0, 0)⟩] (by as_aux_lemma => kernel_rfl) ?_
  clear F H; intro a v F H
  refine T_end (hK _ _ ?_)
  clear hK K
  refine C_seqK (fun K hK => ?_)
  refine C_region ?_
  refine T_val F H (by as_aux_lemma => kernel_rfl) (.agg (kArr f)) (R_load (own := true) (g := aq1) (all := (kArr f)) (t := 23) (fr := (0, 0)) 6 (by as_aux_lemma => kernel_rfl) 23 (.tmp 3) rfl 0 (by as_aux_lemma => kernel_rfl) (kArr f) (part_all _) _ Tryd.underlying23 rfl (by as_aux_lemma => kernel_rfl)) ?_
  clear F; intro a F
  refine T_val F H (by as_aux_lemma => kernel_rfl) (.agg (kArr (upd g 31 (g 31 ^^^ 128)))) (R_load (own := true) (g := aq7) (all := (kArr (upd g 31 (g 31 ^^^ 128)))) (t := 23) (fr := (0, 0)) 0 (by as_aux_lemma => kernel_rfl) 23 (.tmp 12) rfl 0 (by as_aux_lemma => kernel_rfl) (kArr (upd g 31 (g 31 ^^^ 128))) (part_all _) _ Tryd.underlying23 rfl (by as_aux_lemma => kernel_rfl)) ?_
  clear F; intro a F
  refine T_call F H (by as_aux_lemma => kernel_rfl) 40 #[.agg (kArr f), .agg (kArr (upd g 31 (g 31 ^^^ 128)))] (.agg (kArr RF)) (fun w => by as_aux_lemma => kernel_rfl) (Calls.kept (d5 _ (h4.below h4p H.kept.below))) ?_
  clear F H; intro a v F H
  refine T_new F H (by as_aux_lemma => kernel_rfl) (fun ad => .pointer (some ⟨ad, 0, none⟩)) (.cells z32 23 (0, 0)) (fun w => by as_aux_lemma => kernel_rfl) ?_
  clear F H; intro aq8 a v F H
  refine T_set F H (by as_aux_lemma => kernel_rfl) rfl 0 rfl (kArr RF) (S_row 0 rfl 23 (.tmp 13) (.tmp 45) rfl (by as_aux_lemma => kernel_rfl) (kArr RF) (by as_aux_lemma => kernel_rfl) (by as_aux_lemma => kernel_rfl) (by as_aux_lemma => kernel_rfl) (by as_aux_lemma => kernel_rfl)) [⟨true, aq8, .cells (kArr RF) 23 (0, 0)⟩, ⟨true, aq7, .cells (kArr (upd g 31 (g 31 ^^^ 128))) 23 (0, 0)⟩, ⟨true, aq6, .cells (kArr RF) 23 (0, 0)⟩, ⟨true, aq5, .cells (kArr (upd (upd f 0 (f 0 ^^^ nb &&& 7)) 31 ((upd f 0 (f 0 ^^^ nb &&& 7)) 31 ^^^ nb &&& 192))) 23 (0, 0)⟩, ⟨true, aq4, .cells (kArr RF) 23 (0, 0)⟩, ⟨true, aq3, .cells (kArr RF) 23 (0, 0)⟩, ⟨true, aq2, .cells (kArr g) 23 (0, 0)⟩, ⟨true, aq1, .cells (kArr f) 23 (0, 0)⟩] rfl ?_
  clear F H; intro a v F H
  refine T_end (hK _ _ ?_)
  clear hK K
  refine C_seqK (fun K hK => ?_)
  refine C_region ?_
  refine T_val F H (by as_aux_lemma => kernel_rfl) (.bool true) (fun _ _ => by as_aux_lemma => kernel_rfl) ?_
  clear F; intro a F
  refine T_val F H (by as_aux_lemma => kernel_rfl) (.bool true) (fun _ _ => by as_aux_lemma => kernel_rfl) ?_
  clear F; intro a F
  refine T_val F H (by as_aux_lemma => kernel_rfl) (.agg (kArr RF)) (R_load (own := true) (g := aq3) (all := (kArr RF)) (t := 23) (fr := (0, 0)) 5 (by as_aux_lemma => kernel_rfl) 23 (.tmp 8) rfl 0 (by as_aux_lemma => kernel_rfl) (kArr RF) (part_all _) _ Tryd.underlying23 rfl (by as_aux_lemma => kernel_rfl)) ?_
  clear F; intro a F
  refine T_val F H (by as_aux_lemma => kernel_rfl) (.agg (kArr RF)) (R_load (own := true) (g := aq4) (all := (kArr RF)) (t := 23) (fr := (0, 0)) 4 (by as_aux_lemma => kernel_rfl) 23 (.tmp 9) rfl 0 (by as_aux_lemma => kernel_rfl) (kArr RF) (part_all _) _ Tryd.underlying23 rfl (by as_aux_lemma => kernel_rfl)) ?_
  clear F; intro a F
  refine T_val F H (by as_aux_lemma => kernel_rfl) (.bool true) (fun w _ => R_same (x := (.tmp 48)) (y := (.tmp 49)) rfl RF (by as_aux_lemma => kernel_rfl) (by as_aux_lemma => kernel_rfl) w) ?_
  clear F; intro a F
  refine T_val F H (by as_aux_lemma => kernel_rfl) (.bool true) (fun _ _ => by as_aux_lemma => kernel_rfl) ?_
  clear F; intro a F
  refine T_val F H (by as_aux_lemma => kernel_rfl) (.bool true) (fun _ _ => by as_aux_lemma => kernel_rfl) ?_
  clear F; intro a F
  refine T_val F H (by as_aux_lemma => kernel_rfl) (.agg (kArr RF)) (R_load (own := true) (g := aq3) (all := (kArr RF)) (t := 23) (fr := (0, 0)) 5 (by as_aux_lemma => kernel_rfl) 23 (.tmp 8) rfl 0 (by as_aux_lemma => kernel_rfl) (kArr RF) (part_all _) _ Tryd.underlying23 rfl (by as_aux_lemma => kernel_rfl)) ?_
  clear F; intro a F
  refine T_val F H (by as_aux_lemma => kernel_rfl) (.agg (kArr RF)) (R_load (own := true) (g := aq6) (all := (kArr RF)) (t := 23) (fr := (0, 0)) 2 (by as_aux_lemma => kernel_rfl) 23 (.tmp 11) rfl 0 (by as_aux_lemma => kernel_rfl) (kArr RF) (part_all _) _ Tryd.underlying23 rfl (by as_aux_lemma => kernel_rfl)) ?_
  clear F; intro a F
  refine T_val F H (by as_aux_lemma => kernel_rfl) (.bool true) (fun w _ => R_same (x := (.tmp 53)) (y := (.tmp 54)) rfl RF (by as_aux_lemma => kernel_rfl) (by as_aux_lemma => kernel_rfl) w) ?_
  clear F; intro a F
  refine T_val F H (by as_aux_lemma => kernel_rfl) (.bool true) (fun _ _ => by as_aux_lemma => kernel_rfl) ?_
  clear F; intro a F
  refine T_val F H (by as_aux_lemma => kernel_rfl) (.bool true) (fun _ _ => by as_aux_lemma => kernel_rfl) ?_
  clear F; intro a F
  refine T_val F H (by as_aux_lemma => kernel_rfl) (.agg (kArr RF)) (R_load (own := true) (g := aq3) (all := (kArr RF)) (t := 23) (fr := (0, 0)) 5 (by as_aux_lemma => kernel_rfl) 23 (.tmp 8) rfl 0 (by as_aux_lemma => kernel_rfl) (kArr RF) (part_all _) _ Tryd.underlying23 rfl (by as_aux_lemma => kernel_rfl)) ?_
  clear F; intro a F
  refine T_val F H (by as_aux_lemma => kernel_rfl) (.agg (kArr RF)) (R_load (own := true) (g := aq8) (all := (kArr RF)) (t := 23) (fr := (0, 0)) 0 (by as_aux_lemma => kernel_rfl) 23 (.tmp 13) rfl 0 (by as_aux_lemma => kernel_rfl) (kArr RF) (part_all _) _ Tryd.underlying23 rfl (by as_aux_lemma => kernel_rfl)) ?_
  clear F; intro a F
  refine T_val F H (by as_aux_lemma => kernel_rfl) (.bool true) (fun w _ => R_same (x := (.tmp 58)) (y := (.tmp 59)) rfl RF (by as_aux_lemma => kernel_rfl) (by as_aux_lemma => kernel_rfl) w) ?_
  clear F; intro a F
  refine T_val F H (by as_aux_lemma => kernel_rfl) (.bool true) (fun _ _ => by as_aux_lemma => kernel_rfl) ?_
  clear F; intro a F
  refine T_val F H (by as_aux_lemma => kernel_rfl) (.bool true) (fun _ _ => by as_aux_lemma => kernel_rfl) ?_
  clear F; intro a F
  refine T_end (hK _ _ ?_)
  clear hK K
  refine wp_ret ?_
  exact C_ret F H (rs := [.tmp 6]) rfl (vs := [.bool true]) (.tmp rfl .nil) (.bool true) rfl ⟨rfl, H.kept.below⟩

end Go.Proofs.YtdmioipdmdmkhaaDoor
