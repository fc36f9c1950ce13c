/- LadderPairs: the walk, by rules. -/
import Derived.Test.YtdmioipdmdmkhaaDoorFC
set_option linter.unusedVariables false
set_option linter.unusedSimpArgs false
namespace Go.Proofs.YtdmioipdmdmkhaaDoor
open Go.RowKit
set_option maxRecDepth 100000 in
set_option maxHeartbeats 4000000 in
theorem ladderPairs_any (f : Nat → Nat) (hf : ∀ b, b < 32 → f b < 256) (g : Nat → Nat) (hg : ∀ b, b < 32 → g b < 256) (w : World) (h4 : Four w) : Calls Tryd.prog 16 #[.agg (kArr f), .agg (kArr g)] w fun e w' => e = .returned (.bool true) ∧ Below w.heap.size w w' := by
  have h4p := h4.pos
  have dw := fun w h => awake07_any w h
  have e3 := fun w => rmult_any f hf g hg w
  have ds := fun b q o0 o1 w h hb => shared_any b f hf g hg q o0 o1 w h hb
  have dp := fun w => rpublic_any f hf w
  have dq := fun w h => public_any f hf w h
  obtain ⟨RA, hRA⟩ : ∃ RA, byteOf (sharedN f nineF) = RA := ⟨_, rfl⟩
  rw [hRA] at dp dq
  have d1 := fun b hb4 q w h hb => pubP_first b hb4 f hf RA hRA q w h hb
  have d2 := fun b hb4 q w h hb => pubP_again b hb4 f hf RA hRA q w h hb
  generalize multK f g = MK at ds e3
  generalize multE f g = ME at ds e3
  refine C_enter Tryd.func16 rfl 70 Tryd.ntmps16 (Nat.le_of_ble_eq_true rfl) (fun a F => ?_)
  have H := Hp.start [] w
  replace F : Fm 70 [] [(0, .agg (kArr f)), (1, .agg (kArr g))] a := F.weak _ (⟨rfl, ⟨rfl, trivial⟩⟩)
  refine C_seqK (fun K hK => ?_)
  refine C_region ?_
  refine T_new F H (by as_aux_lemma => kernel_rfl) (fun ad => .pointer (some ⟨ad, 0, none⟩)) (.cells (kArr f) 23 (0, 0)) (fun w => by as_aux_lemma => kernel_rfl) ?_
  clear F H; intro aq1 a v F H
  refine T_new F H (by as_aux_lemma => kernel_rfl) (fun ad => .pointer (some ⟨ad, 0, none⟩)) (.cells (kArr g) 23 (0, 0)) (fun w => by as_aux_lemma => kernel_rfl) ?_
  clear F H; intro aq2 a v F H
  refine T_val F H (by as_aux_lemma => kernel_rfl) (.bool false) (fun _ _ => by as_aux_lemma => kernel_rfl) ?_
  clear F; intro a F
  refine T_end (hK _ _ ?_)
  clear hK K
  refine C_seqK (fun K hK => ?_)
  refine C_region ?_
  refine T_call F H (by as_aux_lemma => kernel_rfl) 38 #[] (.bool true) (fun w => by as_aux_lemma => kernel_rfl) (Calls.kept (dw _ (h4.below h4p H.kept.below))) ?_
  clear F H; intro a v F H
  refine T_val F H (by as_aux_lemma => kernel_rfl) (.bool true) (fun _ _ => by as_aux_lemma => kernel_rfl) ?_
  clear F; intro a F
  refine T_end (hK _ _ ?_)
  clear hK K
  refine C_seqK (fun K hK => ?_)
  refine C_region ?_
  refine T_val F H (by as_aux_lemma => kernel_rfl) (.agg (kArr f)) (R_load (own := true) (g := aq1) (all := (kArr f)) (t := 23) (fr := (0, 0)) 1 (by as_aux_lemma => kernel_rfl) 23 (.tmp 2) rfl 0 (by as_aux_lemma => kernel_rfl) (kArr f) (part_all _) _ Tryd.underlying23 rfl (by as_aux_lemma => kernel_rfl)) ?_
  clear F; intro a F
  refine T_callR F (by as_aux_lemma => kernel_rfl) 45 #[.agg (kArr f)] (fun x w' => ∃ b, x = .pointer (some ⟨b, 0, none⟩) ∧ b ≠ 0 ∧ Hp [] w (⟨true, b, .cells (pairA f zeroF 0 0) 99 (0, 0)⟩ :: [⟨true, aq2, .cells (kArr g) 23 (0, 0)⟩, ⟨true, aq1, .cells (kArr f) 23 (0, 0)⟩]) w') (fun w => by as_aux_lemma => kernel_rfl) ((newPair_any f _).mono fun e w' ⟨b, he, hle, hn, hk⟩ => ⟨_, he, b, rfl, (by have h1 := H.kept.size; omega), H.add hk hle hn⟩) ?_
  clear F H; intro x a v F ⟨b, hx, hb4, H⟩
  subst hx
  refine T_val F H (by as_aux_lemma => kernel_rfl) (.pointer (some ⟨b, 0, none⟩)) (fun _ _ => by as_aux_lemma => kernel_rfl) ?_
  clear F; intro a F
  refine T_end (hK _ _ ?_)
  clear hK K
  refine C_seqK (fun K hK => ?_)
  refine C_seqK (fun K hK => ?_)
  refine C_region ?_
  refine T_val F H (by as_aux_lemma => kernel_rfl) (.pointer (some ⟨b, 0, none⟩)) (fun _ _ => by as_aux_lemma => kernel_rfl) ?_
  clear F; intro a F
  refine T_val F H (by as_aux_lemma => kernel_rfl) (.bool false) (fun _ _ => by as_aux_lemma => kernel_rfl) ?_
  clear F; intro a F
  refine T_end (hK _ _ ?_)
  clear hK K
  refine C_if F false rfl rfl ?_
  refine wp_skip ?_
  refine hK _ _ ?_
  clear hK K
  refine C_seqK (fun K hK => ?_)
  refine C_region ?_
  refine T_val F H (by as_aux_lemma => kernel_rfl) (.pointer (some ⟨b, 0, none⟩)) (fun _ _ => by as_aux_lemma => kernel_rfl) ?_
  clear F; intro a F
  refine T_val F H (by as_aux_lemma => kernel_rfl) (.agg (kArr g)) (R_load (own := true) (g := aq2) (all := (kArr g)) (t := 23) (fr := (0, 0)) 1 (by as_aux_lemma => kernel_rfl) 23 (.tmp 3) rfl 0 (by as_aux_lemma => kernel_rfl) (kArr g) (part_all _) _ Tryd.underlying23 rfl (by as_aux_lemma => kernel_rfl)) ?_
  clear F; intro a F
  refine T_call F H (by as_aux_lemma => kernel_rfl) 46 #[.pointer (some ⟨b, 0, none⟩), .agg (kArr g)] (.tuple #[.agg (kArr MK), .int .i64 ME]) (fun w => by as_aux_lemma => kernel_rfl) (Calls.kept (ds b zeroF _ _ _ (h4.below h4p H.kept.below) (H.at_ (k := 0) rfl))) ?_
  clear F H; intro a v F H
  refine T_val F H (by as_aux_lemma => kernel_rfl) (.tuple #[.agg (kArr MK), .int .i64 ME]) (fun _ _ => by as_aux_lemma => kernel_rfl) ?_
  clear F; intro a F
  refine T_val F H (by as_aux_lemma => kernel_rfl) (.agg (kArr MK)) (fun _ _ => by as_aux_lemma => kernel_rfl) ?_
  clear F; intro a F
  refine T_val F H (by as_aux_lemma => kernel_rfl) (.int .i64 ME) (fun _ _ => by as_aux_lemma => kernel_rfl) ?_
  clear F; intro a F
  refine T_new F H (by as_aux_lemma => kernel_rfl) (fun ad => .pointer (some ⟨ad, 0, none⟩)) (.cells #[.int .u8 0, .int .u8 0, .int .u8 0, .int .u8 0, .int .u8 0, .int .u8 0, .int .u8 0, .int .u8 0, .int .u8 0, .int .u8 0, .int .u8 0, .int .u8 0, .int .u8 0, .int .u8 0, .int .u8 0, .int .u8 0, .int .u8 0, .int .u8 0, .int .u8 0, .int .u8 0, .int .u8 0, .int .u8 0, .int .u8 0, .int .u8 0, .int .u8 0, .int .u8 0, .int .u8 0, .int .u8 0, .int .u8 0, .int .u8 0, .int .u8 0, .int .u8 0] 23 (0, 0)) (fun w => by as_aux_lemma => kernel_rfl) ?_
  clear F H; intro aq3 a v F H
  refine T_set F H (by as_aux_lemma => kernel_rfl) rfl 0 rfl (kArr MK) (S_row 0 rfl 23 (.tmp 7) (.tmp 23) rfl (by as_aux_lemma => kernel_rfl) (kArr MK) (by as_aux_lemma => kernel_rfl) (by as_aux_lemma => kernel_rfl) (by as_aux_lemma => kernel_rfl) (by as_aux_lemma => kernel_rfl)) [⟨true, aq3, .cells (kArr MK) 23 (0, 0)⟩, ⟨true, b, .cells (pairA f zeroF 0 0) 99 (0, 0)⟩, ⟨true, aq2, .cells (kArr g) 23 (0, 0)⟩, ⟨true, aq1, .cells (kArr f) 23 (0, 0)⟩] rfl ?_
  clear F H; intro a v F H
  refine T_val F H (by as_aux_lemma => kernel_rfl) (.int .i64 ME) (fun _ _ => by as_aux_lemma => kernel_rfl) ?_
  clear F; intro a F
  refine T_end (hK _ _ ?_)
  clear hK K
  refine C_seqK (fun K hK => ?_)
  refine C_region ?_
  refine T_val F H (by as_aux_lemma => kernel_rfl) (.pointer (some ⟨b, 0, none⟩)) (fun _ _ => by as_aux_lemma => kernel_rfl) ?_
  clear F; intro a F
  refine T_callP F H (by as_aux_lemma => kernel_rfl) 47 #[.pointer (some ⟨b, 0, none⟩)] (.agg (kArr RA)) 1 rfl (fun w => by as_aux_lemma => kernel_rfl) (fun w hL hg hk => d1 b hb4 zeroF w (h4.below h4p hk.below) hg) [⟨true, aq3, .cells (kArr MK) 23 (0, 0)⟩, ⟨true, b, .cells (pairA f RA 1 0) 99 (0, 0)⟩, ⟨true, aq2, .cells (kArr g) 23 (0, 0)⟩, ⟨true, aq1, .cells (kArr f) 23 (0, 0)⟩] rfl ?_
  clear F H; intro a v F H
  refine T_new F H (by as_aux_lemma => kernel_rfl) (fun ad => .pointer (some ⟨ad, 0, none⟩)) (.cells #[.int .u8 0, .int .u8 0, .int .u8 0, .int .u8 0, .int .u8 0, .int .u8 0, .int .u8 0, .int .u8 0, .int .u8 0, .int .u8 0, .int .u8 0, .int .u8 0, .int .u8 0, .int .u8 0, .int .u8 0, .int .u8 0, .int .u8 0, .int .u8 0, .int .u8 0, .int .u8 0, .int .u8 0, .int .u8 0, .int .u8 0, .int .u8 0, .int .u8 0, .int .u8 0, .int .u8 0, .int .u8 0, .int .u8 0, .int .u8 0, .int .u8 0, .int .u8 0] 23 (0, 0)) (fun w => by as_aux_lemma => kernel_rfl) ?_
  clear F H; intro aq4 a v F H
  refine T_set F H (by as_aux_lemma => kernel_rfl) rfl 0 rfl (kArr RA) (S_row 0 rfl 23 (.tmp 9) (.tmp 26) rfl (by as_aux_lemma => kernel_rfl) (kArr RA) (by as_aux_lemma => kernel_rfl) (by as_aux_lemma => kernel_rfl) (by as_aux_lemma => kernel_rfl) (by as_aux_lemma => kernel_rfl)) [⟨true, aq4, .cells (kArr RA) 23 (0, 0)⟩, ⟨true, aq3, .cells (kArr MK) 23 (0, 0)⟩, ⟨true, b, .cells (pairA f RA 1 0) 99 (0, 0)⟩, ⟨true, aq2, .cells (kArr g) 23 (0, 0)⟩, ⟨true, aq1, .cells (kArr f) 23 (0, 0)⟩] rfl ?_
  clear F H; intro a v F H
  refine T_end (hK _ _ ?_)
  clear hK K
  refine C_seqK (fun K hK => ?_)
  refine C_region ?_
  refine T_val F H (by as_aux_lemma => kernel_rfl) (.pointer (some ⟨b, 0, none⟩)) (fun _ _ => by as_aux_lemma => kernel_rfl) ?_
  clear F; intro a F
  refine T_callP F H (by as_aux_lemma => kernel_rfl) 47 #[.pointer (some ⟨b, 0, none⟩)] (.agg (kArr RA)) 2 rfl (fun w => by as_aux_lemma => kernel_rfl) (fun w hL hg hk => d2 b hb4 RA w (h4.below h4p hk.below) hg) [⟨true, aq4, .cells (kArr RA) 23 (0, 0)⟩, ⟨true, aq3, .cells (kArr MK) 23 (0, 0)⟩, ⟨true, b, .cells (pairA f RA 1 0) 99 (0, 0)⟩, ⟨true, aq2, .cells (kArr g) 23 (0, 0)⟩, ⟨true, aq1, .cells (kArr f) 23 (0, 0)⟩] rfl ?_
  clear F H; intro a v F H
  refine T_new F H (by as_aux_lemma => kernel_rfl) (fun ad => .pointer (some ⟨ad, 0, none⟩)) (.cells #[.int .u8 0, .int .u8 0, .int .u8 0, .int .u8 0, .int .u8 0, .int .u8 0, .int .u8 0, .int .u8 0, .int .u8 0, .int .u8 0, .int .u8 0, .int .u8 0, .int .u8 0, .int .u8 0, .int .u8 0, .int .u8 0, .int .u8 0, .int .u8 0, .int .u8 0, .int .u8 0, .int .u8 0, .int .u8 0, .int .u8 0, .int .u8 0, .int .u8 0, .int .u8 0, .int .u8 0, .int .u8 0, .int .u8 0, .int .u8 0, .int .u8 0, .int .u8 0] 23 (0, 0)) (fun w => by as_aux_lemma => kernel_rfl) ?_
  clear F H; intro aq5 a v F H
  refine T_set F H (by as_aux_lemma => kernel_rfl) rfl 0 rfl (kArr RA) (S_row 0 rfl 23 (.tmp 10) (.tmp 28) rfl (by as_aux_lemma => kernel_rfl) (kArr RA) (by as_aux_lemma => kernel_rfl) (by as_aux_lemma => kernel_rfl) (by as_aux_lemma => kernel_rfl) (by as_aux_lemma => kernel_rfl)) [⟨true, aq5, .cells (kArr RA) 23 (0, 0)⟩, ⟨true, aq4, .cells (kArr RA) 23 (0, 0)⟩, ⟨true, aq3, .cells (kArr MK) 23 (0, 0)⟩, ⟨true, b, .cells (pairA f RA 1 0) 99 (0, 0)⟩, ⟨true, aq2, .cells (kArr g) 23 (0, 0)⟩, ⟨true, aq1, .cells (kArr f) 23 (0, 0)⟩] rfl ?_
  clear F H; intro a v F H
  refine T_end (hK _ _ ?_)
  clear hK K
  refine C_seqK (fun K hK => ?_)
  refine C_region ?_
  refine T_val F H (by as_aux_lemma => kernel_rfl) (.pointer (some ⟨b, 0, none⟩)) (fun _ _ => by as_aux_lemma => kernel_rfl) ?_
  clear F; intro a F
  refine T_call F H (by as_aux_lemma => kernel_rfl) 48 #[.pointer (some ⟨b, 0, none⟩)] (.agg (kArr f)) (fun w => by as_aux_lemma => kernel_rfl) (Calls.kept (secret_any b f RA _ _ _ (H.at_ (k := 3) rfl))) ?_
  clear F H; intro a v F H
  refine T_new F H (by as_aux_lemma => kernel_rfl) (fun ad => .pointer (some ⟨ad, 0, none⟩)) (.cells #[.int .u8 0, .int .u8 0, .int .u8 0, .int .u8 0, .int .u8 0, .int .u8 0, .int .u8 0, .int .u8 0, .int .u8 0, .int .u8 0, .int .u8 0, .int .u8 0, .int .u8 0, .int .u8 0, .int .u8 0, .int .u8 0, .int .u8 0, .int .u8 0, .int .u8 0, .int .u8 0, .int .u8 0, .int .u8 0, .int .u8 0, .int .u8 0, .int .u8 0, .int .u8 0, .int .u8 0, .int .u8 0, .int .u8 0, .int .u8 0, .int .u8 0, .int .u8 0] 23 (0, 0)) (fun w => by as_aux_lemma => kernel_rfl) ?_
  clear F H; intro aq6 a v F H
  refine T_set F H (by as_aux_lemma => kernel_rfl) rfl 0 rfl (kArr f) (S_row 0 rfl 23 (.tmp 11) (.tmp 30) rfl (by as_aux_lemma => kernel_rfl) (kArr f) (by as_aux_lemma => kernel_rfl) (by as_aux_lemma => kernel_rfl) (by as_aux_lemma => kernel_rfl) (by as_aux_lemma => kernel_rfl)) [⟨true, aq6, .cells (kArr f) 23 (0, 0)⟩, ⟨true, aq5, .cells (kArr RA) 23 (0, 0)⟩, ⟨true, aq4, .cells (kArr RA) 23 (0, 0)⟩, ⟨true, aq3, .cells (kArr MK) 23 (0, 0)⟩, ⟨true, b, .cells (pairA f RA 1 0) 99 (0, 0)⟩, ⟨true, aq2, .cells (kArr g) 23 (0, 0)⟩, ⟨true, aq1, .cells (kArr f) 23 (0, 0)⟩] rfl ?_
  clear F H; intro a v F H
  refine T_end (hK _ _ ?_)
  clear hK K
  refine C_seqK (fun K hK => ?_)
  refine C_region ?_
  refine T_val F H (by as_aux_lemma => kernel_rfl) (.agg (kArr f)) (R_load (own := true) (g := aq1) (all := (kArr f)) (t := 23) (fr := (0, 0)) 6 (by as_aux_lemma => kernel_rfl) 23 (.tmp 2) rfl 0 (by as_aux_lemma => kernel_rfl) (kArr f) (part_all _) _ Tryd.underlying23 rfl (by as_aux_lemma => kernel_rfl)) ?_
  clear F; intro a F
  refine T_val F H (by as_aux_lemma => kernel_rfl) (.agg (kArr g)) (R_load (own := true) (g := aq2) (all := (kArr g)) (t := 23) (fr := (0, 0)) 5 (by as_aux_lemma => kernel_rfl) 23 (.tmp 3) rfl 0 (by as_aux_lemma => kernel_rfl) (kArr g) (part_all _) _ Tryd.underlying23 rfl (by as_aux_lemma => kernel_rfl)) ?_
  clear F; intro a F
  refine T_call F H (by as_aux_lemma => kernel_rfl) 42 #[.agg (kArr f), .agg (kArr g)] (.tuple #[.agg (kArr MK), .int .i64 ME]) (fun w => by as_aux_lemma => kernel_rfl) (Calls.kept (e3 _)) ?_
  clear F H; intro a v F H
  refine T_val F H (by as_aux_lemma => kernel_rfl) (.tuple #[.agg (kArr MK), .int .i64 ME]) (fun _ _ => by as_aux_lemma => kernel_rfl) ?_
  clear F; intro a F
  refine T_val F H (by as_aux_lemma => kernel_rfl) (.agg (kArr MK)) (fun _ _ => by as_aux_lemma => kernel_rfl) ?_
  clear F; intro a F
  refine T_val F H (by as_aux_lemma => kernel_rfl) (.int .i64 ME) (fun _ _ => by as_aux_lemma => kernel_rfl) ?_
  clear F; intro a F
  refine T_new F H (by as_aux_lemma => kernel_rfl) (fun ad => .pointer (some ⟨ad, 0, none⟩)) (.cells #[.int .u8 0, .int .u8 0, .int .u8 0, .int .u8 0, .int .u8 0, .int .u8 0, .int .u8 0, .int .u8 0, .int .u8 0, .int .u8 0, .int .u8 0, .int .u8 0, .int .u8 0, .int .u8 0, .int .u8 0, .int .u8 0, .int .u8 0, .int .u8 0, .int .u8 0, .int .u8 0, .int .u8 0, .int .u8 0, .int .u8 0, .int .u8 0, .int .u8 0, .int .u8 0, .int .u8 0, .int .u8 0, .int .u8 0, .int .u8 0, .int .u8 0, .int .u8 0] 23 (0, 0)) (fun w => by as_aux_lemma => kernel_rfl) ?_
  clear F H; intro aq7 a v F H
  refine T_set F H (by as_aux_lemma => kernel_rfl) rfl 0 rfl (kArr MK) (S_row 0 rfl 23 (.tmp 12) (.tmp 35) rfl (by as_aux_lemma => kernel_rfl) (kArr MK) (by as_aux_lemma => kernel_rfl) (by as_aux_lemma => kernel_rfl) (by as_aux_lemma => kernel_rfl) (by as_aux_lemma => kernel_rfl)) [⟨true, aq7, .cells (kArr MK) 23 (0, 0)⟩, ⟨true, aq6, .cells (kArr f) 23 (0, 0)⟩, ⟨true, aq5, .cells (kArr RA) 23 (0, 0)⟩, ⟨true, aq4, .cells (kArr RA) 23 (0, 0)⟩, ⟨true, aq3, .cells (kArr MK) 23 (0, 0)⟩, ⟨true, b, .cells (pairA f RA 1 0) 99 (0, 0)⟩, ⟨true, aq2, .cells (kArr g) 23 (0, 0)⟩, ⟨true, aq1, .cells (kArr f) 23 (0, 0)⟩] rfl ?_
  clear F H; intro a v F H
  refine T_val F H (by as_aux_lemma => kernel_rfl) (.int .i64 ME) (fun _ _ => by as_aux_lemma => kernel_rfl) ?_
  clear F; intro a F
  refine T_end (hK _ _ ?_)
  clear hK K
  refine C_seqK (fun K hK => ?_)
  refine D_region F H (fun β => [(37, .bool true), (38, .bool true), (39, .agg (kArr MK)), (40, .agg (kArr MK)), (41, .bool true), (42, .bool true), (43, .bool true), (44, .int .i64 ME), (45, .int .i64 ME), (46, .bool true), (47, .bool true), (48, .bool true), (49, .agg (kArr RA)), (50, .agg (kArr f)), (51, .agg (kArr RA)), (52, .bool true), (53, .bool true), (54, .bool true), (55, .agg (kArr RA)), (56, .agg (kArr RA)), (57, .bool true), (58, .bool true), (59, .bool true), (60, .agg (kArr f)), (61, .agg (kArr f)), (62, .bool true), (63, .bool true), (64, .bool true), (65, .agg (kArr RA)), (66, .agg (kArr f)), (67, .agg (kArr RA)), (68, .bool true), (69, .bool true), (4, .bool true)]) [37, 38, 39, 40, 41, 42, 43, 44, 45, 46, 47, 48, 49, 50, 51, 52, 53, 54, 55, 56, 57, 58, 59, 60, 61, 62, 63, 64, 65, 66, 67, 68, 69, 4] [] [] [⟨true, aq7, .cells (kArr MK) 23 (0, 0)⟩, ⟨true, aq6, .cells (kArr f) 23 (0, 0)⟩, ⟨true, aq5, .cells (kArr RA) 23 (0, 0)⟩, ⟨true, aq4, .cells (kArr RA) 23 (0, 0)⟩, ⟨true, aq3, .cells (kArr MK) 23 (0, 0)⟩, ⟨true, b, .cells (pairA f RA 1 0) 99 (0, 0)⟩, ⟨true, aq2, .cells (kArr g) 23 (0, 0)⟩, ⟨true, aq1, .cells (kArr f) 23 (0, 0)⟩] [0, 1, 2, 3, 4, 5, 6, 7] (by as_aux_lemma => kernel_rfl) (by as_aux_lemma => kernel_rfl) (by as_aux_lemma => kernel_rfl) (fun β => rfl) (fun fit => ⟨?_, ?_, ?_, ?_, ?_, ?_, ?_, ?_, ?_, ?_, ?_, ?_, ?_, ?_, ?_, ?_, ?_, ?_, ?_, ?_, ?_, ?_, ?_, ?_, ?_, ?_, ?_, ?_, ?_, ?_, ?_, ?_, ?_, ?_, trivial⟩) ?_
  · exact D_val 70 (fun β => by as_aux_lemma => kernel_rfl) (fun β => .bool true) 37 rfl (fun β => by as_aux_lemma => kernel_rfl) (fun β _ _ => by as_aux_lemma => kernel_rfl) (by as_aux_lemma => kernel_rfl)
  · exact D_val 70 (fun β => by as_aux_lemma => kernel_rfl) (fun β => .bool true) 38 rfl (fun β => by as_aux_lemma => kernel_rfl) (fun β _ _ => by as_aux_lemma => kernel_rfl) (by as_aux_lemma => kernel_rfl)
  · exact D_val 70 (fun β => by as_aux_lemma => kernel_rfl) (fun β => .agg (kArr MK)) 39 rfl (fun β => by as_aux_lemma => kernel_rfl) (fun β => R_load (own := true) (g := aq3) (all := (kArr MK)) (t := 23) (fr := (0, 0)) 4 (by as_aux_lemma => kernel_rfl) 23 (.tmp 7) rfl 0 (by as_aux_lemma => kernel_rfl) (kArr MK) (part_all _) _ Tryd.underlying23 rfl (by as_aux_lemma => kernel_rfl)) (by as_aux_lemma => kernel_rfl)
  · exact D_val 70 (fun β => by as_aux_lemma => kernel_rfl) (fun β => .agg (kArr MK)) 40 rfl (fun β => by as_aux_lemma => kernel_rfl) (fun β => R_load (own := true) (g := aq7) (all := (kArr MK)) (t := 23) (fr := (0, 0)) 0 (by as_aux_lemma => kernel_rfl) 23 (.tmp 12) rfl 0 (by as_aux_lemma => kernel_rfl) (kArr MK) (part_all _) _ Tryd.underlying23 rfl (by as_aux_lemma => kernel_rfl)) (by as_aux_lemma => kernel_rfl)
  · exact D_val 70 (fun β => by as_aux_lemma => kernel_rfl) (fun β => .bool true) 41 rfl (fun β => by as_aux_lemma => kernel_rfl) (fun β w _ => R_same (x := (.tmp 39)) (y := (.tmp 40)) rfl MK (by as_aux_lemma => kernel_rfl) (by as_aux_lemma => kernel_rfl) w) (by as_aux_lemma => kernel_rfl)
  · exact D_val 70 (fun β => by as_aux_lemma => kernel_rfl) (fun β => .bool true) 42 rfl (fun β => by as_aux_lemma => kernel_rfl) (fun β _ _ => by as_aux_lemma => kernel_rfl) (by as_aux_lemma => kernel_rfl)
  · exact D_val 70 (fun β => by as_aux_lemma => kernel_rfl) (fun β => .bool true) 43 rfl (fun β => by as_aux_lemma => kernel_rfl) (fun β _ _ => by as_aux_lemma => kernel_rfl) (by as_aux_lemma => kernel_rfl)
  · exact D_val 70 (fun β => by as_aux_lemma => kernel_rfl) (fun β => .int .i64 ME) 44 rfl (fun β => by as_aux_lemma => kernel_rfl) (fun β _ _ => by as_aux_lemma => kernel_rfl) (by as_aux_lemma => kernel_rfl)
  · exact D_val 70 (fun β => by as_aux_lemma => kernel_rfl) (fun β => .int .i64 ME) 45 rfl (fun β => by as_aux_lemma => kernel_rfl) (fun β _ _ => by as_aux_lemma => kernel_rfl) (by as_aux_lemma => kernel_rfl)
  · exact D_val 70 (fun β => by as_aux_lemma => kernel_rfl) (fun β => .bool true) 46 rfl (fun β => by as_aux_lemma => kernel_rfl) (fun β w _ => R_bin (x := (.tmp 44)) (y := (.tmp 45)) rfl (k := .i64) (a := ME) (b := ME) (by as_aux_lemma => kernel_rfl) (by as_aux_lemma => kernel_rfl) (i_eq rfl) w) (by as_aux_lemma => kernel_rfl)
  · exact D_val 70 (fun β => by as_aux_lemma => kernel_rfl) (fun β => .bool true) 47 rfl (fun β => by as_aux_lemma => kernel_rfl) (fun β _ _ => by as_aux_lemma => kernel_rfl) (by as_aux_lemma => kernel_rfl)
  · exact D_val 70 (fun β => by as_aux_lemma => kernel_rfl) (fun β => .bool true) 48 rfl (fun β => by as_aux_lemma => kernel_rfl) (fun β _ _ => by as_aux_lemma => kernel_rfl) (by as_aux_lemma => kernel_rfl)
  · exact D_val 70 (fun β => by as_aux_lemma => kernel_rfl) (fun β => .agg (kArr RA)) 49 rfl (fun β => by as_aux_lemma => kernel_rfl) (fun β => R_load (own := true) (g := aq4) (all := (kArr RA)) (t := 23) (fr := (0, 0)) 3 (by as_aux_lemma => kernel_rfl) 23 (.tmp 9) rfl 0 (by as_aux_lemma => kernel_rfl) (kArr RA) (part_all _) _ Tryd.underlying23 rfl (by as_aux_lemma => kernel_rfl)) (by as_aux_lemma => kernel_rfl)
  · exact D_val 70 (fun β => by as_aux_lemma => kernel_rfl) (fun β => .agg (kArr f)) 50 rfl (fun β => by as_aux_lemma => kernel_rfl) (fun β => R_load (own := true) (g := aq1) (all := (kArr f)) (t := 23) (fr := (0, 0)) 7 (by as_aux_lemma => kernel_rfl) 23 (.tmp 2) rfl 0 (by as_aux_lemma => kernel_rfl) (kArr f) (part_all _) _ Tryd.underlying23 rfl (by as_aux_lemma => kernel_rfl)) (by as_aux_lemma => kernel_rfl)
  · exact D_call 70 (fun β => by as_aux_lemma => kernel_rfl) (fun β => .agg (kArr RA)) 51 rfl (fun β => by as_aux_lemma => kernel_rfl) 49 (fun β => #[.agg (kArr f)]) (fun β w => by as_aux_lemma => kernel_rfl) (fun β w hk => Calls.kept (dp _)) (by as_aux_lemma => kernel_rfl)
  · exact D_val 70 (fun β => by as_aux_lemma => kernel_rfl) (fun β => .bool true) 52 rfl (fun β => by as_aux_lemma => kernel_rfl) (fun β w _ => R_same (x := (.tmp 49)) (y := (.tmp 51)) rfl RA (by as_aux_lemma => kernel_rfl) (by as_aux_lemma => kernel_rfl) w) (by as_aux_lemma => kernel_rfl)
  · exact D_val 70 (fun β => by as_aux_lemma => kernel_rfl) (fun β => .bool true) 53 rfl (fun β => by as_aux_lemma => kernel_rfl) (fun β _ _ => by as_aux_lemma => kernel_rfl) (by as_aux_lemma => kernel_rfl)
  · exact D_val 70 (fun β => by as_aux_lemma => kernel_rfl) (fun β => .bool true) 54 rfl (fun β => by as_aux_lemma => kernel_rfl) (fun β _ _ => by as_aux_lemma => kernel_rfl) (by as_aux_lemma => kernel_rfl)
  · exact D_val 70 (fun β => by as_aux_lemma => kernel_rfl) (fun β => .agg (kArr RA)) 55 rfl (fun β => by as_aux_lemma => kernel_rfl) (fun β => R_load (own := true) (g := aq4) (all := (kArr RA)) (t := 23) (fr := (0, 0)) 3 (by as_aux_lemma => kernel_rfl) 23 (.tmp 9) rfl 0 (by as_aux_lemma => kernel_rfl) (kArr RA) (part_all _) _ Tryd.underlying23 rfl (by as_aux_lemma => kernel_rfl)) (by as_aux_lemma => kernel_rfl)
  · exact D_val 70 (fun β => by as_aux_lemma => kernel_rfl) (fun β => .agg (kArr RA)) 56 rfl (fun β => by as_aux_lemma => kernel_rfl) (fun β => R_load (own := true) (g := aq5) (all := (kArr RA)) (t := 23) (fr := (0, 0)) 2 (by as_aux_lemma => kernel_rfl) 23 (.tmp 10) rfl 0 (by as_aux_lemma => kernel_rfl) (kArr RA) (part_all _) _ Tryd.underlying23 rfl (by as_aux_lemma => kernel_rfl)) (by as_aux_lemma => kernel_rfl)
  · exact D_val 70 (fun β => by as_aux_lemma => kernel_rfl) (fun β => .bool true) 57 rfl (fun β => by as_aux_lemma => kernel_rfl) (fun β w _ => R_same (x := (.tmp 55)) (y := (.tmp 56)) rfl RA (by as_aux_lemma => kernel_rfl) (by as_aux_lemma => kernel_rfl) w) (by as_aux_lemma => kernel_rfl)
  · exact D_val 70 (fun β => by as_aux_lemma => kernel_rfl) (fun β => .bool true) 58 rfl (fun β => by as_aux_lemma => kernel_rfl) (fun β _ _ => by as_aux_lemma => kernel_rfl) (by as_aux_lemma => kernel_rfl)
  · exact D_val 70 (fun β => by as_aux_lemma => kernel_rfl) (fun β => .bool true) 59 rfl (fun β => by as_aux_lemma => kernel_rfl) (fun β _ _ => by as_aux_lemma => kernel_rfl) (by as_aux_lemma => kernel_rfl)
  · exact D_val 70 (fun β => by as_aux_lemma => kernel_rfl) (fun β => .agg (kArr f)) 60 rfl (fun β => by as_aux_lemma => kernel_rfl) (fun β => R_load (own := true) (g := aq6) (all := (kArr f)) (t := 23) (fr := (0, 0)) 1 (by as_aux_lemma => kernel_rfl) 23 (.tmp 11) rfl 0 (by as_aux_lemma => kernel_rfl) (kArr f) (part_all _) _ Tryd.underlying23 rfl (by as_aux_lemma => kernel_rfl)) (by as_aux_lemma => kernel_rfl)
  · exact D_val 70 (fun β => by as_aux_lemma => kernel_rfl) (fun β => .agg (kArr f)) 61 rfl (fun β => by as_aux_lemma => kernel_rfl) (fun β => R_load (own := true) (g := aq1) (all := (kArr f)) (t := 23) (fr := (0, 0)) 7 (by as_aux_lemma => kernel_rfl) 23 (.tmp 2) rfl 0 (by as_aux_lemma => kernel_rfl) (kArr f) (part_all _) _ Tryd.underlying23 rfl (by as_aux_lemma => kernel_rfl)) (by as_aux_lemma => kernel_rfl)
  · exact D_val 70 (fun β => by as_aux_lemma => kernel_rfl) (fun β => .bool true) 62 rfl (fun β => by as_aux_lemma => kernel_rfl) (fun β w _ => R_same (x := (.tmp 60)) (y := (.tmp 61)) rfl f (by as_aux_lemma => kernel_rfl) (by as_aux_lemma => kernel_rfl) w) (by as_aux_lemma => kernel_rfl)
  · exact D_val 70 (fun β => by as_aux_lemma => kernel_rfl) (fun β => .bool true) 63 rfl (fun β => by as_aux_lemma => kernel_rfl) (fun β _ _ => by as_aux_lemma => kernel_rfl) (by as_aux_lemma => kernel_rfl)
  · exact D_val 70 (fun β => by as_aux_lemma => kernel_rfl) (fun β => .bool true) 64 rfl (fun β => by as_aux_lemma => kernel_rfl) (fun β _ _ => by as_aux_lemma => kernel_rfl) (by as_aux_lemma => kernel_rfl)
  · exact D_val 70 (fun β => by as_aux_lemma => kernel_rfl) (fun β => .agg (kArr RA)) 65 rfl (fun β => by as_aux_lemma => kernel_rfl) (fun β => R_load (own := true) (g := aq4) (all := (kArr RA)) (t := 23) (fr := (0, 0)) 3 (by as_aux_lemma => kernel_rfl) 23 (.tmp 9) rfl 0 (by as_aux_lemma => kernel_rfl) (kArr RA) (part_all _) _ Tryd.underlying23 rfl (by as_aux_lemma => kernel_rfl)) (by as_aux_lemma => kernel_rfl)
  · exact D_val 70 (fun β => by as_aux_lemma => kernel_rfl) (fun β => .agg (kArr f)) 66 rfl (fun β => by as_aux_lemma => kernel_rfl) (fun β => R_load (own := true) (g := aq1) (all := (kArr f)) (t := 23) (fr := (0, 0)) 7 (by as_aux_lemma => kernel_rfl) 23 (.tmp 2) rfl 0 (by as_aux_lemma => kernel_rfl) (kArr f) (part_all _) _ Tryd.underlying23 rfl (by as_aux_lemma => kernel_rfl)) (by as_aux_lemma => kernel_rfl)
  · exact D_call 70 (fun β => by as_aux_lemma => kernel_rfl) (fun β => .agg (kArr RA)) 67 rfl (fun β => by as_aux_lemma => kernel_rfl) 50 (fun β => #[.agg (kArr f)]) (fun β w => by as_aux_lemma => kernel_rfl) (fun β w hk => Calls.kept (dq _ (h4.below h4p hk.below))) (by as_aux_lemma => kernel_rfl)
  · exact D_val 70 (fun β => by as_aux_lemma => kernel_rfl) (fun β => .bool true) 68 rfl (fun β => by as_aux_lemma => kernel_rfl) (fun β w _ => R_same (x := (.tmp 65)) (y := (.tmp 67)) rfl RA (by as_aux_lemma => kernel_rfl) (by as_aux_lemma => kernel_rfl) w) (by as_aux_lemma => kernel_rfl)
  · exact D_val 70 (fun β => by as_aux_lemma => kernel_rfl) (fun β => .bool true) 69 rfl (fun β => by as_aux_lemma => kernel_rfl) (fun β _ _ => by as_aux_lemma => kernel_rfl) (by as_aux_lemma => kernel_rfl)
  · exact D_val 70 (fun β => by as_aux_lemma => kernel_rfl) (fun β => .bool true) 4 rfl (fun β => by as_aux_lemma => kernel_rfl) (fun β _ _ => by as_aux_lemma => kernel_rfl) (by as_aux_lemma => kernel_rfl)
  clear F H; intro β a v F H
  replace H : Hp [] w [⟨true, aq7, .cells (kArr MK) 23 (0, 0)⟩, ⟨true, aq6, .cells (kArr f) 23 (0, 0)⟩, ⟨true, aq5, .cells (kArr RA) 23 (0, 0)⟩, ⟨true, aq4, .cells (kArr RA) 23 (0, 0)⟩, ⟨true, aq3, .cells (kArr MK) 23 (0, 0)⟩, ⟨true, b, .cells (pairA f RA 1 0) 99 (0, 0)⟩, ⟨true, aq2, .cells (kArr g) 23 (0, 0)⟩, ⟨true, aq1, .cells (kArr f) 23 (0, 0)⟩] v := H
  replace F : Fm 70 [] [(4, .bool true), (69, .bool true), (68, .bool true), (67, .agg (kArr RA)), (66, .agg (kArr f)), (65, .agg (kArr RA)), (64, .bool true), (63, .bool true), (62, .bool true), (61, .agg (kArr f)), (60, .agg (kArr f)), (59, .bool true), (58, .bool true), (57, .bool true), (56, .agg (kArr RA)), (55, .agg (kArr RA)), (54, .bool true), (53, .bool true), (52, .bool true), (51, .agg (kArr RA)), (50, .agg (kArr f)), (49, .agg (kArr RA)), (48, .bool true), (47, .bool true), (46, .bool true), (45, .int .i64 ME), (44, .int .i64 ME), (43, .bool true), (42, .bool true), (41, .bool true), (40, .agg (kArr MK)), (39, .agg (kArr MK)), (38, .bool true), (37, .bool true), (13, .int .i64 ME), (12, .pointer (some ⟨aq7, 0, none⟩)), (36, .int .i64 ME), (35, .agg (kArr MK)), (31, .tuple #[.agg (kArr MK), .int .i64 ME]), (34, .tuple #[.agg (kArr MK), .int .i64 ME]), (33, .agg (kArr g)), (32, .agg (kArr f)), (11, .pointer (some ⟨aq6, 0, none⟩)), (30, .agg (kArr f)), (29, .pointer (some ⟨b, 0, none⟩)), (10, .pointer (some ⟨aq5, 0, none⟩)), (28, .agg (kArr RA)), (27, .pointer (some ⟨b, 0, none⟩)), (9, .pointer (some ⟨aq4, 0, none⟩)), (26, .agg (kArr RA)), (25, .pointer (some ⟨b, 0, none⟩)), (8, .int .i64 ME), (7, .pointer (some ⟨aq3, 0, none⟩)), (24, .int .i64 ME), (23, .agg (kArr MK)), (19, .tuple #[.agg (kArr MK), .int .i64 ME]), (22, .tuple #[.agg (kArr MK), .int .i64 ME]), (21, .agg (kArr g)), (20, .pointer (some ⟨b, 0, none⟩)), (18, .bool false), (17, .pointer (some ⟨b, 0, none⟩)), (6, .pointer (some ⟨b, 0, none⟩)), (16, .pointer (some ⟨b, 0, none⟩)), (15, .agg (kArr f)), (5, .bool true), (14, .bool true), (3, .pointer (some ⟨aq2, 0, none⟩)), (2, .pointer (some ⟨aq1, 0, none⟩)), (0, .agg (kArr f)), (1, .agg (kArr g))] a := F.weak _ (⟨rfl, ⟨rfl, ⟨rfl, ⟨rfl, ⟨rfl, ⟨rfl, ⟨rfl, ⟨rfl, ⟨rfl, ⟨rfl, ⟨rfl, ⟨rfl, ⟨rfl, ⟨rfl, ⟨rfl, ⟨rfl, ⟨rfl, ⟨rfl, ⟨rfl, ⟨rfl, ⟨rfl, ⟨rfl, ⟨rfl, ⟨rfl, ⟨rfl, ⟨rfl, ⟨rfl, ⟨rfl, ⟨rfl, ⟨rfl, ⟨rfl, ⟨rfl, ⟨rfl, ⟨rfl, ⟨rfl, ⟨rfl, ⟨rfl, ⟨rfl, ⟨rfl, ⟨rfl, ⟨rfl, ⟨rfl, ⟨rfl, ⟨rfl, ⟨rfl, ⟨rfl, ⟨rfl, ⟨rfl, ⟨rfl, ⟨rfl, ⟨rfl, ⟨rfl, ⟨rfl, ⟨rfl, ⟨rfl, ⟨rfl, ⟨rfl, ⟨rfl, ⟨rfl, ⟨rfl, ⟨rfl, ⟨rfl, ⟨rfl, ⟨rfl, ⟨rfl, ⟨rfl, ⟨rfl, ⟨rfl, ⟨rfl, ⟨rfl, trivial⟩⟩⟩⟩⟩⟩⟩⟩⟩⟩⟩⟩⟩⟩⟩⟩⟩⟩⟩⟩⟩⟩⟩⟩⟩⟩⟩⟩⟩⟩⟩⟩⟩⟩⟩⟩⟩⟩⟩⟩⟩⟩⟩⟩⟩⟩⟩⟩⟩⟩⟩⟩⟩⟩⟩⟩⟩⟩⟩⟩⟩⟩⟩⟩⟩⟩⟩⟩⟩⟩)
  refine hK _ _ ?_
  clear hK K
  refine wp_ret ?_
  exact C_ret F H (rs := [.tmp 4]) rfl (vs := [.bool true]) (.tmp rfl .nil) (.bool true) rfl ⟨rfl, H.kept.below⟩

end Go.Proofs.YtdmioipdmdmkhaaDoor
