/- LadderOrder: the walk, by rules. -/
import Derived.Test.YtdmioipdmdmkhaaDoorG5
set_option linter.unusedVariables false
set_option linter.unusedSimpArgs false
namespace Go.Proofs.YtdmioipdmdmkhaaDoor
open Go.RowKit
theorem key_num {x : Nat} (hx : x < pr) : kVal (byteOf x) % two255 % pr = x := by
  have hp : pr < 256 ^ 32 := by decide +kernel
  have h2 : pr < two255 := by decide +kernel
  have e : kVal (byteOf x) = x := kNum_bytes x 32 (by omega)
  rw [e, Nat.mod_eq_of_lt (Nat.lt_trans hx h2), Nat.mod_eq_of_lt hx]
set_option maxRecDepth 100000 in
set_option maxHeartbeats 4000000 in
theorem ladderOrder_any (f : Nat → Nat) (hf : ∀ b, b < 32 → f b < 256) (g : Nat → Nat) (hg : ∀ b, b < 32 → g b < 256) (p : Nat → Nat) (hp : ∀ b, b < 32 → p b < 256) (w : World) (h4 : Four w) : Calls Tryd.prog 12 #[.agg (kArr f), .agg (kArr g), .agg (kArr p)] w fun e w' => e = .returned (.bool true) ∧ Below w.heap.size w w' := by
  have h4p := h4.pos
  have dw := fun w h => awake07_any w h
  have hu : kVal p % two255 % pr < pr := Nat.mod_lt _ pr_pos
  have d1 := fun w h => raw_any g hg p hp w h
  have d2 := fun w h => raw_any f hf p hp w h
  have d3 := fun w h => raw_any f hf (byteOf (rawN (clampF g) (kVal p % two255 % pr))) (fun b _ => byteOf_lt _ _) w h
  have d4 := fun w h => raw_any g hg (byteOf (rawN (clampF f) (kVal p % two255 % pr))) (fun b _ => byteOf_lt _ _) w h
  rw [key_num (rawN_lt _ _)] at d3 d4
  rw [← raw_order f g hu] at d4
  generalize byteOf (rawN (clampF f) (rawN (clampF g) (kVal p % two255 % pr))) = RF at d3 d4
  generalize byteOf (rawN (clampF g) (kVal p % two255 % pr)) = RG at d1 d3
  generalize byteOf (rawN (clampF f) (kVal p % two255 % pr)) = RH at d2 d4
  clear hu
  refine C_enter Tryd.func12 rfl 27 Tryd.ntmps12 (Nat.le_of_ble_eq_true rfl) (fun a F => ?_)
  have H := Hp.start [] w
  replace F : Fm 27 [] [(0, .agg (kArr f)), (1, .agg (kArr g)), (2, .agg (kArr p))] a := F.weak _ (⟨rfl, ⟨rfl, ⟨rfl, trivial⟩⟩⟩)
  refine C_seqK (fun K hK => ?_)
  refine C_region ?_
  refine T_new F H (by as_aux_lemma => kernel_rfl) (fun ad => .pointer (some ⟨ad, 0, none⟩)) (.cells (kArr f) 23 (0, 0)) (fun w => by as_aux_lemma => kernel_rfl) ?_
  clear F H; intro aq1 a v F H
  refine T_new F H (by as_aux_lemma => kernel_rfl) (fun ad => .pointer (some ⟨ad, 0, none⟩)) (.cells (kArr g) 23 (0, 0)) (fun w => by as_aux_lemma => kernel_rfl) ?_
  clear F H; intro aq2 a v F H
  refine T_new F H (by as_aux_lemma => kernel_rfl) (fun ad => .pointer (some ⟨ad, 0, none⟩)) (.cells (kArr p) 23 (0, 0)) (fun w => by as_aux_lemma => kernel_rfl) ?_
  clear F H; intro aq3 a v F H
  refine T_val F H (by as_aux_lemma => kernel_rfl) (.bool false) (fun _ _ => by as_aux_lemma => kernel_rfl) ?_
  clear F; intro a F
  refine T_end (hK _ _ ?_)
  clear hK K
  refine C_seqK (fun K hK => ?_)
  refine C_region ?_
  refine T_call F H (by as_aux_lemma => kernel_rfl) 38 #[] (.bool true) (fun w => by as_aux_lemma => kernel_rfl) (Calls.kept (dw _ (h4.below h4p H.kept.below))) ?_
  clear F H; intro a v F H
  refine T_val F H (by as_aux_lemma => kernel_rfl) (.bool true) (fun _ _ => by as_aux_lemma => kernel_rfl) ?_
  clear F; intro a F
  refine T_end (hK _ _ ?_)
  clear hK K
  refine C_seqK (fun K hK => ?_)
  refine D_region F H (fun β => [(11, .agg (kArr f)), (12, .agg (kArr g)), (13, .agg (kArr p)), (14, .agg (kArr RG)), (15, .agg (kArr RF)), (8, .pointer (some ⟨(β 5), 0, none⟩))]) [11, 12, 13, 14, 15, 8] [⟨5, 6, .cells #[.int .u8 0, .int .u8 0, .int .u8 0, .int .u8 0, .int .u8 0, .int .u8 0, .int .u8 0, .int .u8 0, .int .u8 0, .int .u8 0, .int .u8 0, .int .u8 0, .int .u8 0, .int .u8 0, .int .u8 0, .int .u8 0, .int .u8 0, .int .u8 0, .int .u8 0, .int .u8 0, .int .u8 0, .int .u8 0, .int .u8 0, .int .u8 0, .int .u8 0, .int .u8 0, .int .u8 0, .int .u8 0, .int .u8 0, .int .u8 0, .int .u8 0, .int .u8 0] 23 (0, 0), .cells (kArr RF) 23 (0, 0)⟩] [] [⟨true, aq3, .cells (kArr p) 23 (0, 0)⟩, ⟨true, aq2, .cells (kArr g) 23 (0, 0)⟩, ⟨true, aq1, .cells (kArr f) 23 (0, 0)⟩] [0, 1, 2] (by as_aux_lemma => kernel_rfl) (by as_aux_lemma => kernel_rfl) rfl (fun β => rfl) (fun fit => ⟨?_, ?_, ?_, ?_, ?_, ?_, ?_, trivial⟩) ?_
  · exact D_val 27 (fun β => by as_aux_lemma => kernel_rfl) (fun β => .agg (kArr f)) 11 rfl (fun β => by as_aux_lemma => kernel_rfl) (fun β => R_load 2 rfl 23 (.tmp 3) rfl 0 (by as_aux_lemma => kernel_rfl) (kArr f) (part_all _) _ Tryd.underlying23 rfl (by as_aux_lemma => kernel_rfl)) (by as_aux_lemma => kernel_rfl)
  · exact D_val 27 (fun β => by as_aux_lemma => kernel_rfl) (fun β => .agg (kArr g)) 12 rfl (fun β => by as_aux_lemma => kernel_rfl) (fun β => R_load 1 rfl 23 (.tmp 4) rfl 0 (by as_aux_lemma => kernel_rfl) (kArr g) (part_all _) _ Tryd.underlying23 rfl (by as_aux_lemma => kernel_rfl)) (by as_aux_lemma => kernel_rfl)
  · exact D_val 27 (fun β => by as_aux_lemma => kernel_rfl) (fun β => .agg (kArr p)) 13 rfl (fun β => by as_aux_lemma => kernel_rfl) (fun β => R_load 0 rfl 23 (.tmp 5) rfl 0 (by as_aux_lemma => kernel_rfl) (kArr p) (part_all _) _ Tryd.underlying23 rfl (by as_aux_lemma => kernel_rfl)) (by as_aux_lemma => kernel_rfl)
  · exact D_call 27 (fun β => by as_aux_lemma => kernel_rfl) (fun β => .agg (kArr RG)) 14 rfl (fun β => by as_aux_lemma => kernel_rfl) 40 (fun β => #[.agg (kArr g), .agg (kArr p)]) (fun β w => by as_aux_lemma => kernel_rfl) (fun β w hk => Calls.kept (d1 _ (h4.below h4p hk.below))) (by as_aux_lemma => kernel_rfl)
  · exact D_call 27 (fun β => by as_aux_lemma => kernel_rfl) (fun β => .agg (kArr RF)) 15 rfl (fun β => by as_aux_lemma => kernel_rfl) 40 (fun β => #[.agg (kArr f), .agg (kArr RG)]) (fun β w => by as_aux_lemma => kernel_rfl) (fun β w hk => Calls.kept (d3 _ (h4.below h4p hk.below))) (by as_aux_lemma => kernel_rfl)
  · exact D_new fit ⟨5, 6, .cells #[.int .u8 0, .int .u8 0, .int .u8 0, .int .u8 0, .int .u8 0, .int .u8 0, .int .u8 0, .int .u8 0, .int .u8 0, .int .u8 0, .int .u8 0, .int .u8 0, .int .u8 0, .int .u8 0, .int .u8 0, .int .u8 0, .int .u8 0, .int .u8 0, .int .u8 0, .int .u8 0, .int .u8 0, .int .u8 0, .int .u8 0, .int .u8 0, .int .u8 0, .int .u8 0, .int .u8 0, .int .u8 0, .int .u8 0, .int .u8 0, .int .u8 0, .int .u8 0] 23 (0, 0), .cells (kArr RF) 23 (0, 0)⟩ (List.mem_of_getElem? (i := 0) rfl) rfl 27 (fun β => by as_aux_lemma => kernel_rfl) 8 rfl (fun ad => .pointer (some ⟨ad, 0, none⟩)) (fun β w => by as_aux_lemma => kernel_rfl) (fun β => by as_aux_lemma => kernel_rfl) (fun β b => ⟨rfl, .inr rfl, ⟨rfl, .inr rfl, ⟨rfl, .inr rfl, ⟨rfl, .inr rfl, ⟨rfl, .inr rfl, ⟨rfl, .inl rfl, trivial⟩⟩⟩⟩⟩⟩) (by as_aux_lemma => kernel_rfl)
  · exact D_put fit ⟨5, 6, .cells #[.int .u8 0, .int .u8 0, .int .u8 0, .int .u8 0, .int .u8 0, .int .u8 0, .int .u8 0, .int .u8 0, .int .u8 0, .int .u8 0, .int .u8 0, .int .u8 0, .int .u8 0, .int .u8 0, .int .u8 0, .int .u8 0, .int .u8 0, .int .u8 0, .int .u8 0, .int .u8 0, .int .u8 0, .int .u8 0, .int .u8 0, .int .u8 0, .int .u8 0, .int .u8 0, .int .u8 0, .int .u8 0, .int .u8 0, .int .u8 0, .int .u8 0, .int .u8 0] 23 (0, 0), .cells (kArr RF) 23 (0, 0)⟩ (List.mem_of_getElem? (i := 0) rfl) rfl 27 (fun β => by as_aux_lemma => kernel_rfl) rfl (by as_aux_lemma => kernel_rfl) (fun β w _ hg => P_row rfl rfl (ty := 23) (x := (.tmp 8)) (y := (.tmp 15)) rfl (by as_aux_lemma => kernel_rfl) (by as_aux_lemma => kernel_rfl) (by as_aux_lemma => kernel_rfl) (by as_aux_lemma => kernel_rfl) (by as_aux_lemma => kernel_rfl) hg) (by as_aux_lemma => kernel_rfl)
  clear F H; intro β a v F H
  replace H : Hp [] w [⟨true, (β 5), .cells (kArr RF) 23 (0, 0)⟩, ⟨true, aq3, .cells (kArr p) 23 (0, 0)⟩, ⟨true, aq2, .cells (kArr g) 23 (0, 0)⟩, ⟨true, aq1, .cells (kArr f) 23 (0, 0)⟩] v := H
  replace F : Fm 27 [] [(8, .pointer (some ⟨(β 5), 0, none⟩)), (15, .agg (kArr RF)), (14, .agg (kArr RG)), (13, .agg (kArr p)), (12, .agg (kArr g)), (11, .agg (kArr f)), (7, .bool true), (10, .bool true), (6, .bool false), (5, .pointer (some ⟨aq3, 0, none⟩)), (4, .pointer (some ⟨aq2, 0, none⟩)), (3, .pointer (some ⟨aq1, 0, none⟩)), (0, .agg (kArr f)), (1, .agg (kArr g)), (2, .agg (kArr p))] a := F.weak _ (⟨rfl, ⟨rfl, ⟨rfl, ⟨rfl, ⟨rfl, ⟨rfl, ⟨rfl, ⟨rfl, ⟨rfl, ⟨rfl, ⟨rfl, ⟨rfl, ⟨rfl, ⟨rfl, ⟨rfl, trivial⟩⟩⟩⟩⟩⟩⟩⟩⟩⟩⟩⟩⟩⟩⟩)
  generalize β 5 = aq4 at F H
  refine hK _ _ ?_
  clear hK K
  refine C_seqK (fun K hK => ?_)
  refine D_region F H (fun β => [(16, .agg (kArr g)), (17, .agg (kArr f)), (18, .agg (kArr p)), (19, .agg (kArr RH)), (20, .agg (kArr RF)), (9, .pointer (some ⟨(β 5), 0, none⟩))]) [16, 17, 18, 19, 20, 9] [⟨5, 6, .cells #[.int .u8 0, .int .u8 0, .int .u8 0, .int .u8 0, .int .u8 0, .int .u8 0, .int .u8 0, .int .u8 0, .int .u8 0, .int .u8 0, .int .u8 0, .int .u8 0, .int .u8 0, .int .u8 0, .int .u8 0, .int .u8 0, .int .u8 0, .int .u8 0, .int .u8 0, .int .u8 0, .int .u8 0, .int .u8 0, .int .u8 0, .int .u8 0, .int .u8 0, .int .u8 0, .int .u8 0, .int .u8 0, .int .u8 0, .int .u8 0, .int .u8 0, .int .u8 0] 23 (0, 0), .cells (kArr RF) 23 (0, 0)⟩] [] [⟨true, aq4, .cells (kArr RF) 23 (0, 0)⟩, ⟨true, aq3, .cells (kArr p) 23 (0, 0)⟩, ⟨true, aq2, .cells (kArr g) 23 (0, 0)⟩, ⟨true, aq1, .cells (kArr f) 23 (0, 0)⟩] [0, 1, 2, 3] (by as_aux_lemma => kernel_rfl) (by as_aux_lemma => kernel_rfl) rfl (fun β => rfl) (fun fit => ⟨?_, ?_, ?_, ?_, ?_, ?_, ?_, trivial⟩) ?_
  · exact D_val 27 (fun β => by as_aux_lemma => kernel_rfl) (fun β => .agg (kArr g)) 16 rfl (fun β => by as_aux_lemma => kernel_rfl) (fun β => R_load 2 rfl 23 (.tmp 4) rfl 0 (by as_aux_lemma => kernel_rfl) (kArr g) (part_all _) _ Tryd.underlying23 rfl (by as_aux_lemma => kernel_rfl)) (by as_aux_lemma => kernel_rfl)
  · exact D_val 27 (fun β => by as_aux_lemma => kernel_rfl) (fun β => .agg (kArr f)) 17 rfl (fun β => by as_aux_lemma => kernel_rfl) (fun β => R_load 3 rfl 23 (.tmp 3) rfl 0 (by as_aux_lemma => kernel_rfl) (kArr f) (part_all _) _ Tryd.underlying23 rfl (by as_aux_lemma => kernel_rfl)) (by as_aux_lemma => kernel_rfl)
  · exact D_val 27 (fun β => by as_aux_lemma => kernel_rfl) (fun β => .agg (kArr p)) 18 rfl (fun β => by as_aux_lemma => kernel_rfl) (fun β => R_load 1 rfl 23 (.tmp 5) rfl 0 (by as_aux_lemma => kernel_rfl) (kArr p) (part_all _) _ Tryd.underlying23 rfl (by as_aux_lemma => kernel_rfl)) (by as_aux_lemma => kernel_rfl)
  · exact D_call 27 (fun β => by as_aux_lemma => kernel_rfl) (fun β => .agg (kArr RH)) 19 rfl (fun β => by as_aux_lemma => kernel_rfl) 40 (fun β => #[.agg (kArr f), .agg (kArr p)]) (fun β w => by as_aux_lemma => kernel_rfl) (fun β w hk => Calls.kept (d2 _ (h4.below h4p hk.below))) (by as_aux_lemma => kernel_rfl)
  · exact D_call 27 (fun β => by as_aux_lemma => kernel_rfl) (fun β => .agg (kArr RF)) 20 rfl (fun β => by as_aux_lemma => kernel_rfl) 40 (fun β => #[.agg (kArr g), .agg (kArr RH)]) (fun β w => by as_aux_lemma => kernel_rfl) (fun β w hk => Calls.kept (d4 _ (h4.below h4p hk.below))) (by as_aux_lemma => kernel_rfl)
  · exact D_new fit ⟨5, 6, .cells #[.int .u8 0, .int .u8 0, .int .u8 0, .int .u8 0, .int .u8 0, .int .u8 0, .int .u8 0, .int .u8 0, .int .u8 0, .int .u8 0, .int .u8 0, .int .u8 0, .int .u8 0, .int .u8 0, .int .u8 0, .int .u8 0, .int .u8 0, .int .u8 0, .int .u8 0, .int .u8 0, .int .u8 0, .int .u8 0, .int .u8 0, .int .u8 0, .int .u8 0, .int .u8 0, .int .u8 0, .int .u8 0, .int .u8 0, .int .u8 0, .int .u8 0, .int .u8 0] 23 (0, 0), .cells (kArr RF) 23 (0, 0)⟩ (List.mem_of_getElem? (i := 0) rfl) rfl 27 (fun β => by as_aux_lemma => kernel_rfl) 9 rfl (fun ad => .pointer (some ⟨ad, 0, none⟩)) (fun β w => by as_aux_lemma => kernel_rfl) (fun β => by as_aux_lemma => kernel_rfl) (fun β b => ⟨rfl, .inr rfl, ⟨rfl, .inr rfl, ⟨rfl, .inr rfl, ⟨rfl, .inr rfl, ⟨rfl, .inr rfl, ⟨rfl, .inl rfl, trivial⟩⟩⟩⟩⟩⟩) (by as_aux_lemma => kernel_rfl)
  · exact D_put fit ⟨5, 6, .cells #[.int .u8 0, .int .u8 0, .int .u8 0, .int .u8 0, .int .u8 0, .int .u8 0, .int .u8 0, .int .u8 0, .int .u8 0, .int .u8 0, .int .u8 0, .int .u8 0, .int .u8 0, .int .u8 0, .int .u8 0, .int .u8 0, .int .u8 0, .int .u8 0, .int .u8 0, .int .u8 0, .int .u8 0, .int .u8 0, .int .u8 0, .int .u8 0, .int .u8 0, .int .u8 0, .int .u8 0, .int .u8 0, .int .u8 0, .int .u8 0, .int .u8 0, .int .u8 0] 23 (0, 0), .cells (kArr RF) 23 (0, 0)⟩ (List.mem_of_getElem? (i := 0) rfl) rfl 27 (fun β => by as_aux_lemma => kernel_rfl) rfl (by as_aux_lemma => kernel_rfl) (fun β w _ hg => P_row rfl rfl (ty := 23) (x := (.tmp 9)) (y := (.tmp 20)) rfl (by as_aux_lemma => kernel_rfl) (by as_aux_lemma => kernel_rfl) (by as_aux_lemma => kernel_rfl) (by as_aux_lemma => kernel_rfl) (by as_aux_lemma => kernel_rfl) hg) (by as_aux_lemma => kernel_rfl)
  clear F H; intro β a v F H
  replace H : Hp [] w [⟨true, (β 5), .cells (kArr RF) 23 (0, 0)⟩, ⟨true, aq4, .cells (kArr RF) 23 (0, 0)⟩, ⟨true, aq3, .cells (kArr p) 23 (0, 0)⟩, ⟨true, aq2, .cells (kArr g) 23 (0, 0)⟩, ⟨true, aq1, .cells (kArr f) 23 (0, 0)⟩] v := H
  replace F : Fm 27 [] [(9, .pointer (some ⟨(β 5), 0, none⟩)), (20, .agg (kArr RF)), (19, .agg (kArr RH)), (18, .agg (kArr p)), (17, .agg (kArr f)), (16, .agg (kArr g)), (8, .pointer (some ⟨aq4, 0, none⟩)), (15, .agg (kArr RF)), (14, .agg (kArr RG)), (13, .agg (kArr p)), (12, .agg (kArr g)), (11, .agg (kArr f)), (7, .bool true), (10, .bool true), (6, .bool false), (5, .pointer (some ⟨aq3, 0, none⟩)), (4, .pointer (some ⟨aq2, 0, none⟩)), (3, .pointer (some ⟨aq1, 0, none⟩)), (0, .agg (kArr f)), (1, .agg (kArr g)), (2, .agg (kArr p))] a := F.weak _ (⟨rfl, ⟨rfl, ⟨rfl, ⟨rfl, ⟨rfl, ⟨rfl, ⟨rfl, ⟨rfl, ⟨rfl, ⟨rfl, ⟨rfl, ⟨rfl, ⟨rfl, ⟨rfl, ⟨rfl, ⟨rfl, ⟨rfl, ⟨rfl, ⟨rfl, ⟨rfl, ⟨rfl, trivial⟩⟩⟩⟩⟩⟩⟩⟩⟩⟩⟩⟩⟩⟩⟩⟩⟩⟩⟩⟩⟩)
  generalize β 5 = aq5 at F H
  refine hK _ _ ?_
  clear hK K
  refine C_seqK (fun K hK => ?_)
  refine C_region ?_
  refine T_val F H (by as_aux_lemma => kernel_rfl) (.bool true) (fun _ _ => by as_aux_lemma => kernel_rfl) ?_
  clear F; intro a F
  refine T_val F H (by as_aux_lemma => kernel_rfl) (.bool true) (fun _ _ => by as_aux_lemma => kernel_rfl) ?_
  clear F; intro a F
  refine T_val F H (by as_aux_lemma => kernel_rfl) (.agg (kArr RF)) (R_load 1 rfl 23 (.tmp 8) rfl 0 (by as_aux_lemma => kernel_rfl) (kArr RF) (part_all _) _ Tryd.underlying23 rfl (by as_aux_lemma => kernel_rfl)) ?_
  clear F; intro a F
  refine T_val F H (by as_aux_lemma => kernel_rfl) (.agg (kArr RF)) (R_load 0 rfl 23 (.tmp 9) rfl 0 (by as_aux_lemma => kernel_rfl) (kArr RF) (part_all _) _ Tryd.underlying23 rfl (by as_aux_lemma => kernel_rfl)) ?_
  clear F; intro a F
  refine T_val F H (by as_aux_lemma => kernel_rfl) (.bool true) (fun w _ => R_same (x := (.tmp 23)) (y := (.tmp 24)) rfl RF (by as_aux_lemma => kernel_rfl) (by as_aux_lemma => kernel_rfl) w) ?_
  clear F; intro a F
  refine T_val F H (by as_aux_lemma => kernel_rfl) (.bool true) (fun _ _ => by as_aux_lemma => kernel_rfl) ?_
  clear F; intro a F
  refine T_val F H (by as_aux_lemma => kernel_rfl) (.bool true) (fun _ _ => by as_aux_lemma => kernel_rfl) ?_
  clear F; intro a F
  refine T_end (hK _ _ ?_)
  clear hK K
  refine wp_ret ?_
  exact C_ret F H (rs := [.tmp 6]) rfl (vs := [.bool true]) (.tmp rfl .nil) (.bool true) rfl ⟨rfl, H.kept.below⟩

end Go.Proofs.YtdmioipdmdmkhaaDoor
