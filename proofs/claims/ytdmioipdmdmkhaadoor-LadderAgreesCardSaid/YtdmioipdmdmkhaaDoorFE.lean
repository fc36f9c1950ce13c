/- LadderAgrees: the walk, by rules. -/
import Derived.Test.YtdmioipdmdmkhaaDoorGA
import Derived.Test.YtdmioipdmdmkhaaDoorPA
set_option linter.unusedVariables false
set_option linter.unusedSimpArgs false
namespace Go.Proofs.YtdmioipdmdmkhaaDoor
open Go.RowKit
theorem key_val {x : Nat} (hx : x < pr) : kVal (byteOf x) = x := kNum_bytes x 32 (Nat.lt_trans hx (by decide +kernel))
theorem agree_of (f g : Nat → Nat) : multK f (byteOf (sharedN g nineF)) = byteOf (rawN (clampF f) (rawN (clampF g) 9)) ∧ multE f (byteOf (sharedN g nineF)) = 0 := by
  have hs : sharedN g nineF = rawN (clampF g) 9 := by unfold sharedN; rw [nine_num]
  have hlt := rawN_lt (clampF g) 9
  rw [hs]
  have hne := shared_ne f g
  have hk : kVal (byteOf (rawN (clampF g) 9)) = rawN (clampF g) 9 := key_val hlt
  have h2 : rawN (clampF g) 9 % two255 % pr = rawN (clampF g) 9 := by
    rw [Nat.mod_eq_of_lt (Nat.lt_trans hlt (by decide +kernel)), Nat.mod_eq_of_lt hlt]
  have hsh : sharedN f (byteOf (rawN (clampF g) 9)) = rawN (clampF f) (rawN (clampF g) 9) := by unfold sharedN; rw [hk, h2]
  have hok : multOK f (byteOf (rawN (clampF g) 9)) = true := by
    unfold multOK; rw [hk, hsh, decide_eq_true hlt, decide_eq_false hne]; rfl
  unfold multK multE
  rw [hok, hsh]
  exact ⟨rfl, rfl⟩
set_option maxRecDepth 100000 in
set_option maxHeartbeats 4000000 in
theorem ladderAgrees_any (f : Nat → Nat) (hf : ∀ b, b < 32 → f b < 256) (g : Nat → Nat) (hg : ∀ b, b < 32 → g b < 256) (w : World) (h4 : Four w) : Calls Tryd.prog 15 #[.agg (kArr f), .agg (kArr g)] w fun e w' => e = .returned (.bool true) ∧ Below w.heap.size w w' := by
  have h4p := h4.pos
  have dw := fun w h => awake07_any w h
  obtain ⟨RF, hRF⟩ : ∃ RF, byteOf (sharedN f nineF) = RF := ⟨_, rfl⟩
  obtain ⟨RG, hRG⟩ : ∃ RG, byteOf (sharedN g nineF) = RG := ⟨_, rfl⟩
  have hFl : ∀ b, b < 32 → RF b < 256 := fun b _ => by rw [← hRF]; exact byteOf_lt _ _
  have hGl : ∀ b, b < 32 → RG b < 256 := fun b _ => by rw [← hRG]; exact byteOf_lt _ _
  obtain ⟨k1, e1⟩ := agree_of f g
  obtain ⟨k2, e2⟩ := agree_of g f
  rw [hRG] at k1 e1
  rw [hRF] at k2 e2
  have ho := raw_order g f (u := 9) (by decide)
  rw [ho] at k2
  have hz0 := zero_iff (rawN_lt (clampF f) (rawN (clampF g) 9)) false (decide_eq_false (shared_ne f g)).symm
  obtain ⟨RZ, hRZ⟩ : ∃ RZ, byteOf (rawN (clampF f) (rawN (clampF g) 9)) = RZ := ⟨_, rfl⟩
  rw [hRZ] at k1 k2 hz0
  have hz : true = false ↔ ∀ i, i < 32 → RZ i = zeroF i := ⟨fun h => Bool.noConfusion h, fun h => Bool.noConfusion (hz0.2 h)⟩
  have d1 := fun b o0 o1 q w h hb => shared_any b f hf RG hGl q o0 o1 w h hb
  have d2 := fun b o0 o1 q w h hb => shared_any b g hg RF hFl q o0 o1 w h hb
  rw [k1, e1] at d1
  rw [k2, e2] at d2
  have p1 := fun b hb4 q w h hb => pubP_first b hb4 f hf RF hRF q w h hb
  have p2 := fun b hb4 q w h hb => pubP_first b hb4 g hg RG hRG q w h hb
  clear k1 k2 e1 e2 ho hz0 hRZ
  refine C_enter Tryd.func15 rfl 56 Tryd.ntmps15 (Nat.le_of_ble_eq_true rfl) (fun a F => ?_)
  have H := Hp.start [] w
  replace F : Fm 56 [] [(0, .agg (kArr f)), (1, .agg (kArr g))] a := F.weak _ (⟨rfl, ⟨rfl, trivial⟩⟩)
  refine C_seqK (fun K hK => ?_)
  refine C_region ?_
  refine T_new F H (by as_aux_lemma => kernel_rfl) (fun ad => .pointer (some ⟨ad, 0, none⟩)) (.cells (kArr f) 23 (0, 0)) (fun w => by as_aux_lemma => kernel_rfl) ?_
  clear F H; intro aq1 a v F H
  refine T_new F H (by as_aux_lemma => kernel_rfl) (fun ad => .pointer (some ⟨ad, 0, none⟩)) (.cells (kArr g) 23 (0, 0)) (fun w => by as_aux_lemma => kernel_rfl) ?_
  clear F H; intro aq2 a v F H
  refine T_val F H (by as_aux_lemma => kernel_rfl) (.bool false) (fun _ _ => by as_aux_lemma => kernel_rfl) ?_
  clear F; intro a F
  refine T_end (hK _ _ ?_)
  clear hK K
  refine C_seqK (fun K hK => ?_)
  refine C_region ?_
  refine T_call F H (by as_aux_lemma => kernel_rfl) 38 #[] (.bool true) (fun w => by as_aux_lemma => kernel_rfl) (Calls.kept (dw _ (h4.below h4p H.kept.below))) ?_
  clear F H; intro a v F H
  refine T_val F H (by as_aux_lemma => kernel_rfl) (.bool true) (fun _ _ => by as_aux_lemma => kernel_rfl) ?_
  clear F; intro a F
  refine T_end (hK _ _ ?_)
  clear hK K
  refine C_seqK (fun K hK => ?_)
  refine C_region ?_
  refine T_val F H (by as_aux_lemma => kernel_rfl) (.agg (kArr f)) (R_load (own := true) (g := aq1) (all := (kArr f)) (t := 23) (fr := (0, 0)) 1 (by as_aux_lemma => kernel_rfl) 23 (.tmp 2) rfl 0 (by as_aux_lemma => kernel_rfl) (kArr f) (part_all _) _ Tryd.underlying23 rfl (by as_aux_lemma => kernel_rfl)) ?_
  clear F; intro a F
  refine T_callR F (by as_aux_lemma => kernel_rfl) 45 #[.agg (kArr f)] (fun x w' => ∃ b, x = .pointer (some ⟨b, 0, none⟩) ∧ b ≠ 0 ∧ Hp [] w (⟨true, b, .cells (pairA f zeroF 0 0) 99 (0, 0)⟩ :: [⟨true, aq2, .cells (kArr g) 23 (0, 0)⟩, ⟨true, aq1, .cells (kArr f) 23 (0, 0)⟩]) w') (fun w => by as_aux_lemma => kernel_rfl) ((newPair_any f _).mono fun e w' ⟨b, he, hle, hn, hk⟩ => ⟨_, he, b, rfl, (by have h1 := H.kept.size; omega), H.add hk hle hn⟩) ?_
  clear F H; intro x a v F ⟨bf, hx, bfn, H⟩
  subst hx
  refine T_val F H (by as_aux_lemma => kernel_rfl) (.pointer (some ⟨bf, 0, none⟩)) (fun _ _ => by as_aux_lemma => kernel_rfl) ?_
  clear F; intro a F
  refine T_end (hK _ _ ?_)
  clear hK K
  refine C_seqK (fun K hK => ?_)
  refine C_region ?_
  refine T_val F H (by as_aux_lemma => kernel_rfl) (.agg (kArr g)) (R_load (own := true) (g := aq2) (all := (kArr g)) (t := 23) (fr := (0, 0)) 1 (by as_aux_lemma => kernel_rfl) 23 (.tmp 3) rfl 0 (by as_aux_lemma => kernel_rfl) (kArr g) (part_all _) _ Tryd.underlying23 rfl (by as_aux_lemma => kernel_rfl)) ?_
  clear F; intro a F
  refine T_callR F (by as_aux_lemma => kernel_rfl) 45 #[.agg (kArr g)] (fun x w' => ∃ b, x = .pointer (some ⟨b, 0, none⟩) ∧ b ≠ 0 ∧ Hp [] w (⟨true, b, .cells (pairA g zeroF 0 0) 99 (0, 0)⟩ :: [⟨true, bf, .cells (pairA f zeroF 0 0) 99 (0, 0)⟩, ⟨true, aq2, .cells (kArr g) 23 (0, 0)⟩, ⟨true, aq1, .cells (kArr f) 23 (0, 0)⟩]) w') (fun w => by as_aux_lemma => kernel_rfl) ((newPair_any g _).mono fun e w' ⟨b, he, hle, hn, hk⟩ => ⟨_, he, b, rfl, (by have h1 := H.kept.size; omega), H.add hk hle hn⟩) ?_
  clear F H; intro x a v F ⟨bg, hx, bgn, H⟩
  subst hx
  refine T_val F H (by as_aux_lemma => kernel_rfl) (.pointer (some ⟨bg, 0, none⟩)) (fun _ _ => by as_aux_lemma => kernel_rfl) ?_
  clear F; intro a F
  refine T_end (hK _ _ ?_)
  clear hK K
  refine C_seqK (fun K hK => ?_)
  refine C_seqK (fun K hK => ?_)
  refine C_region ?_
  refine T_val F H (by as_aux_lemma => kernel_rfl) (.pointer (some ⟨bf, 0, none⟩)) (fun _ _ => by as_aux_lemma => kernel_rfl) ?_
  clear F; intro a F
  refine T_val F H (by as_aux_lemma => kernel_rfl) (.bool false) (fun _ _ => by as_aux_lemma => kernel_rfl) ?_
  clear F; intro a F
  refine T_val F H (by as_aux_lemma => kernel_rfl) (.bool false) (fun _ _ => by as_aux_lemma => kernel_rfl) ?_
  clear F; intro a F
  refine T_val F H (by as_aux_lemma => kernel_rfl) (.pointer (some ⟨bg, 0, none⟩)) (fun _ _ => by as_aux_lemma => kernel_rfl) ?_
  clear F; intro a F
  refine T_val F H (by as_aux_lemma => kernel_rfl) (.bool false) (fun _ _ => by as_aux_lemma => kernel_rfl) ?_
  clear F; intro a F
  refine T_val F H (by as_aux_lemma => kernel_rfl) (.bool false) (fun _ _ => by as_aux_lemma => kernel_rfl) ?_
  clear F; intro a F
  refine T_end (hK _ _ ?_)
  clear hK K
  refine C_if F false rfl rfl ?_
  refine wp_skip ?_
  refine hK _ _ ?_
  clear hK K
  refine C_seqK (fun K hK => ?_)
  refine C_region ?_
  refine T_val F H (by as_aux_lemma => kernel_rfl) (.pointer (some ⟨bf, 0, none⟩)) (fun _ _ => by as_aux_lemma => kernel_rfl) ?_
  clear F; intro a F
  refine T_val F H (by as_aux_lemma => kernel_rfl) (.pointer (some ⟨bg, 0, none⟩)) (fun _ _ => by as_aux_lemma => kernel_rfl) ?_
  clear F; intro a F
  refine T_callP F H (by as_aux_lemma => kernel_rfl) 47 #[.pointer (some ⟨bg, 0, none⟩)] (.agg (kArr RG)) 0 rfl (fun w => by as_aux_lemma => kernel_rfl) (fun w hL hg hk => p2 bg bgn zeroF w (h4.below h4p hk.below) hg) [⟨true, bg, .cells (pairA g RG 1 0) 99 (0, 0)⟩, ⟨true, bf, .cells (pairA f zeroF 0 0) 99 (0, 0)⟩, ⟨true, aq2, .cells (kArr g) 23 (0, 0)⟩, ⟨true, aq1, .cells (kArr f) 23 (0, 0)⟩] rfl ?_
  clear F H; intro a v F H
  refine T_call F H (by as_aux_lemma => kernel_rfl) 46 #[.pointer (some ⟨bf, 0, none⟩), .agg (kArr RG)] (.tuple #[.agg (kArr RZ), .int .i64 0]) (fun w => by as_aux_lemma => kernel_rfl) (Calls.kept (d1 bf 0 0 zeroF _ (h4.below h4p H.kept.below) (H.at_ (k := 1) rfl))) ?_
  clear F H; intro a v F H
  refine T_val F H (by as_aux_lemma => kernel_rfl) (.tuple #[.agg (kArr RZ), .int .i64 0]) (fun _ _ => by as_aux_lemma => kernel_rfl) ?_
  clear F; intro a F
  refine T_val F H (by as_aux_lemma => kernel_rfl) (.agg (kArr RZ)) (fun _ _ => by as_aux_lemma => kernel_rfl) ?_
  clear F; intro a F
  refine T_val F H (by as_aux_lemma => kernel_rfl) (.int .i64 0) (fun _ _ => by as_aux_lemma => kernel_rfl) ?_
  clear F; intro a F
  refine T_new F H (by as_aux_lemma => kernel_rfl) (fun ad => .pointer (some ⟨ad, 0, none⟩)) (.cells #[.int .u8 0, .int .u8 0, .int .u8 0, .int .u8 0, .int .u8 0, .int .u8 0, .int .u8 0, .int .u8 0, .int .u8 0, .int .u8 0, .int .u8 0, .int .u8 0, .int .u8 0, .int .u8 0, .int .u8 0, .int .u8 0, .int .u8 0, .int .u8 0, .int .u8 0, .int .u8 0, .int .u8 0, .int .u8 0, .int .u8 0, .int .u8 0, .int .u8 0, .int .u8 0, .int .u8 0, .int .u8 0, .int .u8 0, .int .u8 0, .int .u8 0, .int .u8 0] 23 (0, 0)) (fun w => by as_aux_lemma => kernel_rfl) ?_
  clear F H; intro aq3 a v F H
  refine T_set F H (by as_aux_lemma => kernel_rfl) rfl 0 rfl (kArr RZ) (S_row 0 rfl 23 (.tmp 8) (.tmp 28) rfl (by as_aux_lemma => kernel_rfl) (kArr RZ) (by as_aux_lemma => kernel_rfl) (by as_aux_lemma => kernel_rfl) (by as_aux_lemma => kernel_rfl) (by as_aux_lemma => kernel_rfl)) [⟨true, aq3, .cells (kArr RZ) 23 (0, 0)⟩, ⟨true, bg, .cells (pairA g RG 1 0) 99 (0, 0)⟩, ⟨true, bf, .cells (pairA f zeroF 0 0) 99 (0, 0)⟩, ⟨true, aq2, .cells (kArr g) 23 (0, 0)⟩, ⟨true, aq1, .cells (kArr f) 23 (0, 0)⟩] rfl ?_
  clear F H; intro a v F H
  refine T_val F H (by as_aux_lemma => kernel_rfl) (.int .i64 0) (fun _ _ => by as_aux_lemma => kernel_rfl) ?_
  clear F; intro a F
  refine T_end (hK _ _ ?_)
  clear hK K
  refine C_seqK (fun K hK => ?_)
  refine C_region ?_
  refine T_val F H (by as_aux_lemma => kernel_rfl) (.pointer (some ⟨bg, 0, none⟩)) (fun _ _ => by as_aux_lemma => kernel_rfl) ?_
  clear F; intro a F
  refine T_val F H (by as_aux_lemma => kernel_rfl) (.pointer (some ⟨bf, 0, none⟩)) (fun _ _ => by as_aux_lemma => kernel_rfl) ?_
  clear F; intro a F
  refine T_callP F H (by as_aux_lemma => kernel_rfl) 47 #[.pointer (some ⟨bf, 0, none⟩)] (.agg (kArr RF)) 2 rfl (fun w => by as_aux_lemma => kernel_rfl) (fun w hL hg hk => p1 bf bfn zeroF w (h4.below h4p hk.below) hg) [⟨true, aq3, .cells (kArr RZ) 23 (0, 0)⟩, ⟨true, bg, .cells (pairA g RG 1 0) 99 (0, 0)⟩, ⟨true, bf, .cells (pairA f RF 1 0) 99 (0, 0)⟩, ⟨true, aq2, .cells (kArr g) 23 (0, 0)⟩, ⟨true, aq1, .cells (kArr f) 23 (0, 0)⟩] rfl ?_
  clear F H; intro a v F H
  refine T_call F H (by as_aux_lemma => kernel_rfl) 46 #[.pointer (some ⟨bg, 0, none⟩), .agg (kArr RF)] (.tuple #[.agg (kArr RZ), .int .i64 0]) (fun w => by as_aux_lemma => kernel_rfl) (Calls.kept (d2 bg 1 0 RG _ (h4.below h4p H.kept.below) (H.at_ (k := 1) rfl))) ?_
  clear F H; intro a v F H
  refine T_val F H (by as_aux_lemma => kernel_rfl) (.tuple #[.agg (kArr RZ), .int .i64 0]) (fun _ _ => by as_aux_lemma => kernel_rfl) ?_
  clear F; intro a F
  refine T_val F H (by as_aux_lemma => kernel_rfl) (.agg (kArr RZ)) (fun _ _ => by as_aux_lemma => kernel_rfl) ?_
  clear F; intro a F
  refine T_val F H (by as_aux_lemma => kernel_rfl) (.int .i64 0) (fun _ _ => by as_aux_lemma => kernel_rfl) ?_
  clear F; intro a F
  refine T_new F H (by as_aux_lemma => kernel_rfl) (fun ad => .pointer (some ⟨ad, 0, none⟩)) (.cells #[.int .u8 0, .int .u8 0, .int .u8 0, .int .u8 0, .int .u8 0, .int .u8 0, .int .u8 0, .int .u8 0, .int .u8 0, .int .u8 0, .int .u8 0, .int .u8 0, .int .u8 0, .int .u8 0, .int .u8 0, .int .u8 0, .int .u8 0, .int .u8 0, .int .u8 0, .int .u8 0, .int .u8 0, .int .u8 0, .int .u8 0, .int .u8 0, .int .u8 0, .int .u8 0, .int .u8 0, .int .u8 0, .int .u8 0, .int .u8 0, .int .u8 0, .int .u8 0] 23 (0, 0)) (fun w => by as_aux_lemma => kernel_rfl) ?_
  clear F H; intro aq4 a v F H
  refine T_set F H (by as_aux_lemma => kernel_rfl) rfl 0 rfl (kArr RZ) (S_row 0 rfl 23 (.tmp 10) (.tmp 35) rfl (by as_aux_lemma => kernel_rfl) (kArr RZ) (by as_aux_lemma => kernel_rfl) (by as_aux_lemma => kernel_rfl) (by as_aux_lemma => kernel_rfl) (by as_aux_lemma => kernel_rfl)) [⟨true, aq4, .cells (kArr RZ) 23 (0, 0)⟩, ⟨true, aq3, .cells (kArr RZ) 23 (0, 0)⟩, ⟨true, bg, .cells (pairA g RG 1 0) 99 (0, 0)⟩, ⟨true, bf, .cells (pairA f RF 1 0) 99 (0, 0)⟩, ⟨true, aq2, .cells (kArr g) 23 (0, 0)⟩, ⟨true, aq1, .cells (kArr f) 23 (0, 0)⟩] rfl ?_
  clear F H; intro a v F H
  refine T_val F H (by as_aux_lemma => kernel_rfl) (.int .i64 0) (fun _ _ => by as_aux_lemma => kernel_rfl) ?_
  clear F; intro a F
  refine T_end (hK _ _ ?_)
  clear hK K
  refine C_seqK (fun K hK => ?_)
  refine C_region ?_
  refine T_val F H (by as_aux_lemma => kernel_rfl) (.bool true) (fun _ _ => by as_aux_lemma => kernel_rfl) ?_
  clear F; intro a F
  refine T_val F H (by as_aux_lemma => kernel_rfl) (.bool true) (fun _ _ => by as_aux_lemma => kernel_rfl) ?_
  clear F; intro a F
  refine T_val F H (by as_aux_lemma => kernel_rfl) (.int .i64 0) (fun _ _ => by as_aux_lemma => kernel_rfl) ?_
  clear F; intro a F
  refine T_val F H (by as_aux_lemma => kernel_rfl) (.bool true) (fun w _ => R_bin (x := (.tmp 39)) (y := (.const (.int .i64 0))) rfl (k := .i64) (a := 0) (b := 0) (by as_aux_lemma => kernel_rfl) (by as_aux_lemma => kernel_rfl) (i_eq rfl) w) ?_
  clear F; intro a F
  refine T_val F H (by as_aux_lemma => kernel_rfl) (.bool true) (fun _ _ => by as_aux_lemma => kernel_rfl) ?_
  clear F; intro a F
  refine T_val F H (by as_aux_lemma => kernel_rfl) (.bool true) (fun _ _ => by as_aux_lemma => kernel_rfl) ?_
  clear F; intro a F
  refine T_val F H (by as_aux_lemma => kernel_rfl) (.int .i64 0) (fun _ _ => by as_aux_lemma => kernel_rfl) ?_
  clear F; intro a F
  refine T_val F H (by as_aux_lemma => kernel_rfl) (.bool true) (fun w _ => R_bin (x := (.tmp 43)) (y := (.const (.int .i64 0))) rfl (k := .i64) (a := 0) (b := 0) (by as_aux_lemma => kernel_rfl) (by as_aux_lemma => kernel_rfl) (i_eq rfl) w) ?_
  clear F; intro a F
  refine T_val F H (by as_aux_lemma => kernel_rfl) (.bool true) (fun _ _ => by as_aux_lemma => kernel_rfl) ?_
  clear F; intro a F
  refine T_val F H (by as_aux_lemma => kernel_rfl) (.bool true) (fun _ _ => by as_aux_lemma => kernel_rfl) ?_
  clear F; intro a F
  refine T_val F H (by as_aux_lemma => kernel_rfl) (.agg (kArr RZ)) (R_load (own := true) (g := aq3) (all := (kArr RZ)) (t := 23) (fr := (0, 0)) 1 (by as_aux_lemma => kernel_rfl) 23 (.tmp 8) rfl 0 (by as_aux_lemma => kernel_rfl) (kArr RZ) (part_all _) _ Tryd.underlying23 rfl (by as_aux_lemma => kernel_rfl)) ?_
  clear F; intro a F
  refine T_val F H (by as_aux_lemma => kernel_rfl) (.agg (kArr RZ)) (R_load (own := true) (g := aq4) (all := (kArr RZ)) (t := 23) (fr := (0, 0)) 0 (by as_aux_lemma => kernel_rfl) 23 (.tmp 10) rfl 0 (by as_aux_lemma => kernel_rfl) (kArr RZ) (part_all _) _ Tryd.underlying23 rfl (by as_aux_lemma => kernel_rfl)) ?_
  clear F; intro a F
  refine T_val F H (by as_aux_lemma => kernel_rfl) (.bool true) (fun w _ => R_same (x := (.tmp 47)) (y := (.tmp 48)) rfl RZ (by as_aux_lemma => kernel_rfl) (by as_aux_lemma => kernel_rfl) w) ?_
  clear F; intro a F
  refine T_val F H (by as_aux_lemma => kernel_rfl) (.bool true) (fun _ _ => by as_aux_lemma => kernel_rfl) ?_
  clear F; intro a F
  refine T_val F H (by as_aux_lemma => kernel_rfl) (.bool true) (fun _ _ => by as_aux_lemma => kernel_rfl) ?_
  clear F; intro a F
  refine T_val F H (by as_aux_lemma => kernel_rfl) (.agg (kArr RZ)) (R_load (own := true) (g := aq3) (all := (kArr RZ)) (t := 23) (fr := (0, 0)) 1 (by as_aux_lemma => kernel_rfl) 23 (.tmp 8) rfl 0 (by as_aux_lemma => kernel_rfl) (kArr RZ) (part_all _) _ Tryd.underlying23 rfl (by as_aux_lemma => kernel_rfl)) ?_
  clear F; intro a F
  refine T_val F H (by as_aux_lemma => kernel_rfl) (.agg (kArr zeroF)) (fun _ _ => by as_aux_lemma => kernel_rfl) ?_
  clear F; intro a F
  refine T_val F H (by as_aux_lemma => kernel_rfl) (.bool true) (fun w _ => R_neqk (x := (.tmp 52)) (y := (.tmp 53)) rfl RZ zeroF (by as_aux_lemma => kernel_rfl) (by as_aux_lemma => kernel_rfl) true hz w) ?_
  clear F; intro a F
  refine T_val F H (by as_aux_lemma => kernel_rfl) (.bool true) (fun _ _ => by as_aux_lemma => kernel_rfl) ?_
  clear F; intro a F
  refine T_val F H (by as_aux_lemma => kernel_rfl) (.bool true) (fun _ _ => by as_aux_lemma => kernel_rfl) ?_
  clear F; intro a F
  refine T_end (hK _ _ ?_)
  clear hK K
  refine wp_ret ?_
  exact C_ret F H (rs := [.tmp 4]) rfl (vs := [.bool true]) (.tmp rfl .nil) (.bool true) rfl ⟨rfl, H.kept.below⟩

end Go.Proofs.YtdmioipdmdmkhaaDoor
