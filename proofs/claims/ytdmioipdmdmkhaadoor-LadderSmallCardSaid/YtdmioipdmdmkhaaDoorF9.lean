/- LadderSmall: the walk, by rules. -/
import Derived.Test.YtdmioipdmdmkhaaDoorF8
set_option linter.unusedVariables false
set_option linter.unusedSimpArgs false
namespace Go.Proofs.YtdmioipdmdmkhaaDoor
open Go.RowKit
/-- The five points. -/
def ptsF : Nat → Nat → Nat
  | 0 => zeroF
  | 1 => oneF
  | 2 => minusF
  | 3 => ord8aF
  | _ => ord8bF
def ptsA : Array Value := kArr zeroF ++ kArr oneF ++ kArr minusF ++ kArr ord8aF ++ kArr ord8bF
theorem oneF_lt : ∀ b, b < 32 → oneF b < 256 := fun b _ => by unfold oneF; split <;> omega
theorem minusF_lt : ∀ b, b < 32 → minusF b < 256 := by decide +kernel
theorem ord8aF_lt : ∀ b, b < 32 → ord8aF b < 256 := by decide +kernel
theorem ord8bF_lt : ∀ b, b < 32 → ord8bF b < 256 := by decide +kernel
theorem ptsF_lt (k : Nat) : ∀ b, b < 32 → ptsF k b < 256 := by
  match k with
  | 0 => exact zeroF_lt
  | 1 => exact oneF_lt
  | 2 => exact minusF_lt
  | 3 => exact ord8aF_lt
  | n + 4 => exact ord8bF_lt
theorem pts_zero (f : Nat → Nat) : ∀ k, k < 5 → sharedN f (ptsF k) = 0
  | 0, _ => small_zeroF f
  | 1, _ => small_oneF f
  | 2, _ => small_minusF f
  | 3, _ => small_ord8aF f
  | 4, _ => small_ord8bF f
theorem pts_e (f : Nat → Nat) (k : Nat) (h : k < 5) : multE f (ptsF k) = 30 := by
  unfold multE multOK
  rw [pts_zero f k h]; simp
theorem pts_k (f : Nat → Nat) (k : Nat) (h : k < 5) : multK f (ptsF k) = zeroF := by
  unfold multK multOK
  rw [pts_zero f k h]; simp
theorem ffF_e {f : Nat → Nat} : multE f (ffF 32) = 30 := by
  have h : decide (kVal (ffF 32) < pr) = false := by decide +kernel
  unfold multE multOK
  rw [h]; rfl
set_option maxRecDepth 100000 in
theorem pts_part : ∀ k, k < 5 → ∀ j v, (kArr (ptsF k))[j]? = some v → ptsA[(0 + k * 32) + j]? = some v
  | 0, _ => part_ext (by kernel_rfl)
  | 1, _ => part_ext (by kernel_rfl)
  | 2, _ => part_ext (by kernel_rfl)
  | 3, _ => part_ext (by kernel_rfl)
  | 4, _ => part_ext (by kernel_rfl)
set_option maxRecDepth 100000 in
set_option maxHeartbeats 4000000 in
theorem ladderSmall_any (f : Nat → Nat) (hf : ∀ b, b < 32 → f b < 256) (w : World) (h4 : Four w) : Calls Tryd.prog 14 #[.agg (kArr f)] w fun e w' => e = .returned (.bool true) ∧ Below w.heap.size w w' := by
  have h4p := h4.pos
  have dw := fun w h => awake07_any w h
  have dr := fun k (hk : k < 5) w h => raw_any f hf (ptsF k) (ptsF_lt k) w h
  have dm := fun k (hk : k < 5) w h => mult_any f hf (ptsF k) (ptsF_lt k) w h
  have da := fun w h => mult_any f hf (ffF 32) (ffF_lt 32) w h
  rw [ffF_e] at da
  generalize multK f (ffF 32) = RA at da
  have hz : ∀ k, k < 5 → kArr (byteOf (rawN (clampF f) (kVal (ptsF k) % two255 % pr))) = kArr zeroF := fun k hk => by
    have := pts_zero f k hk
    unfold sharedN at this
    rw [this]; rfl
  have he : ∀ k, k < 5 → multE f (ptsF k) = 30 := fun k hk => pts_e f k hk
  have hmk : ∀ k, k < 5 → multK f (ptsF k) = zeroF := fun k hk => pts_k f k hk
  refine C_enter Tryd.func14 rfl 74 Tryd.ntmps14 (Nat.le_of_ble_eq_true rfl) (fun a F => ?_)
  have H := Hp.start [] w
  replace F : Fm 74 [] [(0, .agg (kArr f))] a := F.weak _ (⟨rfl, trivial⟩)
  refine C_seqK (fun K hK => ?_)
  refine C_region ?_
  refine T_new F H (by as_aux_lemma => kernel_rfl) (fun ad => .pointer (some ⟨ad, 0, none⟩)) (.cells (kArr f) 23 (0, 0)) (fun w => by as_aux_lemma => kernel_rfl) ?_
  clear F H; intro aq1 a v F H
  refine T_val F H (by as_aux_lemma => kernel_rfl) (.bool false) (fun _ _ => by as_aux_lemma => kernel_rfl) ?_
  clear F; intro a F
  refine T_end (hK _ _ ?_)
  clear hK K
  refine C_seqK (fun K hK => ?_)
  refine C_region ?_
  refine T_call F H (by as_aux_lemma => kernel_rfl) 38 #[] (.bool true) (fun w => by as_aux_lemma => kernel_rfl) (Calls.kept (dw _ (h4.below h4p H.kept.below))) ?_
  clear F H; intro a v F H
  refine T_val F H (by as_aux_lemma => kernel_rfl) (.bool true) (fun _ _ => by as_aux_lemma => kernel_rfl) ?_
  clear F; intro a F
  refine T_end (hK _ _ ?_)
  clear hK K
  refine C_seqK (fun K hK => ?_)
  refine C_region ?_
  refine T_val F H (by as_aux_lemma => kernel_rfl) (.agg (kArr zeroF)) (fun _ _ => by as_aux_lemma => kernel_rfl) ?_
  clear F; intro a F
  refine T_new F H (by as_aux_lemma => kernel_rfl) (fun ad => .pointer (some ⟨ad, 0, none⟩)) (.cells #[.int .u8 0, .int .u8 0, .int .u8 0, .int .u8 0, .int .u8 0, .int .u8 0, .int .u8 0, .int .u8 0, .int .u8 0, .int .u8 0, .int .u8 0, .int .u8 0, .int .u8 0, .int .u8 0, .int .u8 0, .int .u8 0, .int .u8 0, .int .u8 0, .int .u8 0, .int .u8 0, .int .u8 0, .int .u8 0, .int .u8 0, .int .u8 0, .int .u8 0, .int .u8 0, .int .u8 0, .int .u8 0, .int .u8 0, .int .u8 0, .int .u8 0, .int .u8 0] 23 (0, 0)) (fun w => by as_aux_lemma => kernel_rfl) ?_
  clear F H; intro aq2 a v F H
  refine T_set F H (by as_aux_lemma => kernel_rfl) rfl 0 rfl (kArr zeroF) (S_row 0 rfl 23 (.tmp 4) (.tmp 17) rfl (by as_aux_lemma => kernel_rfl) (kArr zeroF) (by as_aux_lemma => kernel_rfl) (by as_aux_lemma => kernel_rfl) (by as_aux_lemma => kernel_rfl) (by as_aux_lemma => kernel_rfl)) [⟨true, aq2, .cells (kArr zeroF) 23 (0, 0)⟩, ⟨true, aq1, .cells (kArr f) 23 (0, 0)⟩] rfl ?_
  clear F H; intro a v F H
  refine T_end (hK _ _ ?_)
  clear hK K
  refine C_seqK (fun K hK => ?_)
  refine C_seqK (fun K hK => ?_)
  refine C_region ?_
  refine T_val F H (by as_aux_lemma => kernel_rfl) (.int .i64 0) (fun _ _ => by as_aux_lemma => kernel_rfl) ?_
  clear F; intro a F
  refine T_end (hK _ _ ?_)
  clear hK K
  replace F : Fm 74 [] [(5, .int .i64 0), (1, .pointer (some ⟨aq1, 0, none⟩)), (3, .bool true), (4, .pointer (some ⟨aq2, 0, none⟩)), (2, .bool false)] a := F.weak _ (⟨rfl, ⟨rfl, ⟨rfl, ⟨rfl, ⟨rfl, trivial⟩⟩⟩⟩⟩)
  replace H : Hp [] w [⟨true, aq2, .cells (kArr (ffF 0)) 23 (0, 0)⟩, ⟨true, aq1, .cells (kArr f) 23 (0, 0)⟩] v := H
  refine wp_block ?_
  refine C_loop (fun m a v => ∃ k, k + m = 32 ∧ Fm 74 [] [(5, .int .i64 ((k : Nat) : Int)), (1, .pointer (some ⟨aq1, 0, none⟩)), (3, .bool true), (4, .pointer (some ⟨aq2, 0, none⟩)), (2, .bool false)] a ∧ Hp [] w [⟨true, aq2, .cells (kArr (ffF (k))) 23 (0, 0)⟩, ⟨true, aq1, .cells (kArr f) 23 (0, 0)⟩] v) 32 ⟨0, rfl, F, H⟩ ?_
  clear F H
  intro m a v ⟨k, hk, F, H⟩
  refine C_seqK (fun K1 hK1 => ?_)
  rcases m with _ | m
  rotate_left
  · refine C_seqK (fun K hK => ?_)
    refine C_region ?_
    refine T_val F H (by as_aux_lemma => kernel_rfl) (.int .i64 ((k : Nat) : Int)) (fun _ _ => by as_aux_lemma => kernel_rfl) ?_
    clear F; intro a F
    refine T_val F H (by as_aux_lemma => kernel_rfl) (.bool true) (fun w _ => R_bin (x := (.tmp 18)) (y := (.const (.int .i64 32))) rfl (k := .i64) (a := ((k : Nat) : Int)) (b := 32) (by as_aux_lemma => kernel_rfl) (by as_aux_lemma => kernel_rfl) (i_lt (by omega)) w) ?_
    clear F; intro a F
    refine T_end (hK _ _ ?_)
    clear hK K
    refine C_if F true rfl rfl ?_
    refine wp_skip ?_
    refine hK1 _ _ ?_
    clear hK1 K1
    replace F : Fm 74 [] [(5, .int .i64 ((k : Nat) : Int)), (1, .pointer (some ⟨aq1, 0, none⟩)), (3, .bool true), (4, .pointer (some ⟨aq2, 0, none⟩)), (2, .bool false)] a := F.weak _ (⟨rfl, ⟨rfl, ⟨rfl, ⟨rfl, ⟨rfl, trivial⟩⟩⟩⟩⟩)
    refine C_seqK (fun K2 hK2 => ?_)
    refine wp_block ?_
    refine C_region ?_
    refine T_val F H (by as_aux_lemma => kernel_rfl) (.int .i64 ((k : Nat) : Int)) (fun _ _ => by as_aux_lemma => kernel_rfl) ?_
    clear F; intro a F
    refine T_val F H (by as_aux_lemma => kernel_rfl) (.pointer (some ⟨aq2, (0 + k * 1), none⟩)) (fun w _ => R_index (k := .i64) (g := aq2) (off := 0) (x := (.tmp 4)) (y := (.tmp 22)) rfl Tryd.underlying23 (by as_aux_lemma => kernel_rfl) k (by as_aux_lemma => kernel_rfl) (by omega) (sz := 1) (by as_aux_lemma => kernel_rfl) w) ?_
    clear F; intro a F
    refine T_set F H (by as_aux_lemma => kernel_rfl) rfl 0 rfl _ (S_cell 0 rfl 5 (.tmp 23) (.const (.int .u8 255)) rfl (0 + k * 1) (by as_aux_lemma => kernel_rfl) (.int .u8 255) (by as_aux_lemma => kernel_rfl) rfl (by show 0 + k * 1 < 32; omega) _ Tryd.underlying5 rfl (by as_aux_lemma => kernel_rfl)) [⟨true, aq2, .cells (kArr (ffF (k + 1))) 23 (0, 0)⟩, ⟨true, aq1, .cells (kArr f) 23 (0, 0)⟩] (by rw [ffF_set (by omega)]; rfl) ?_
    clear F H; intro a v F H
    refine wpList_nil ?_
    refine hK2 _ _ ?_
    clear hK2 K2
    refine C_region ?_
    refine T_val F H (by as_aux_lemma => kernel_rfl) (.int .i64 ((k : Nat) : Int)) (fun _ _ => by as_aux_lemma => kernel_rfl) ?_
    clear F; intro a F
    refine T_val F H (by as_aux_lemma => kernel_rfl) (.int .i64 ((k + 1 : Nat) : Int)) (fun w _ => R_bin (x := (.tmp 20)) (y := (.const (.int .i64 1))) rfl (k := .i64) (a := ((k : Nat) : Int)) (b := 1) (by as_aux_lemma => kernel_rfl) (by as_aux_lemma => kernel_rfl) (i_addn64 (a := k) (b := 1) (by omega)) w) ?_
    clear F; intro a F
    refine T_val F H (by as_aux_lemma => kernel_rfl) (.int .i64 ((k + 1 : Nat) : Int)) (fun _ _ => by as_aux_lemma => kernel_rfl) ?_
    clear F; intro a F
    refine wpList_nil ?_
    replace F : Fm 74 [] [(5, .int .i64 ((k + 1 : Nat) : Int)), (1, .pointer (some ⟨aq1, 0, none⟩)), (3, .bool true), (4, .pointer (some ⟨aq2, 0, none⟩)), (2, .bool false)] a := F.weak _ (⟨rfl, ⟨rfl, ⟨rfl, ⟨rfl, ⟨rfl, trivial⟩⟩⟩⟩⟩)
    exact ⟨m, Nat.lt_succ_self m, k + 1, by omega, F, H⟩
  obtain rfl : k = 32 := by omega
  refine C_seqK (fun K hK => ?_)
  refine C_region ?_
  refine T_val F H (by as_aux_lemma => kernel_rfl) (.int .i64 ((32 : Nat) : Int)) (fun _ _ => by as_aux_lemma => kernel_rfl) ?_
  clear F; intro a F
  refine T_val F H (by as_aux_lemma => kernel_rfl) (.bool false) (fun w _ => R_bin (x := (.tmp 18)) (y := (.const (.int .i64 32))) rfl (k := .i64) (a := ((32 : Nat) : Int)) (b := 32) (by as_aux_lemma => kernel_rfl) (by as_aux_lemma => kernel_rfl) (i_nlt (by omega)) w) ?_
  clear F; intro a F
  refine T_end (hK _ _ ?_)
  clear hK K
  refine C_if F false rfl rfl ?_
  refine wp_exit ?_
  refine hK _ _ ?_
  clear hK1 K1 hK K
  refine C_seqK (fun K hK => ?_)
  refine C_region ?_
  refine T_val F H (by as_aux_lemma => kernel_rfl) (.agg (kArr (ffF 32))) (R_load 0 rfl 23 (.tmp 4) rfl 0 (by as_aux_lemma => kernel_rfl) (kArr (ffF 32)) (part_all _) _ Tryd.underlying23 rfl (by as_aux_lemma => kernel_rfl)) ?_
  clear F; intro a F
  refine T_new F H (by as_aux_lemma => kernel_rfl) (fun ad => .pointer (some ⟨ad, 0, none⟩)) (.cells #[.int .u8 0, .int .u8 0, .int .u8 0, .int .u8 0, .int .u8 0, .int .u8 0, .int .u8 0, .int .u8 0, .int .u8 0, .int .u8 0, .int .u8 0, .int .u8 0, .int .u8 0, .int .u8 0, .int .u8 0, .int .u8 0, .int .u8 0, .int .u8 0, .int .u8 0, .int .u8 0, .int .u8 0, .int .u8 0, .int .u8 0, .int .u8 0, .int .u8 0, .int .u8 0, .int .u8 0, .int .u8 0, .int .u8 0, .int .u8 0, .int .u8 0, .int .u8 0] 23 (0, 0)) (fun w => by as_aux_lemma => kernel_rfl) ?_
  clear F H; intro aq3 a v F H
  refine T_set F H (by as_aux_lemma => kernel_rfl) rfl 0 rfl (kArr (ffF 32)) (S_row 0 rfl 23 (.tmp 6) (.tmp 24) rfl (by as_aux_lemma => kernel_rfl) (kArr (ffF 32)) (by as_aux_lemma => kernel_rfl) (by as_aux_lemma => kernel_rfl) (by as_aux_lemma => kernel_rfl) (by as_aux_lemma => kernel_rfl)) [⟨true, aq3, .cells (kArr (ffF 32)) 23 (0, 0)⟩, ⟨true, aq2, .cells (kArr (ffF 32)) 23 (0, 0)⟩, ⟨true, aq1, .cells (kArr f) 23 (0, 0)⟩] rfl ?_
  clear F H; intro a v F H
  refine T_end (hK _ _ ?_)
  clear hK K
  refine C_seqK (fun K hK => ?_)
  refine C_region ?_
  refine T_val F H (by as_aux_lemma => kernel_rfl) (.pointer (some ⟨aq3, 0, none⟩)) (fun _ _ => by as_aux_lemma => kernel_rfl) ?_
  clear F; intro a F
  refine T_set F H (by as_aux_lemma => kernel_rfl) rfl 0 rfl _ (S_cell 0 rfl 5 (.tmp 25) (.const (.int .u8 236)) rfl 0 (by as_aux_lemma => kernel_rfl) (.int .u8 236) (by as_aux_lemma => kernel_rfl) rfl (Nat.le_of_ble_eq_true rfl) _ Tryd.underlying5 rfl (by as_aux_lemma => kernel_rfl)) [⟨true, aq3, .cells (kArr (upd (ffF 32) 0 (236))) 23 (0, 0)⟩, ⟨true, aq2, .cells (kArr (ffF 32)) 23 (0, 0)⟩, ⟨true, aq1, .cells (kArr f) 23 (0, 0)⟩] (by as_aux_lemma => kernel_rfl) ?_
  clear F H; intro a v F H
  refine T_end (hK _ _ ?_)
  clear hK K
  refine C_seqK (fun K hK => ?_)
  refine C_region ?_
  refine T_val F H (by as_aux_lemma => kernel_rfl) (.pointer (some ⟨aq3, 31, none⟩)) (fun _ _ => by as_aux_lemma => kernel_rfl) ?_
  clear F; intro a F
  refine T_set F H (by as_aux_lemma => kernel_rfl) rfl 0 rfl _ (S_cell 0 rfl 5 (.tmp 26) (.const (.int .u8 127)) rfl 31 (by as_aux_lemma => kernel_rfl) (.int .u8 127) (by as_aux_lemma => kernel_rfl) rfl (Nat.le_of_ble_eq_true rfl) _ Tryd.underlying5 rfl (by as_aux_lemma => kernel_rfl)) [⟨true, aq3, .cells (kArr (upd (upd (ffF 32) 0 (236)) 31 (127))) 23 (0, 0)⟩, ⟨true, aq2, .cells (kArr (ffF 32)) 23 (0, 0)⟩, ⟨true, aq1, .cells (kArr f) 23 (0, 0)⟩] (by as_aux_lemma => kernel_rfl) ?_
  clear F H; intro a v F H
  refine T_end (hK _ _ ?_)
  clear hK K
  replace H : Hp [] w [⟨true, aq3, .cells (kArr minusF) 23 (0, 0)⟩, ⟨true, aq2, .cells (kArr (ffF 32)) 23 (0, 0)⟩, ⟨true, aq1, .cells (kArr f) 23 (0, 0)⟩] v := H
  refine C_seqK (fun K hK => ?_)
  refine C_region ?_
  refine T_val F H (by as_aux_lemma => kernel_rfl) (.agg (kArr ord8aF)) (fun _ _ => by as_aux_lemma => kernel_rfl) ?_
  clear F; intro a F
  refine T_new F H (by as_aux_lemma => kernel_rfl) (fun ad => .pointer (some ⟨ad, 0, none⟩)) (.cells #[.int .u8 0, .int .u8 0, .int .u8 0, .int .u8 0, .int .u8 0, .int .u8 0, .int .u8 0, .int .u8 0, .int .u8 0, .int .u8 0, .int .u8 0, .int .u8 0, .int .u8 0, .int .u8 0, .int .u8 0, .int .u8 0, .int .u8 0, .int .u8 0, .int .u8 0, .int .u8 0, .int .u8 0, .int .u8 0, .int .u8 0, .int .u8 0, .int .u8 0, .int .u8 0, .int .u8 0, .int .u8 0, .int .u8 0, .int .u8 0, .int .u8 0, .int .u8 0] 23 (0, 0)) (fun w => by as_aux_lemma => kernel_rfl) ?_
  clear F H; intro aq4 a v F H
  refine T_set F H (by as_aux_lemma => kernel_rfl) rfl 0 rfl (kArr ord8aF) (S_row 0 rfl 23 (.tmp 7) (.tmp 27) rfl (by as_aux_lemma => kernel_rfl) (kArr ord8aF) (by as_aux_lemma => kernel_rfl) (by as_aux_lemma => kernel_rfl) (by as_aux_lemma => kernel_rfl) (by as_aux_lemma => kernel_rfl)) [⟨true, aq4, .cells (kArr ord8aF) 23 (0, 0)⟩, ⟨true, aq3, .cells (kArr minusF) 23 (0, 0)⟩, ⟨true, aq2, .cells (kArr (ffF 32)) 23 (0, 0)⟩, ⟨true, aq1, .cells (kArr f) 23 (0, 0)⟩] rfl ?_
  clear F H; intro a v F H
  refine T_end (hK _ _ ?_)
  clear hK K
  refine C_seqK (fun K hK => ?_)
  refine C_region ?_
  refine T_val F H (by as_aux_lemma => kernel_rfl) (.agg (kArr ord8bF)) (fun _ _ => by as_aux_lemma => kernel_rfl) ?_
  clear F; intro a F
  refine T_new F H (by as_aux_lemma => kernel_rfl) (fun ad => .pointer (some ⟨ad, 0, none⟩)) (.cells #[.int .u8 0, .int .u8 0, .int .u8 0, .int .u8 0, .int .u8 0, .int .u8 0, .int .u8 0, .int .u8 0, .int .u8 0, .int .u8 0, .int .u8 0, .int .u8 0, .int .u8 0, .int .u8 0, .int .u8 0, .int .u8 0, .int .u8 0, .int .u8 0, .int .u8 0, .int .u8 0, .int .u8 0, .int .u8 0, .int .u8 0, .int .u8 0, .int .u8 0, .int .u8 0, .int .u8 0, .int .u8 0, .int .u8 0, .int .u8 0, .int .u8 0, .int .u8 0] 23 (0, 0)) (fun w => by as_aux_lemma => kernel_rfl) ?_
  clear F H; intro aq5 a v F H
  refine T_set F H (by as_aux_lemma => kernel_rfl) rfl 0 rfl (kArr ord8bF) (S_row 0 rfl 23 (.tmp 8) (.tmp 28) rfl (by as_aux_lemma => kernel_rfl) (kArr ord8bF) (by as_aux_lemma => kernel_rfl) (by as_aux_lemma => kernel_rfl) (by as_aux_lemma => kernel_rfl) (by as_aux_lemma => kernel_rfl)) [⟨true, aq5, .cells (kArr ord8bF) 23 (0, 0)⟩, ⟨true, aq4, .cells (kArr ord8aF) 23 (0, 0)⟩, ⟨true, aq3, .cells (kArr minusF) 23 (0, 0)⟩, ⟨true, aq2, .cells (kArr (ffF 32)) 23 (0, 0)⟩, ⟨true, aq1, .cells (kArr f) 23 (0, 0)⟩] rfl ?_
  clear F H; intro a v F H
  refine T_end (hK _ _ ?_)
  clear hK K
  refine C_seqK (fun K hK => ?_)
  refine C_region ?_
  refine T_val F H (by as_aux_lemma => kernel_rfl) (.agg (kArr zeroF)) (fun _ _ => by as_aux_lemma => kernel_rfl) ?_
  clear F; intro a F
  refine T_val F H (by as_aux_lemma => kernel_rfl) (.agg (kArr oneF)) (fun _ _ => by as_aux_lemma => kernel_rfl) ?_
  clear F; intro a F
  refine T_val F H (by as_aux_lemma => kernel_rfl) (.agg (kArr minusF)) (R_load 2 rfl 23 (.tmp 6) rfl 0 (by as_aux_lemma => kernel_rfl) (kArr minusF) (part_all _) _ Tryd.underlying23 rfl (by as_aux_lemma => kernel_rfl)) ?_
  clear F; intro a F
  refine T_val F H (by as_aux_lemma => kernel_rfl) (.agg (kArr ord8aF)) (R_load 1 rfl 23 (.tmp 7) rfl 0 (by as_aux_lemma => kernel_rfl) (kArr ord8aF) (part_all _) _ Tryd.underlying23 rfl (by as_aux_lemma => kernel_rfl)) ?_
  clear F; intro a F
  refine T_val F H (by as_aux_lemma => kernel_rfl) (.agg (kArr ord8bF)) (R_load 0 rfl 23 (.tmp 8) rfl 0 (by as_aux_lemma => kernel_rfl) (kArr ord8bF) (part_all _) _ Tryd.underlying23 rfl (by as_aux_lemma => kernel_rfl)) ?_
  clear F; intro a F
  refine T_new F H (by as_aux_lemma => kernel_rfl) (fun ad => .slice (some ⟨ad, 0, none⟩) 5 5) (.cells ptsA 23 (0, 0)) (fun w => by as_aux_lemma => kernel_rfl) ?_
  clear F H; intro aq6 a v F H
  refine T_val F H (by as_aux_lemma => kernel_rfl) (.slice (some ⟨aq6, 0, none⟩) 5 5) (fun _ _ => by as_aux_lemma => kernel_rfl) ?_
  clear F; intro a F
  refine T_end (hK _ _ ?_)
  clear hK K
  replace F : Fm 74 [] [(9, .slice (some ⟨aq6, 0, none⟩) 5 5), (1, .pointer (some ⟨aq1, 0, none⟩)), (3, .bool true), (4, .pointer (some ⟨aq2, 0, none⟩)), (2, .bool false)] a := F.weak _ (⟨rfl, ⟨rfl, ⟨rfl, ⟨rfl, ⟨rfl, trivial⟩⟩⟩⟩⟩)
  replace H : Hp [] w [⟨true, aq6, .cells ptsA 23 (0, 0)⟩, ⟨true, aq1, .cells (kArr f) 23 (0, 0)⟩, ⟨true, aq2, .cells (kArr (ffF 32)) 23 (0, 0)⟩] v := H.pick [0, 5, 4] (by as_aux_lemma => kernel_rfl) _ rfl
  refine C_seqK (fun K hK => ?_)
  refine C_seqK (fun K hK => ?_)
  refine C_region ?_
  refine T_val F H (by as_aux_lemma => kernel_rfl) (.int .i64 0) (fun _ _ => by as_aux_lemma => kernel_rfl) ?_
  clear F; intro a F
  refine T_end (hK _ _ ?_)
  clear hK K
  replace F : Fm 74 [] [(10, .int .i64 0), (9, .slice (some ⟨aq6, 0, none⟩) 5 5), (1, .pointer (some ⟨aq1, 0, none⟩)), (3, .bool true), (4, .pointer (some ⟨aq2, 0, none⟩)), (2, .bool false)] a := F.weak _ (⟨rfl, ⟨rfl, ⟨rfl, ⟨rfl, ⟨rfl, ⟨rfl, trivial⟩⟩⟩⟩⟩⟩)
  refine wp_block ?_
  refine C_loop (fun m a v => ∃ k, k + m = 5 ∧ Fm 74 [] [(10, .int .i64 ((k : Nat) : Int)), (9, .slice (some ⟨aq6, 0, none⟩) 5 5), (1, .pointer (some ⟨aq1, 0, none⟩)), (3, .bool true), (4, .pointer (some ⟨aq2, 0, none⟩)), (2, .bool false)] a ∧ Hp [] w [⟨true, aq6, .cells ptsA 23 (0, 0)⟩, ⟨true, aq1, .cells (kArr f) 23 (0, 0)⟩, ⟨true, aq2, .cells (kArr (ffF 32)) 23 (0, 0)⟩] v) 5 ⟨0, rfl, F, H⟩ ?_
  clear F H
  intro m a v ⟨k, hk, F, H⟩
  refine C_seqK (fun K1 hK1 => ?_)
  rcases m with _ | m
  rotate_left
  · refine C_seqK (fun K hK => ?_)
    refine C_region ?_
    refine T_val F H (by as_aux_lemma => kernel_rfl) (.int .i64 ((k : Nat) : Int)) (fun _ _ => by as_aux_lemma => kernel_rfl) ?_
    clear F; intro a F
    refine T_val F H (by as_aux_lemma => kernel_rfl) (.slice (some ⟨aq6, 0, none⟩) 5 5) (fun _ _ => by as_aux_lemma => kernel_rfl) ?_
    clear F; intro a F
    refine T_val F H (by as_aux_lemma => kernel_rfl) (.int .i64 ((5 : Nat) : Int)) (fun _ _ => by as_aux_lemma => kernel_rfl) ?_
    clear F; intro a F
    refine T_val F H (by as_aux_lemma => kernel_rfl) (.bool true) (fun w _ => R_bin (x := (.tmp 35)) (y := (.tmp 37)) rfl (k := .i64) (a := ((k : Nat) : Int)) (b := ((5 : Nat) : Int)) (by as_aux_lemma => kernel_rfl) (by as_aux_lemma => kernel_rfl) (i_lt (by omega)) w) ?_
    clear F; intro a F
    refine T_end (hK _ _ ?_)
    clear hK K
    refine C_if F true rfl rfl ?_
    refine wp_skip ?_
    refine hK1 _ _ ?_
    clear hK1 K1
    replace F : Fm 74 [] [(10, .int .i64 ((k : Nat) : Int)), (9, .slice (some ⟨aq6, 0, none⟩) 5 5), (1, .pointer (some ⟨aq1, 0, none⟩)), (3, .bool true), (4, .pointer (some ⟨aq2, 0, none⟩)), (2, .bool false)] a := F.weak _ (⟨rfl, ⟨rfl, ⟨rfl, ⟨rfl, ⟨rfl, ⟨rfl, trivial⟩⟩⟩⟩⟩⟩)
    refine C_seqK (fun K2 hK2 => ?_)
    refine wp_block ?_
    refine C_seqK (fun K hK => ?_)
    refine D_region F H (fun β => [(41, .agg (kArr f)), (42, .slice (some ⟨aq6, 0, none⟩) 5 5), (43, .int .i64 ((k : Nat) : Int)), (44, .pointer (some ⟨aq6, (0 + k * 32), none⟩)), (45, .agg (kArr (ptsF k))), (46, .agg (kArr zeroF)), (11, .pointer (some ⟨(β 6), 0, none⟩))]) [41, 42, 43, 44, 45, 46, 11] [⟨6, 7, .cells #[.int .u8 0, .int .u8 0, .int .u8 0, .int .u8 0, .int .u8 0, .int .u8 0, .int .u8 0, .int .u8 0, .int .u8 0, .int .u8 0, .int .u8 0, .int .u8 0, .int .u8 0, .int .u8 0, .int .u8 0, .int .u8 0, .int .u8 0, .int .u8 0, .int .u8 0, .int .u8 0, .int .u8 0, .int .u8 0, .int .u8 0, .int .u8 0, .int .u8 0, .int .u8 0, .int .u8 0, .int .u8 0, .int .u8 0, .int .u8 0, .int .u8 0, .int .u8 0] 23 (0, 0), .cells (kArr zeroF) 23 (0, 0)⟩] [] [⟨true, aq6, .cells ptsA 23 (0, 0)⟩, ⟨true, aq1, .cells (kArr f) 23 (0, 0)⟩, ⟨true, aq2, .cells (kArr (ffF 32)) 23 (0, 0)⟩] [0, 1, 2] (by as_aux_lemma => kernel_rfl) (by as_aux_lemma => kernel_rfl) rfl (fun β => rfl) (fun fit => ⟨?_, ?_, ?_, ?_, ?_, ?_, ?_, ?_, trivial⟩) ?_
    · exact D_val 74 (fun β => by as_aux_lemma => kernel_rfl) (fun β => .agg (kArr f)) 41 rfl (fun β => by as_aux_lemma => kernel_rfl) (fun β => R_load 1 rfl 23 (.tmp 1) rfl 0 (by as_aux_lemma => kernel_rfl) (kArr f) (part_all _) _ Tryd.underlying23 rfl (by as_aux_lemma => kernel_rfl)) (by as_aux_lemma => kernel_rfl)
    · exact D_val 74 (fun β => by as_aux_lemma => kernel_rfl) (fun β => .slice (some ⟨aq6, 0, none⟩) 5 5) 42 rfl (fun β => by as_aux_lemma => kernel_rfl) (fun β _ _ => by as_aux_lemma => kernel_rfl) (by as_aux_lemma => kernel_rfl)
    · exact D_val 74 (fun β => by as_aux_lemma => kernel_rfl) (fun β => .int .i64 ((k : Nat) : Int)) 43 rfl (fun β => by as_aux_lemma => kernel_rfl) (fun β _ _ => by as_aux_lemma => kernel_rfl) (by as_aux_lemma => kernel_rfl)
    · exact D_val 74 (fun β => by as_aux_lemma => kernel_rfl) (fun β => .pointer (some ⟨aq6, (0 + k * 32), none⟩)) 44 rfl (fun β => by as_aux_lemma => kernel_rfl) (fun β w _ => R_indexS (k := .i64) (g := aq6) (off := 0) (len := 5) (cap := 5) (x := (.tmp 42)) (y := (.tmp 43)) rfl Tryd.underlying59 (by as_aux_lemma => kernel_rfl) k (by as_aux_lemma => kernel_rfl) (by omega) (sz := 32) (by as_aux_lemma => kernel_rfl) w) (by as_aux_lemma => kernel_rfl)
    · exact D_val 74 (fun β => by as_aux_lemma => kernel_rfl) (fun β => .agg (kArr (ptsF k))) 45 rfl (fun β => by as_aux_lemma => kernel_rfl) (fun β => R_load 0 rfl 23 (.tmp 44) rfl (0 + k * 32) (by as_aux_lemma => kernel_rfl) (kArr (ptsF k)) (pts_part k (by omega)) _ Tryd.underlying23 rfl (by as_aux_lemma => kernel_rfl)) (by as_aux_lemma => kernel_rfl)
    · exact D_call 74 (fun β => by as_aux_lemma => kernel_rfl) (fun β => .agg (kArr zeroF)) 46 rfl (fun β => by as_aux_lemma => kernel_rfl) 40 (fun β => #[.agg (kArr f), .agg (kArr (ptsF k))]) (fun β w => by as_aux_lemma => kernel_rfl) (fun β w hk => Calls.kept (by have := dr k (by omega) _ (h4.below h4p hk.below); rw [hz k (by omega)] at this; exact this)) (by as_aux_lemma => kernel_rfl)
    · exact D_new fit ⟨6, 7, .cells #[.int .u8 0, .int .u8 0, .int .u8 0, .int .u8 0, .int .u8 0, .int .u8 0, .int .u8 0, .int .u8 0, .int .u8 0, .int .u8 0, .int .u8 0, .int .u8 0, .int .u8 0, .int .u8 0, .int .u8 0, .int .u8 0, .int .u8 0, .int .u8 0, .int .u8 0, .int .u8 0, .int .u8 0, .int .u8 0, .int .u8 0, .int .u8 0, .int .u8 0, .int .u8 0, .int .u8 0, .int .u8 0, .int .u8 0, .int .u8 0, .int .u8 0, .int .u8 0] 23 (0, 0), .cells (kArr zeroF) 23 (0, 0)⟩ (List.mem_of_getElem? (i := 0) rfl) rfl 74 (fun β => by as_aux_lemma => kernel_rfl) 11 rfl (fun ad => .pointer (some ⟨ad, 0, none⟩)) (fun β w => by as_aux_lemma => kernel_rfl) (fun β => by as_aux_lemma => kernel_rfl) (fun β b => ⟨rfl, .inr rfl, ⟨rfl, .inr rfl, ⟨rfl, .inr rfl, ⟨rfl, .inr rfl, ⟨rfl, .inr rfl, ⟨rfl, .inr rfl, ⟨rfl, .inl rfl, trivial⟩⟩⟩⟩⟩⟩⟩) (by as_aux_lemma => kernel_rfl)
    · exact D_put fit ⟨6, 7, .cells #[.int .u8 0, .int .u8 0, .int .u8 0, .int .u8 0, .int .u8 0, .int .u8 0, .int .u8 0, .int .u8 0, .int .u8 0, .int .u8 0, .int .u8 0, .int .u8 0, .int .u8 0, .int .u8 0, .int .u8 0, .int .u8 0, .int .u8 0, .int .u8 0, .int .u8 0, .int .u8 0, .int .u8 0, .int .u8 0, .int .u8 0, .int .u8 0, .int .u8 0, .int .u8 0, .int .u8 0, .int .u8 0, .int .u8 0, .int .u8 0, .int .u8 0, .int .u8 0] 23 (0, 0), .cells (kArr zeroF) 23 (0, 0)⟩ (List.mem_of_getElem? (i := 0) rfl) rfl 74 (fun β => by as_aux_lemma => kernel_rfl) rfl (by as_aux_lemma => kernel_rfl) (fun β w _ hg => P_row rfl rfl (ty := 23) (x := (.tmp 11)) (y := (.tmp 46)) rfl (by as_aux_lemma => kernel_rfl) (by as_aux_lemma => kernel_rfl) (by as_aux_lemma => kernel_rfl) (by as_aux_lemma => kernel_rfl) (by as_aux_lemma => kernel_rfl) hg) (by as_aux_lemma => kernel_rfl)
    clear F H; intro β a v F H
    replace H : Hp [] w [⟨true, (β 6), .cells (kArr zeroF) 23 (0, 0)⟩, ⟨true, aq6, .cells ptsA 23 (0, 0)⟩, ⟨true, aq1, .cells (kArr f) 23 (0, 0)⟩, ⟨true, aq2, .cells (kArr (ffF 32)) 23 (0, 0)⟩] v := H
    replace F : Fm 74 [] [(11, .pointer (some ⟨(β 6), 0, none⟩)), (46, .agg (kArr zeroF)), (45, .agg (kArr (ptsF k))), (44, .pointer (some ⟨aq6, (0 + k * 32), none⟩)), (43, .int .i64 ((k : Nat) : Int)), (42, .slice (some ⟨aq6, 0, none⟩) 5 5), (41, .agg (kArr f)), (10, .int .i64 ((k : Nat) : Int)), (9, .slice (some ⟨aq6, 0, none⟩) 5 5), (1, .pointer (some ⟨aq1, 0, none⟩)), (3, .bool true), (4, .pointer (some ⟨aq2, 0, none⟩)), (2, .bool false)] a := F.weak _ (⟨rfl, ⟨rfl, ⟨rfl, ⟨rfl, ⟨rfl, ⟨rfl, ⟨rfl, ⟨rfl, ⟨rfl, ⟨rfl, ⟨rfl, ⟨rfl, ⟨rfl, trivial⟩⟩⟩⟩⟩⟩⟩⟩⟩⟩⟩⟩⟩)
    generalize β 6 = aq7 at F H
    refine hK _ _ ?_
    clear hK K
    refine C_seqK (fun K hK => ?_)
    refine D_region F H (fun β => [(48, .agg (kArr f)), (49, .slice (some ⟨aq6, 0, none⟩) 5 5), (50, .int .i64 ((k : Nat) : Int)), (51, .pointer (some ⟨aq6, (0 + k * 32), none⟩)), (52, .agg (kArr (ptsF k))), (53, .tuple #[.agg (kArr zeroF), .int .i64 30]), (47, .tuple #[.agg (kArr zeroF), .int .i64 30]), (54, .agg (kArr zeroF)), (55, .int .i64 30), (12, .pointer (some ⟨(β 9), 0, none⟩)), (13, .int .i64 30)]) [48, 49, 50, 51, 52, 53, 47, 54, 55, 12, 13] [⟨9, 10, .cells #[.int .u8 0, .int .u8 0, .int .u8 0, .int .u8 0, .int .u8 0, .int .u8 0, .int .u8 0, .int .u8 0, .int .u8 0, .int .u8 0, .int .u8 0, .int .u8 0, .int .u8 0, .int .u8 0, .int .u8 0, .int .u8 0, .int .u8 0, .int .u8 0, .int .u8 0, .int .u8 0, .int .u8 0, .int .u8 0, .int .u8 0, .int .u8 0, .int .u8 0, .int .u8 0, .int .u8 0, .int .u8 0, .int .u8 0, .int .u8 0, .int .u8 0, .int .u8 0] 23 (0, 0), .cells (kArr zeroF) 23 (0, 0)⟩] [] [⟨true, aq7, .cells (kArr zeroF) 23 (0, 0)⟩, ⟨true, aq6, .cells ptsA 23 (0, 0)⟩, ⟨true, aq1, .cells (kArr f) 23 (0, 0)⟩, ⟨true, aq2, .cells (kArr (ffF 32)) 23 (0, 0)⟩] [0, 1, 2, 3] (by as_aux_lemma => kernel_rfl) (by as_aux_lemma => kernel_rfl) rfl (fun β => rfl) (fun fit => ⟨?_, ?_, ?_, ?_, ?_, ?_, ?_, ?_, ?_, ?_, ?_, ?_, trivial⟩) ?_
    · exact D_val 74 (fun β => by as_aux_lemma => kernel_rfl) (fun β => .agg (kArr f)) 48 rfl (fun β => by as_aux_lemma => kernel_rfl) (fun β => R_load 2 rfl 23 (.tmp 1) rfl 0 (by as_aux_lemma => kernel_rfl) (kArr f) (part_all _) _ Tryd.underlying23 rfl (by as_aux_lemma => kernel_rfl)) (by as_aux_lemma => kernel_rfl)
    · exact D_val 74 (fun β => by as_aux_lemma => kernel_rfl) (fun β => .slice (some ⟨aq6, 0, none⟩) 5 5) 49 rfl (fun β => by as_aux_lemma => kernel_rfl) (fun β _ _ => by as_aux_lemma => kernel_rfl) (by as_aux_lemma => kernel_rfl)
    · exact D_val 74 (fun β => by as_aux_lemma => kernel_rfl) (fun β => .int .i64 ((k : Nat) : Int)) 50 rfl (fun β => by as_aux_lemma => kernel_rfl) (fun β _ _ => by as_aux_lemma => kernel_rfl) (by as_aux_lemma => kernel_rfl)
    · exact D_val 74 (fun β => by as_aux_lemma => kernel_rfl) (fun β => .pointer (some ⟨aq6, (0 + k * 32), none⟩)) 51 rfl (fun β => by as_aux_lemma => kernel_rfl) (fun β w _ => R_indexS (k := .i64) (g := aq6) (off := 0) (len := 5) (cap := 5) (x := (.tmp 49)) (y := (.tmp 50)) rfl Tryd.underlying59 (by as_aux_lemma => kernel_rfl) k (by as_aux_lemma => kernel_rfl) (by omega) (sz := 32) (by as_aux_lemma => kernel_rfl) w) (by as_aux_lemma => kernel_rfl)
    · exact D_val 74 (fun β => by as_aux_lemma => kernel_rfl) (fun β => .agg (kArr (ptsF k))) 52 rfl (fun β => by as_aux_lemma => kernel_rfl) (fun β => R_load 1 rfl 23 (.tmp 51) rfl (0 + k * 32) (by as_aux_lemma => kernel_rfl) (kArr (ptsF k)) (pts_part k (by omega)) _ Tryd.underlying23 rfl (by as_aux_lemma => kernel_rfl)) (by as_aux_lemma => kernel_rfl)
    · exact D_call 74 (fun β => by as_aux_lemma => kernel_rfl) (fun β => .tuple #[.agg (kArr zeroF), .int .i64 30]) 53 rfl (fun β => by as_aux_lemma => kernel_rfl) 41 (fun β => #[.agg (kArr f), .agg (kArr (ptsF k))]) (fun β w => by as_aux_lemma => kernel_rfl) (fun β w hk => Calls.kept (by have := dm k (by omega) _ (h4.below h4p hk.below); rw [he k (by omega), hmk k (by omega)] at this; exact this)) (by as_aux_lemma => kernel_rfl)
    · exact D_val 74 (fun β => by as_aux_lemma => kernel_rfl) (fun β => .tuple #[.agg (kArr zeroF), .int .i64 30]) 47 rfl (fun β => by as_aux_lemma => kernel_rfl) (fun β _ _ => by as_aux_lemma => kernel_rfl) (by as_aux_lemma => kernel_rfl)
    · exact D_val 74 (fun β => by as_aux_lemma => kernel_rfl) (fun β => .agg (kArr zeroF)) 54 rfl (fun β => by as_aux_lemma => kernel_rfl) (fun β _ _ => by as_aux_lemma => kernel_rfl) (by as_aux_lemma => kernel_rfl)
    · exact D_val 74 (fun β => by as_aux_lemma => kernel_rfl) (fun β => .int .i64 30) 55 rfl (fun β => by as_aux_lemma => kernel_rfl) (fun β _ _ => by as_aux_lemma => kernel_rfl) (by as_aux_lemma => kernel_rfl)
    · exact D_new fit ⟨9, 10, .cells #[.int .u8 0, .int .u8 0, .int .u8 0, .int .u8 0, .int .u8 0, .int .u8 0, .int .u8 0, .int .u8 0, .int .u8 0, .int .u8 0, .int .u8 0, .int .u8 0, .int .u8 0, .int .u8 0, .int .u8 0, .int .u8 0, .int .u8 0, .int .u8 0, .int .u8 0, .int .u8 0, .int .u8 0, .int .u8 0, .int .u8 0, .int .u8 0, .int .u8 0, .int .u8 0, .int .u8 0, .int .u8 0, .int .u8 0, .int .u8 0, .int .u8 0, .int .u8 0] 23 (0, 0), .cells (kArr zeroF) 23 (0, 0)⟩ (List.mem_of_getElem? (i := 0) rfl) rfl 74 (fun β => by as_aux_lemma => kernel_rfl) 12 rfl (fun ad => .pointer (some ⟨ad, 0, none⟩)) (fun β w => by as_aux_lemma => kernel_rfl) (fun β => by as_aux_lemma => kernel_rfl) (fun β b => ⟨rfl, .inr rfl, ⟨rfl, .inr rfl, ⟨rfl, .inr rfl, ⟨rfl, .inr rfl, ⟨rfl, .inr rfl, ⟨rfl, .inr rfl, ⟨rfl, .inr rfl, ⟨rfl, .inr rfl, ⟨rfl, .inr rfl, ⟨rfl, .inl rfl, ⟨rfl, .inr rfl, trivial⟩⟩⟩⟩⟩⟩⟩⟩⟩⟩⟩) (by as_aux_lemma => kernel_rfl)
    · exact D_put fit ⟨9, 10, .cells #[.int .u8 0, .int .u8 0, .int .u8 0, .int .u8 0, .int .u8 0, .int .u8 0, .int .u8 0, .int .u8 0, .int .u8 0, .int .u8 0, .int .u8 0, .int .u8 0, .int .u8 0, .int .u8 0, .int .u8 0, .int .u8 0, .int .u8 0, .int .u8 0, .int .u8 0, .int .u8 0, .int .u8 0, .int .u8 0, .int .u8 0, .int .u8 0, .int .u8 0, .int .u8 0, .int .u8 0, .int .u8 0, .int .u8 0, .int .u8 0, .int .u8 0, .int .u8 0] 23 (0, 0), .cells (kArr zeroF) 23 (0, 0)⟩ (List.mem_of_getElem? (i := 0) rfl) rfl 74 (fun β => by as_aux_lemma => kernel_rfl) rfl (by as_aux_lemma => kernel_rfl) (fun β w _ hg => P_row rfl rfl (ty := 23) (x := (.tmp 12)) (y := (.tmp 54)) rfl (by as_aux_lemma => kernel_rfl) (by as_aux_lemma => kernel_rfl) (by as_aux_lemma => kernel_rfl) (by as_aux_lemma => kernel_rfl) (by as_aux_lemma => kernel_rfl) hg) (by as_aux_lemma => kernel_rfl)
    · exact D_val 74 (fun β => by as_aux_lemma => kernel_rfl) (fun β => .int .i64 30) 13 rfl (fun β => by as_aux_lemma => kernel_rfl) (fun β _ _ => by as_aux_lemma => kernel_rfl) (by as_aux_lemma => kernel_rfl)
    clear F H; intro β a v F H
    replace H : Hp [] w [⟨true, (β 9), .cells (kArr zeroF) 23 (0, 0)⟩, ⟨true, aq7, .cells (kArr zeroF) 23 (0, 0)⟩, ⟨true, aq6, .cells ptsA 23 (0, 0)⟩, ⟨true, aq1, .cells (kArr f) 23 (0, 0)⟩, ⟨true, aq2, .cells (kArr (ffF 32)) 23 (0, 0)⟩] v := H
    replace F : Fm 74 [] [(13, .int .i64 30), (12, .pointer (some ⟨(β 9), 0, none⟩)), (55, .int .i64 30), (54, .agg (kArr zeroF)), (47, .tuple #[.agg (kArr zeroF), .int .i64 30]), (53, .tuple #[.agg (kArr zeroF), .int .i64 30]), (52, .agg (kArr (ptsF k))), (51, .pointer (some ⟨aq6, (0 + k * 32), none⟩)), (50, .int .i64 ((k : Nat) : Int)), (49, .slice (some ⟨aq6, 0, none⟩) 5 5), (48, .agg (kArr f)), (11, .pointer (some ⟨aq7, 0, none⟩)), (46, .agg (kArr zeroF)), (45, .agg (kArr (ptsF k))), (44, .pointer (some ⟨aq6, (0 + k * 32), none⟩)), (43, .int .i64 ((k : Nat) : Int)), (42, .slice (some ⟨aq6, 0, none⟩) 5 5), (41, .agg (kArr f)), (10, .int .i64 ((k : Nat) : Int)), (9, .slice (some ⟨aq6, 0, none⟩) 5 5), (1, .pointer (some ⟨aq1, 0, none⟩)), (3, .bool true), (4, .pointer (some ⟨aq2, 0, none⟩)), (2, .bool false)] a := F.weak _ (⟨rfl, ⟨rfl, ⟨rfl, ⟨rfl, ⟨rfl, ⟨rfl, ⟨rfl, ⟨rfl, ⟨rfl, ⟨rfl, ⟨rfl, ⟨rfl, ⟨rfl, ⟨rfl, ⟨rfl, ⟨rfl, ⟨rfl, ⟨rfl, ⟨rfl, ⟨rfl, ⟨rfl, ⟨rfl, ⟨rfl, ⟨rfl, trivial⟩⟩⟩⟩⟩⟩⟩⟩⟩⟩⟩⟩⟩⟩⟩⟩⟩⟩⟩⟩⟩⟩⟩⟩)
    generalize β 9 = aq8 at F H
    refine hK _ _ ?_
    clear hK K
    refine C_seqK (fun K hK => ?_)
    refine C_region ?_
    refine T_val F H (by as_aux_lemma => kernel_rfl) (.agg (kArr zeroF)) (R_load 1 rfl 23 (.tmp 11) rfl 0 (by as_aux_lemma => kernel_rfl) (kArr zeroF) (part_all _) _ Tryd.underlying23 rfl (by as_aux_lemma => kernel_rfl)) ?_
    clear F; intro a F
    refine T_val F H (by as_aux_lemma => kernel_rfl) (.agg (kArr zeroF)) (fun _ _ => by as_aux_lemma => kernel_rfl) ?_
    clear F; intro a F
    refine T_val F H (by as_aux_lemma => kernel_rfl) (.bool false) (fun w _ => R_neqk (x := (.tmp 56)) (y := (.tmp 57)) rfl zeroF zeroF (by as_aux_lemma => kernel_rfl) (by as_aux_lemma => kernel_rfl) false ⟨fun _ _ _ => rfl, fun _ => rfl⟩ w) ?_
    clear F; intro a F
    refine T_val F H (by as_aux_lemma => kernel_rfl) (.bool false) (fun _ _ => by as_aux_lemma => kernel_rfl) ?_
    clear F; intro a F
    refine T_val F H (by as_aux_lemma => kernel_rfl) (.int .i64 30) (fun _ _ => by as_aux_lemma => kernel_rfl) ?_
    clear F; intro a F
    refine T_val F H (by as_aux_lemma => kernel_rfl) (.bool false) (fun w _ => R_bin (x := (.tmp 60)) (y := (.const (.int .i64 30))) rfl (k := .i64) (a := 30) (b := 30) (by as_aux_lemma => kernel_rfl) (by as_aux_lemma => kernel_rfl) rfl w) ?_
    clear F; intro a F
    refine T_val F H (by as_aux_lemma => kernel_rfl) (.bool false) (fun _ _ => by as_aux_lemma => kernel_rfl) ?_
    clear F; intro a F
    refine T_end (hK _ _ ?_)
    clear hK K
    refine C_if F false rfl rfl ?_
    refine wp_skip ?_
    refine hK2 _ _ ?_
    clear hK2 K2
    replace F : Fm 74 [] [(10, .int .i64 ((k : Nat) : Int)), (9, .slice (some ⟨aq6, 0, none⟩) 5 5), (1, .pointer (some ⟨aq1, 0, none⟩)), (3, .bool true), (4, .pointer (some ⟨aq2, 0, none⟩)), (2, .bool false)] a := F.weak _ (⟨rfl, ⟨rfl, ⟨rfl, ⟨rfl, ⟨rfl, ⟨rfl, trivial⟩⟩⟩⟩⟩⟩)
    refine C_region ?_
    refine T_val F H (by as_aux_lemma => kernel_rfl) (.int .i64 ((k : Nat) : Int)) (fun _ _ => by as_aux_lemma => kernel_rfl) ?_
    clear F; intro a F
    refine T_val F H (by as_aux_lemma => kernel_rfl) (.int .i64 ((k + 1 : Nat) : Int)) (fun w _ => R_bin (x := (.tmp 39)) (y := (.const (.int .i64 1))) rfl (k := .i64) (a := ((k : Nat) : Int)) (b := 1) (by as_aux_lemma => kernel_rfl) (by as_aux_lemma => kernel_rfl) (i_addn64 (a := k) (b := 1) (by omega)) w) ?_
    clear F; intro a F
    refine T_val F H (by as_aux_lemma => kernel_rfl) (.int .i64 ((k + 1 : Nat) : Int)) (fun _ _ => by as_aux_lemma => kernel_rfl) ?_
    clear F; intro a F
    refine wpList_nil ?_
    replace F : Fm 74 [] [(10, .int .i64 ((k + 1 : Nat) : Int)), (9, .slice (some ⟨aq6, 0, none⟩) 5 5), (1, .pointer (some ⟨aq1, 0, none⟩)), (3, .bool true), (4, .pointer (some ⟨aq2, 0, none⟩)), (2, .bool false)] a := F.weak _ (⟨rfl, ⟨rfl, ⟨rfl, ⟨rfl, ⟨rfl, ⟨rfl, trivial⟩⟩⟩⟩⟩⟩)
    replace H : Hp [] w [⟨true, aq6, .cells ptsA 23 (0, 0)⟩, ⟨true, aq1, .cells (kArr f) 23 (0, 0)⟩, ⟨true, aq2, .cells (kArr (ffF 32)) 23 (0, 0)⟩] v := H.pick [2, 3, 4] (by as_aux_lemma => kernel_rfl) _ rfl
    exact ⟨m, Nat.lt_succ_self m, k + 1, by omega, F, H⟩
  refine C_seqK (fun K hK => ?_)
  refine C_region ?_
  refine T_val F H (by as_aux_lemma => kernel_rfl) (.int .i64 ((k : Nat) : Int)) (fun _ _ => by as_aux_lemma => kernel_rfl) ?_
  clear F; intro a F
  refine T_val F H (by as_aux_lemma => kernel_rfl) (.slice (some ⟨aq6, 0, none⟩) 5 5) (fun _ _ => by as_aux_lemma => kernel_rfl) ?_
  clear F; intro a F
  refine T_val F H (by as_aux_lemma => kernel_rfl) (.int .i64 ((5 : Nat) : Int)) (fun _ _ => by as_aux_lemma => kernel_rfl) ?_
  clear F; intro a F
  refine T_val F H (by as_aux_lemma => kernel_rfl) (.bool false) (fun w _ => R_bin (x := (.tmp 35)) (y := (.tmp 37)) rfl (k := .i64) (a := ((k : Nat) : Int)) (b := ((5 : Nat) : Int)) (by as_aux_lemma => kernel_rfl) (by as_aux_lemma => kernel_rfl) (i_nlt (by omega)) w) ?_
  clear F; intro a F
  refine T_end (hK _ _ ?_)
  clear hK K
  refine C_if F false rfl rfl ?_
  refine wp_exit ?_
  refine hK _ _ ?_
  clear hK1 K1 hK K
  refine C_seqK (fun K hK => ?_)
  refine C_region ?_
  refine T_val F H (by as_aux_lemma => kernel_rfl) (.agg (kArr f)) (R_load 1 rfl 23 (.tmp 1) rfl 0 (by as_aux_lemma => kernel_rfl) (kArr f) (part_all _) _ Tryd.underlying23 rfl (by as_aux_lemma => kernel_rfl)) ?_
  clear F; intro a F
  refine T_val F H (by as_aux_lemma => kernel_rfl) (.agg (kArr (ffF 32))) (R_load 2 rfl 23 (.tmp 4) rfl 0 (by as_aux_lemma => kernel_rfl) (kArr (ffF 32)) (part_all _) _ Tryd.underlying23 rfl (by as_aux_lemma => kernel_rfl)) ?_
  clear F; intro a F
  refine T_call F H (by as_aux_lemma => kernel_rfl) 41 #[.agg (kArr f), .agg (kArr (ffF 32))] (.tuple #[.agg (kArr RA), .int .i64 30]) (fun w => by as_aux_lemma => kernel_rfl) (Calls.kept (da _ (h4.below h4p H.kept.below))) ?_
  clear F H; intro a v F H
  refine T_val F H (by as_aux_lemma => kernel_rfl) (.tuple #[.agg (kArr RA), .int .i64 30]) (fun _ _ => by as_aux_lemma => kernel_rfl) ?_
  clear F; intro a F
  refine T_val F H (by as_aux_lemma => kernel_rfl) (.agg (kArr RA)) (fun _ _ => by as_aux_lemma => kernel_rfl) ?_
  clear F; intro a F
  refine T_val F H (by as_aux_lemma => kernel_rfl) (.int .i64 30) (fun _ _ => by as_aux_lemma => kernel_rfl) ?_
  clear F; intro a F
  refine T_new F H (by as_aux_lemma => kernel_rfl) (fun ad => .pointer (some ⟨ad, 0, none⟩)) (.cells #[.int .u8 0, .int .u8 0, .int .u8 0, .int .u8 0, .int .u8 0, .int .u8 0, .int .u8 0, .int .u8 0, .int .u8 0, .int .u8 0, .int .u8 0, .int .u8 0, .int .u8 0, .int .u8 0, .int .u8 0, .int .u8 0, .int .u8 0, .int .u8 0, .int .u8 0, .int .u8 0, .int .u8 0, .int .u8 0, .int .u8 0, .int .u8 0, .int .u8 0, .int .u8 0, .int .u8 0, .int .u8 0, .int .u8 0, .int .u8 0, .int .u8 0, .int .u8 0] 23 (0, 0)) (fun w => by as_aux_lemma => kernel_rfl) ?_
  clear F H; intro aq9 a v F H
  refine T_set F H (by as_aux_lemma => kernel_rfl) rfl 0 rfl (kArr RA) (S_row 0 rfl 23 (.tmp 14) (.tmp 67) rfl (by as_aux_lemma => kernel_rfl) (kArr RA) (by as_aux_lemma => kernel_rfl) (by as_aux_lemma => kernel_rfl) (by as_aux_lemma => kernel_rfl) (by as_aux_lemma => kernel_rfl)) [⟨true, aq9, .cells (kArr RA) 23 (0, 0)⟩, ⟨true, aq6, .cells ptsA 23 (0, 0)⟩, ⟨true, aq1, .cells (kArr f) 23 (0, 0)⟩, ⟨true, aq2, .cells (kArr (ffF 32)) 23 (0, 0)⟩] rfl ?_
  clear F H; intro a v F H
  refine T_val F H (by as_aux_lemma => kernel_rfl) (.int .i64 30) (fun _ _ => by as_aux_lemma => kernel_rfl) ?_
  clear F; intro a F
  refine T_end (hK _ _ ?_)
  clear hK K
  refine C_seqK (fun K hK => ?_)
  refine C_region ?_
  refine T_val F H (by as_aux_lemma => kernel_rfl) (.bool true) (fun _ _ => by as_aux_lemma => kernel_rfl) ?_
  clear F; intro a F
  refine T_val F H (by as_aux_lemma => kernel_rfl) (.bool true) (fun _ _ => by as_aux_lemma => kernel_rfl) ?_
  clear F; intro a F
  refine T_val F H (by as_aux_lemma => kernel_rfl) (.int .i64 30) (fun _ _ => by as_aux_lemma => kernel_rfl) ?_
  clear F; intro a F
  refine T_val F H (by as_aux_lemma => kernel_rfl) (.bool true) (fun w _ => R_bin (x := (.tmp 71)) (y := (.const (.int .i64 30))) rfl (k := .i64) (a := 30) (b := 30) (by as_aux_lemma => kernel_rfl) (by as_aux_lemma => kernel_rfl) rfl w) ?_
  clear F; intro a F
  refine T_val F H (by as_aux_lemma => kernel_rfl) (.bool true) (fun _ _ => by as_aux_lemma => kernel_rfl) ?_
  clear F; intro a F
  refine T_val F H (by as_aux_lemma => kernel_rfl) (.bool true) (fun _ _ => by as_aux_lemma => kernel_rfl) ?_
  clear F; intro a F
  refine T_end (hK _ _ ?_)
  clear hK K
  refine wp_ret ?_
  exact C_ret F H (rs := [.tmp 2]) rfl (vs := [.bool true]) (.tmp rfl .nil) (.bool true) rfl ⟨rfl, H.kept.below⟩

end Go.Proofs.YtdmioipdmdmkhaaDoor
