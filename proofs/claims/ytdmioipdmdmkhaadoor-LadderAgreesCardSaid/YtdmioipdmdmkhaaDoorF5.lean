/- The ladder's reference: Clamp, Raw, Mult, Public; by rules. -/
import Derived.Test.YtdmioipdmdmkhaaDoorF4
import Derived.Test.YtdmioipdmdmkhaaDoorH4
import Derived.Test.YtdmioipdmdmkhaaDoorE3
set_option linter.unusedVariables false
set_option linter.unusedSimpArgs false
namespace Go.Proofs.YtdmioipdmdmkhaaDoor
open Go.RowKit
theorem and248 : ∀ a, a < 256 → a / 8 * 8 = a &&& 248 := by decide +kernel
theorem or64 : ∀ a, a < 256 → a % 64 + 64 = a &&& 127 ||| 64 := by decide +kernel
theorem rclampF_at (f : Nat → Nat) (hf : ∀ b, b < 32 → f b < 256) (i : Nat) : upd (upd f 0 (f 0 / 8 * 8)) 31 ((upd f 0 (f 0 / 8 * 8)) 31 % 64 + 64) i = clampF f i := by
  unfold upd clampF
  have h0 := hf 0 (by omega)
  have h31 := hf 31 (by omega)
  by_cases h0' : i = 0
  · subst h0'; simp [and248 _ h0]
  · by_cases h1 : i = 31
    · subst h1; simp [or64 _ h31]
    · simp [h0', h1]
set_option maxRecDepth 100000 in
set_option maxHeartbeats 4000000 in
theorem rclamp_any (f : Nat → Nat) (hf : ∀ b, b < 32 → f b < 256) (w : World) : Calls Tryd.prog 43 #[.agg (kArr f)] w fun e w' => e = .returned (.agg (kArr (clampF f))) ∧ Below w.heap.size w w' := by
  refine C_enter Tryd.func43 rfl 14 Tryd.ntmps43 (Nat.le_of_ble_eq_true rfl) (fun a F => ?_)
  have H := Hp.start [] w
  replace F : Fm 14 [] [(0, .agg (kArr f))] a := F.weak _ (⟨rfl, trivial⟩)
  refine C_seqK (fun K hK => ?_)
  refine C_region ?_
  refine T_new F H (by as_aux_lemma => kernel_rfl) (fun ad => .pointer (some ⟨ad, 0, none⟩)) (.cells (kArr f) 23 (0, 0)) (fun w => by as_aux_lemma => kernel_rfl) ?_
  clear F H; intro aq1 a v F H
  refine T_new F H (by as_aux_lemma => kernel_rfl) (fun ad => .pointer (some ⟨ad, 0, none⟩)) (.cells z32 23 (0, 0)) (fun w => by as_aux_lemma => kernel_rfl) ?_
  clear F H; intro aq2 a v F H
  refine T_end (hK _ _ ?_)
  clear hK K
  refine C_seqK (fun K hK => ?_)
  refine C_region ?_
  refine T_val F H (by as_aux_lemma => kernel_rfl) (.pointer (some ⟨aq1, 0, none⟩)) (fun _ _ => by as_aux_lemma => kernel_rfl) ?_
  clear F; intro a F
  refine T_val F H (by as_aux_lemma => kernel_rfl) (.int .u8 ((f 0 : Nat) : Int)) (R_cell (own := true) (g := aq1) (all := (kArr f)) (t := 23) (fr := (0, 0)) 1 (by as_aux_lemma => kernel_rfl) 5 (.tmp 3) rfl 0 (by as_aux_lemma => kernel_rfl) (.int .u8 ((f 0 : Nat) : Int)) (by as_aux_lemma => kernel_rfl) _ Tryd.underlying5 rfl) ?_
  clear F; intro a F
  refine T_val F H (by as_aux_lemma => kernel_rfl) (.int .u8 ((f 0 / 8 : Nat) : Int)) (fun w _ => R_bin (x := (.tmp 4)) (y := (.const (.int .u8 8))) rfl (k := .u8) (a := ((f 0 : Nat) : Int)) (b := 8) (by as_aux_lemma => kernel_rfl) (by as_aux_lemma => kernel_rfl) (i_quo8 (a := f 0) (b := 8) (by omega) (hf 0 (by omega))) w) ?_
  clear F; intro a F
  refine T_val F H (by as_aux_lemma => kernel_rfl) (.int .u8 ((f 0 / 8 * 8 : Nat) : Int)) (fun w _ => R_bin (x := (.tmp 5)) (y := (.const (.int .u8 8))) rfl (k := .u8) (a := ((f 0 / 8 : Nat) : Int)) (b := 8) (by as_aux_lemma => kernel_rfl) (by as_aux_lemma => kernel_rfl) (i_mul8 (a := f 0 / 8) (b := 8) (by have := hf 0 (by omega); omega)) w) ?_
  clear F; intro a F
  refine T_val F H (by as_aux_lemma => kernel_rfl) (.pointer (some ⟨aq1, 0, none⟩)) (fun _ _ => by as_aux_lemma => kernel_rfl) ?_
  clear F; intro a F
  refine T_set F H (by as_aux_lemma => kernel_rfl) rfl 1 rfl _ (S_cell 1 rfl 5 (.tmp 7) (.tmp 6) rfl 0 (by as_aux_lemma => kernel_rfl) (.int .u8 ((f 0 / 8 * 8 : Nat) : Int)) (by as_aux_lemma => kernel_rfl) rfl (Nat.le_of_ble_eq_true rfl) _ Tryd.underlying5 rfl (by as_aux_lemma => kernel_rfl)) [⟨true, aq2, .cells z32 23 (0, 0)⟩, ⟨true, aq1, .cells (kArr (upd f 0 (f 0 / 8 * 8))) 23 (0, 0)⟩] (by as_aux_lemma => kernel_rfl) ?_
  clear F H; intro a v F H
  refine T_end (hK _ _ ?_)
  clear hK K
  refine C_seqK (fun K hK => ?_)
  refine C_region ?_
  refine T_val F H (by as_aux_lemma => kernel_rfl) (.pointer (some ⟨aq1, 31, none⟩)) (fun _ _ => by as_aux_lemma => kernel_rfl) ?_
  clear F; intro a F
  refine T_val F H (by as_aux_lemma => kernel_rfl) (.int .u8 (((upd f 0 (f 0 / 8 * 8)) 31 : Nat) : Int)) (R_cell (own := true) (g := aq1) (all := (kArr (upd f 0 (f 0 / 8 * 8)))) (t := 23) (fr := (0, 0)) 1 (by as_aux_lemma => kernel_rfl) 5 (.tmp 8) rfl 31 (by as_aux_lemma => kernel_rfl) (.int .u8 (((upd f 0 (f 0 / 8 * 8)) 31 : Nat) : Int)) (by as_aux_lemma => kernel_rfl) _ Tryd.underlying5 rfl) ?_
  clear F; intro a F
  refine T_val F H (by as_aux_lemma => kernel_rfl) (.int .u8 (((upd f 0 (f 0 / 8 * 8)) 31 % 64 : Nat) : Int)) (fun w _ => R_bin (x := (.tmp 9)) (y := (.const (.int .u8 64))) rfl (k := .u8) (a := (((upd f 0 (f 0 / 8 * 8)) 31 : Nat) : Int)) (b := 64) (by as_aux_lemma => kernel_rfl) (by as_aux_lemma => kernel_rfl) (i_rem8 (a := (upd f 0 (f 0 / 8 * 8)) 31) (b := 64) (by omega)) w) ?_
  clear F; intro a F
  refine T_val F H (by as_aux_lemma => kernel_rfl) (.int .u8 (((upd f 0 (f 0 / 8 * 8)) 31 % 64 + 64 : Nat) : Int)) (fun w _ => R_bin (x := (.tmp 10)) (y := (.const (.int .u8 64))) rfl (k := .u8) (a := (((upd f 0 (f 0 / 8 * 8)) 31 % 64 : Nat) : Int)) (b := 64) (by as_aux_lemma => kernel_rfl) (by as_aux_lemma => kernel_rfl) (i_add8 (a := (upd f 0 (f 0 / 8 * 8)) 31 % 64) (b := 64) (by omega)) w) ?_
  clear F; intro a F
  refine T_val F H (by as_aux_lemma => kernel_rfl) (.pointer (some ⟨aq1, 31, none⟩)) (fun _ _ => by as_aux_lemma => kernel_rfl) ?_
  clear F; intro a F
  refine T_set F H (by as_aux_lemma => kernel_rfl) rfl 1 rfl _ (S_cell 1 rfl 5 (.tmp 12) (.tmp 11) rfl 31 (by as_aux_lemma => kernel_rfl) (.int .u8 (((upd f 0 (f 0 / 8 * 8)) 31 % 64 + 64 : Nat) : Int)) (by as_aux_lemma => kernel_rfl) rfl (Nat.le_of_ble_eq_true rfl) _ Tryd.underlying5 rfl (by as_aux_lemma => kernel_rfl)) [⟨true, aq2, .cells z32 23 (0, 0)⟩, ⟨true, aq1, .cells (kArr (upd (upd f 0 (f 0 / 8 * 8)) 31 ((upd f 0 (f 0 / 8 * 8)) 31 % 64 + 64))) 23 (0, 0)⟩] (by as_aux_lemma => kernel_rfl) ?_
  clear F H; intro a v F H
  refine T_end (hK _ _ ?_)
  clear hK K
  refine C_seqK (fun K hK => ?_)
  refine C_region ?_
  refine T_val F H (by as_aux_lemma => kernel_rfl) (.agg (kArr (upd (upd f 0 (f 0 / 8 * 8)) 31 ((upd f 0 (f 0 / 8 * 8)) 31 % 64 + 64)))) (R_load (own := true) (g := aq1) (all := (kArr (upd (upd f 0 (f 0 / 8 * 8)) 31 ((upd f 0 (f 0 / 8 * 8)) 31 % 64 + 64)))) (t := 23) (fr := (0, 0)) 1 (by as_aux_lemma => kernel_rfl) 23 (.tmp 1) rfl 0 (by as_aux_lemma => kernel_rfl) (kArr (upd (upd f 0 (f 0 / 8 * 8)) 31 ((upd f 0 (f 0 / 8 * 8)) 31 % 64 + 64))) (part_all _) _ Tryd.underlying23 rfl (by as_aux_lemma => kernel_rfl)) ?_
  clear F; intro a F
  refine T_set F H (by as_aux_lemma => kernel_rfl) rfl 0 rfl (kArr (upd (upd f 0 (f 0 / 8 * 8)) 31 ((upd f 0 (f 0 / 8 * 8)) 31 % 64 + 64))) (S_row 0 rfl 23 (.tmp 2) (.tmp 13) rfl (by as_aux_lemma => kernel_rfl) (kArr (upd (upd f 0 (f 0 / 8 * 8)) 31 ((upd f 0 (f 0 / 8 * 8)) 31 % 64 + 64))) (by as_aux_lemma => kernel_rfl) (by as_aux_lemma => kernel_rfl) (by as_aux_lemma => kernel_rfl) (by as_aux_lemma => kernel_rfl)) [⟨true, aq2, .cells (kArr (upd (upd f 0 (f 0 / 8 * 8)) 31 ((upd f 0 (f 0 / 8 * 8)) 31 % 64 + 64))) 23 (0, 0)⟩, ⟨true, aq1, .cells (kArr (upd (upd f 0 (f 0 / 8 * 8)) 31 ((upd f 0 (f 0 / 8 * 8)) 31 % 64 + 64))) 23 (0, 0)⟩] rfl ?_
  clear F H; intro a v F H
  refine T_end (hK _ _ ?_)
  clear hK K
  refine wp_ret ?_
  exact C_ret F H (rs := [.cell 2 23]) rfl (vs := [.agg (kArr (upd (upd f 0 (f 0 / 8 * 8)) 31 ((upd f 0 (f 0 / 8 * 8)) 31 % 64 + 64)))]) (.row 0 rfl rfl _ Tryd.underlying23 rfl (by as_aux_lemma => kernel_rfl) .nil) (.agg (kArr (upd (upd f 0 (f 0 / 8 * 8)) 31 ((upd f 0 (f 0 / 8 * 8)) 31 % 64 + 64)))) rfl ⟨congrArg Ending.returned (congrArg Value.agg (kArr_congr fun i hi => rclampF_at f hf i)), H.kept.below⟩

theorem lad_lt (c : Nat → Nat) {u : Nat} (hu : u < pr) : ∀ k, (ladS c u k).a < pr ∧ (ladS c u k).b < pr ∧ (ladS c u k).s < pr ∧ (ladS c u k).t < pr
  | 0 => ⟨show (1 : Nat) < pr by decide, show (0 : Nat) < pr by decide, hu, show (1 : Nat) < pr by decide⟩
  | k + 1 => ⟨Nat.mod_lt _ pr_pos, Nat.mod_lt _ pr_pos, Nat.mod_lt _ pr_pos, Nat.mod_lt _ pr_pos⟩
theorem ladBit_nat (c : Nat → Nat) (i : Nat) : c (i / 8) >>> (i % 8) &&& 1 = (ladBit c i).toNat := by
  unfold ladBit
  have h := Nat.and_one_is_mod (c (i / 8) >>> (i % 8))
  generalize c (i / 8) >>> (i % 8) &&& 1 = x at *
  have : x = 0 ∨ x = 1 := by omega
  rcases this with rfl | rfl <;> rfl
set_option maxRecDepth 100000 in
set_option maxHeartbeats 4000000 in
theorem rraw_any (f : Nat → Nat) (hf : ∀ b, b < 32 → f b < 256) (g : Nat → Nat) (hg : ∀ b, b < 32 → g b < 256) (w : World) : Calls Tryd.prog 44 #[.agg (kArr f), .agg (kArr g)] w fun e w' => e = .returned (.agg (kArr (byteOf (rawN (clampF f) (kVal g % two255 % pr))))) ∧ Below w.heap.size w w' := by
  have hc := clampF_lt hf
  have dcl := fun w => rclamp_any f hf w
  generalize clampF f = c at hc dcl ⊢
  have dof := fun w => rof_any g hg w
  have hu : kVal g % two255 % pr < pr := Nat.mod_lt _ pr_pos
  generalize kVal g % two255 % pr = nu at dof hu ⊢
  generalize decide (kVal g < pr) = bw at dof
  have s1 := fun w => rsmall_any 1 (by omega) w
  have s0 := fun w => rsmall_any 0 (by omega) w
  have sk := fun w => rsmall_any 121665 (by omega) w
  unfold numV at dof s1 s0 sk
  refine C_enter Tryd.func44 rfl 117 Tryd.ntmps44 (Nat.le_of_ble_eq_true rfl) (fun a F => ?_)
  have H := Hp.start [] w
  replace F : Fm 117 [] [(0, .agg (kArr f)), (1, .agg (kArr g))] a := F.weak _ (⟨rfl, ⟨rfl, trivial⟩⟩)
  refine C_seqK (fun K hK => ?_)
  refine C_region ?_
  refine T_new F H (by as_aux_lemma => kernel_rfl) (fun ad => .pointer (some ⟨ad, 0, none⟩)) (.cells (kArr f) 23 (0, 0)) (fun w => by as_aux_lemma => kernel_rfl) ?_
  clear F H; intro aq1 a v F H
  refine T_new F H (by as_aux_lemma => kernel_rfl) (fun ad => .pointer (some ⟨ad, 0, none⟩)) (.cells (kArr g) 23 (0, 0)) (fun w => by as_aux_lemma => kernel_rfl) ?_
  clear F H; intro aq2 a v F H
  refine T_new F H (by as_aux_lemma => kernel_rfl) (fun ad => .pointer (some ⟨ad, 0, none⟩)) (.cells z32 23 (0, 0)) (fun w => by as_aux_lemma => kernel_rfl) ?_
  clear F H; intro aq3 a v F H
  refine T_end (hK _ _ ?_)
  clear hK K
  refine C_seqK (fun K hK => ?_)
  refine C_region ?_
  refine T_val F H (by as_aux_lemma => kernel_rfl) (.agg (kArr f)) (R_load (own := true) (g := aq1) (all := (kArr f)) (t := 23) (fr := (0, 0)) 2 (by as_aux_lemma => kernel_rfl) 23 (.tmp 2) rfl 0 (by as_aux_lemma => kernel_rfl) (kArr f) (part_all _) _ Tryd.underlying23 rfl (by as_aux_lemma => kernel_rfl)) ?_
  clear F; intro a F
  refine T_call F H (by as_aux_lemma => kernel_rfl) 43 #[.agg (kArr f)] (.agg (kArr c)) (fun w => by as_aux_lemma => kernel_rfl) (Calls.kept (dcl _)) ?_
  clear F H; intro a v F H
  refine T_new F H (by as_aux_lemma => kernel_rfl) (fun ad => .pointer (some ⟨ad, 0, none⟩)) (.cells z32 23 (0, 0)) (fun w => by as_aux_lemma => kernel_rfl) ?_
  clear F H; intro aq4 a v F H
  refine T_set F H (by as_aux_lemma => kernel_rfl) rfl 0 rfl (kArr c) (S_row 0 rfl 23 (.tmp 5) (.tmp 24) rfl (by as_aux_lemma => kernel_rfl) (kArr c) (by as_aux_lemma => kernel_rfl) (by as_aux_lemma => kernel_rfl) (by as_aux_lemma => kernel_rfl) (by as_aux_lemma => kernel_rfl)) [⟨true, aq4, .cells (kArr c) 23 (0, 0)⟩, ⟨true, aq3, .cells z32 23 (0, 0)⟩, ⟨true, aq2, .cells (kArr g) 23 (0, 0)⟩, ⟨true, aq1, .cells (kArr f) 23 (0, 0)⟩] rfl ?_
  clear F H; intro a v F H
  refine T_end (hK _ _ ?_)
  clear hK K
  refine C_seqK (fun K hK => ?_)
  refine C_region ?_
  refine T_val F H (by as_aux_lemma => kernel_rfl) (.agg (kArr g)) (R_load (own := true) (g := aq2) (all := (kArr g)) (t := 23) (fr := (0, 0)) 2 (by as_aux_lemma => kernel_rfl) 23 (.tmp 3) rfl 0 (by as_aux_lemma => kernel_rfl) (kArr g) (part_all _) _ Tryd.underlying23 rfl (by as_aux_lemma => kernel_rfl)) ?_
  clear F; intro a F
  refine T_call F H (by as_aux_lemma => kernel_rfl) 18 #[.agg (kArr g)] (.tuple #[.agg (nArr (dg (nu))), .bool bw]) (fun w => by as_aux_lemma => kernel_rfl) (Calls.kept (dof _)) ?_
  clear F H; intro a v F H
  refine T_val F H (by as_aux_lemma => kernel_rfl) (.tuple #[.agg (nArr (dg (nu))), .bool bw]) (fun _ _ => by as_aux_lemma => kernel_rfl) ?_
  clear F; intro a F
  refine T_val F H (by as_aux_lemma => kernel_rfl) (.agg (nArr (dg (nu)))) (fun _ _ => by as_aux_lemma => kernel_rfl) ?_
  clear F; intro a F
  refine T_val F H (by as_aux_lemma => kernel_rfl) (.bool bw) (fun _ _ => by as_aux_lemma => kernel_rfl) ?_
  clear F; intro a F
  refine T_new F H (by as_aux_lemma => kernel_rfl) (fun ad => .pointer (some ⟨ad, 0, none⟩)) (.cells z16 27 (0, 0)) (fun w => by as_aux_lemma => kernel_rfl) ?_
  clear F H; intro aq5 a v F H
  refine T_set F H (by as_aux_lemma => kernel_rfl) rfl 0 rfl (nArr (dg (nu))) (S_row 0 rfl 27 (.tmp 6) (.tmp 28) rfl (by as_aux_lemma => kernel_rfl) (nArr (dg (nu))) (by as_aux_lemma => kernel_rfl) (by as_aux_lemma => kernel_rfl) (by as_aux_lemma => kernel_rfl) (by as_aux_lemma => kernel_rfl)) [⟨true, aq5, .cells (nArr (dg (nu))) 27 (0, 0)⟩, ⟨true, aq4, .cells (kArr c) 23 (0, 0)⟩, ⟨true, aq3, .cells z32 23 (0, 0)⟩, ⟨true, aq2, .cells (kArr g) 23 (0, 0)⟩, ⟨true, aq1, .cells (kArr f) 23 (0, 0)⟩] rfl ?_
  clear F H; intro a v F H
  refine T_val F H (by as_aux_lemma => kernel_rfl) (.bool bw) (fun _ _ => by as_aux_lemma => kernel_rfl) ?_
  clear F; intro a F
  refine T_end (hK _ _ ?_)
  clear hK K
  refine C_seqK (fun K hK => ?_)
  refine C_region ?_
  refine T_call F H (by as_aux_lemma => kernel_rfl) 31 #[.int .u64 1] (.agg (nArr (dg (1)))) (fun w => by as_aux_lemma => kernel_rfl) (Calls.kept (s1 _)) ?_
  clear F H; intro a v F H
  refine T_new F H (by as_aux_lemma => kernel_rfl) (fun ad => .pointer (some ⟨ad, 0, none⟩)) (.cells z16 27 (0, 0)) (fun w => by as_aux_lemma => kernel_rfl) ?_
  clear F H; intro aq6 a v F H
  refine T_set F H (by as_aux_lemma => kernel_rfl) rfl 0 rfl (nArr (dg (1))) (S_row 0 rfl 27 (.tmp 8) (.tmp 30) rfl (by as_aux_lemma => kernel_rfl) (nArr (dg (1))) (by as_aux_lemma => kernel_rfl) (by as_aux_lemma => kernel_rfl) (by as_aux_lemma => kernel_rfl) (by as_aux_lemma => kernel_rfl)) [⟨true, aq6, .cells (nArr (dg (1))) 27 (0, 0)⟩, ⟨true, aq5, .cells (nArr (dg (nu))) 27 (0, 0)⟩, ⟨true, aq4, .cells (kArr c) 23 (0, 0)⟩, ⟨true, aq3, .cells z32 23 (0, 0)⟩, ⟨true, aq2, .cells (kArr g) 23 (0, 0)⟩, ⟨true, aq1, .cells (kArr f) 23 (0, 0)⟩] rfl ?_
  clear F H; intro a v F H
  refine T_end (hK _ _ ?_)
  clear hK K
  refine C_seqK (fun K hK => ?_)
  refine C_region ?_
  refine T_call F H (by as_aux_lemma => kernel_rfl) 31 #[.int .u64 0] (.agg (nArr (dg (0)))) (fun w => by as_aux_lemma => kernel_rfl) (Calls.kept (s0 _)) ?_
  clear F H; intro a v F H
  refine T_new F H (by as_aux_lemma => kernel_rfl) (fun ad => .pointer (some ⟨ad, 0, none⟩)) (.cells z16 27 (0, 0)) (fun w => by as_aux_lemma => kernel_rfl) ?_
  clear F H; intro aq7 a v F H
  refine T_set F H (by as_aux_lemma => kernel_rfl) rfl 0 rfl (nArr (dg (0))) (S_row 0 rfl 27 (.tmp 9) (.tmp 31) rfl (by as_aux_lemma => kernel_rfl) (nArr (dg (0))) (by as_aux_lemma => kernel_rfl) (by as_aux_lemma => kernel_rfl) (by as_aux_lemma => kernel_rfl) (by as_aux_lemma => kernel_rfl)) [⟨true, aq7, .cells (nArr (dg (0))) 27 (0, 0)⟩, ⟨true, aq6, .cells (nArr (dg (1))) 27 (0, 0)⟩, ⟨true, aq5, .cells (nArr (dg (nu))) 27 (0, 0)⟩, ⟨true, aq4, .cells (kArr c) 23 (0, 0)⟩, ⟨true, aq3, .cells z32 23 (0, 0)⟩, ⟨true, aq2, .cells (kArr g) 23 (0, 0)⟩, ⟨true, aq1, .cells (kArr f) 23 (0, 0)⟩] rfl ?_
  clear F H; intro a v F H
  refine T_end (hK _ _ ?_)
  clear hK K
  refine C_seqK (fun K hK => ?_)
  refine C_region ?_
  refine T_val F H (by as_aux_lemma => kernel_rfl) (.agg (nArr (dg (nu)))) (R_load (own := true) (g := aq5) (all := (nArr (dg (nu)))) (t := 27) (fr := (0, 0)) 2 (by as_aux_lemma => kernel_rfl) 27 (.tmp 6) rfl 0 (by as_aux_lemma => kernel_rfl) (nArr (dg (nu))) (part_all _) _ Tryd.underlying27 rfl (by as_aux_lemma => kernel_rfl)) ?_
  clear F; intro a F
  refine T_new F H (by as_aux_lemma => kernel_rfl) (fun ad => .pointer (some ⟨ad, 0, none⟩)) (.cells z16 27 (0, 0)) (fun w => by as_aux_lemma => kernel_rfl) ?_
  clear F H; intro aq8 a v F H
  refine T_set F H (by as_aux_lemma => kernel_rfl) rfl 0 rfl (nArr (dg (nu))) (S_row 0 rfl 27 (.tmp 10) (.tmp 32) rfl (by as_aux_lemma => kernel_rfl) (nArr (dg (nu))) (by as_aux_lemma => kernel_rfl) (by as_aux_lemma => kernel_rfl) (by as_aux_lemma => kernel_rfl) (by as_aux_lemma => kernel_rfl)) [⟨true, aq8, .cells (nArr (dg (nu))) 27 (0, 0)⟩, ⟨true, aq7, .cells (nArr (dg (0))) 27 (0, 0)⟩, ⟨true, aq6, .cells (nArr (dg (1))) 27 (0, 0)⟩, ⟨true, aq5, .cells (nArr (dg (nu))) 27 (0, 0)⟩, ⟨true, aq4, .cells (kArr c) 23 (0, 0)⟩, ⟨true, aq3, .cells z32 23 (0, 0)⟩, ⟨true, aq2, .cells (kArr g) 23 (0, 0)⟩, ⟨true, aq1, .cells (kArr f) 23 (0, 0)⟩] rfl ?_
  clear F H; intro a v F H
  refine T_end (hK _ _ ?_)
  clear hK K
  refine C_seqK (fun K hK => ?_)
  refine C_region ?_
  refine T_call F H (by as_aux_lemma => kernel_rfl) 31 #[.int .u64 1] (.agg (nArr (dg (1)))) (fun w => by as_aux_lemma => kernel_rfl) (Calls.kept (s1 _)) ?_
  clear F H; intro a v F H
  refine T_new F H (by as_aux_lemma => kernel_rfl) (fun ad => .pointer (some ⟨ad, 0, none⟩)) (.cells z16 27 (0, 0)) (fun w => by as_aux_lemma => kernel_rfl) ?_
  clear F H; intro aq9 a v F H
  refine T_set F H (by as_aux_lemma => kernel_rfl) rfl 0 rfl (nArr (dg (1))) (S_row 0 rfl 27 (.tmp 11) (.tmp 33) rfl (by as_aux_lemma => kernel_rfl) (nArr (dg (1))) (by as_aux_lemma => kernel_rfl) (by as_aux_lemma => kernel_rfl) (by as_aux_lemma => kernel_rfl) (by as_aux_lemma => kernel_rfl)) [⟨true, aq9, .cells (nArr (dg (1))) 27 (0, 0)⟩, ⟨true, aq8, .cells (nArr (dg (nu))) 27 (0, 0)⟩, ⟨true, aq7, .cells (nArr (dg (0))) 27 (0, 0)⟩, ⟨true, aq6, .cells (nArr (dg (1))) 27 (0, 0)⟩, ⟨true, aq5, .cells (nArr (dg (nu))) 27 (0, 0)⟩, ⟨true, aq4, .cells (kArr c) 23 (0, 0)⟩, ⟨true, aq3, .cells z32 23 (0, 0)⟩, ⟨true, aq2, .cells (kArr g) 23 (0, 0)⟩, ⟨true, aq1, .cells (kArr f) 23 (0, 0)⟩] rfl ?_
  clear F H; intro a v F H
  refine T_end (hK _ _ ?_)
  clear hK K
  refine C_seqK (fun K hK => ?_)
  refine C_region ?_
  refine T_val F H (by as_aux_lemma => kernel_rfl) (.int .i64 0) (fun _ _ => by as_aux_lemma => kernel_rfl) ?_
  clear F; intro a F
  refine T_end (hK _ _ ?_)
  clear hK K
  replace F : Fm 117 [] [(12, .int .i64 0), (4, .pointer (some ⟨aq3, 0, none⟩)), (5, .pointer (some ⟨aq4, 0, none⟩)), (6, .pointer (some ⟨aq5, 0, none⟩)), (8, .pointer (some ⟨aq6, 0, none⟩)), (9, .pointer (some ⟨aq7, 0, none⟩)), (10, .pointer (some ⟨aq8, 0, none⟩)), (11, .pointer (some ⟨aq9, 0, none⟩))] a := F.weak _ (⟨rfl, ⟨rfl, ⟨rfl, ⟨rfl, ⟨rfl, ⟨rfl, ⟨rfl, ⟨rfl, trivial⟩⟩⟩⟩⟩⟩⟩⟩)
  replace H : Hp [] w [⟨true, aq6, .cells (nArr (dg (1))) 27 (0, 0)⟩, ⟨true, aq7, .cells (nArr (dg (0))) 27 (0, 0)⟩, ⟨true, aq8, .cells (nArr (dg (nu))) 27 (0, 0)⟩, ⟨true, aq9, .cells (nArr (dg (1))) 27 (0, 0)⟩, ⟨true, aq5, .cells (nArr (dg (nu))) 27 (0, 0)⟩, ⟨true, aq4, .cells (kArr c) 23 (0, 0)⟩, ⟨true, aq3, .cells z32 23 (0, 0)⟩] v := H.pick [3, 2, 1, 0, 4, 5, 6] (by as_aux_lemma => kernel_rfl) _ rfl
  refine C_seqK (fun K hK => ?_)
  refine C_seqK (fun K hK => ?_)
  refine C_region ?_
  refine T_val F H (by as_aux_lemma => kernel_rfl) (.int .i64 254) (fun _ _ => by as_aux_lemma => kernel_rfl) ?_
  clear F; intro a F
  refine T_end (hK _ _ ?_)
  clear hK K
  replace F : Fm 117 [] [(13, .int .i64 254), (12, .int .i64 0), (4, .pointer (some ⟨aq3, 0, none⟩)), (5, .pointer (some ⟨aq4, 0, none⟩)), (6, .pointer (some ⟨aq5, 0, none⟩)), (8, .pointer (some ⟨aq6, 0, none⟩)), (9, .pointer (some ⟨aq7, 0, none⟩)), (10, .pointer (some ⟨aq8, 0, none⟩)), (11, .pointer (some ⟨aq9, 0, none⟩))] a := F.weak _ (⟨rfl, ⟨rfl, ⟨rfl, ⟨rfl, ⟨rfl, ⟨rfl, ⟨rfl, ⟨rfl, ⟨rfl, trivial⟩⟩⟩⟩⟩⟩⟩⟩⟩)
  have hl0 : ladS c nu (255 - 255) = ⟨1, 0, nu, 1, false⟩ := rfl
  refine wp_block ?_
  refine C_loop (fun m a v => m ≤ 255 ∧ Fm 117 [] [(13, .int .i64 (cntI m)), (12, .int .i64 ((Bool.toNat (ladS c nu (255 - m)).l : Nat) : Int)), (4, .pointer (some ⟨aq3, 0, none⟩)), (5, .pointer (some ⟨aq4, 0, none⟩)), (6, .pointer (some ⟨aq5, 0, none⟩)), (8, .pointer (some ⟨aq6, 0, none⟩)), (9, .pointer (some ⟨aq7, 0, none⟩)), (10, .pointer (some ⟨aq8, 0, none⟩)), (11, .pointer (some ⟨aq9, 0, none⟩))] a ∧ Hp [] w [⟨true, aq6, .cells (nArr (dg ((ladS c nu (255 - m)).a))) 27 (0, 0)⟩, ⟨true, aq7, .cells (nArr (dg ((ladS c nu (255 - m)).b))) 27 (0, 0)⟩, ⟨true, aq8, .cells (nArr (dg ((ladS c nu (255 - m)).s))) 27 (0, 0)⟩, ⟨true, aq9, .cells (nArr (dg ((ladS c nu (255 - m)).t))) 27 (0, 0)⟩, ⟨true, aq5, .cells (nArr (dg (nu))) 27 (0, 0)⟩, ⟨true, aq4, .cells (kArr c) 23 (0, 0)⟩, ⟨true, aq3, .cells z32 23 (0, 0)⟩] v) 255 ⟨Nat.le_refl _, by rw [hl0]; exact F, by rw [hl0]; exact H⟩ ?_
  clear F H s1 s0 dof dcl hl0
  intro m a v ⟨hm, F, H⟩
  refine C_seqK (fun K1 hK1 => ?_)
  rcases m with _ | m
  · generalize hS : ladS c nu (255 - 0) = S at F H
    replace F : Fm 117 [] [(13, .int .i64 (-1)), (12, .int .i64 ((Bool.toNat S.l : Nat) : Int)), (4, .pointer (some ⟨aq3, 0, none⟩)), (5, .pointer (some ⟨aq4, 0, none⟩)), (6, .pointer (some ⟨aq5, 0, none⟩)), (8, .pointer (some ⟨aq6, 0, none⟩)), (9, .pointer (some ⟨aq7, 0, none⟩)), (10, .pointer (some ⟨aq8, 0, none⟩)), (11, .pointer (some ⟨aq9, 0, none⟩))] a := F
    refine C_seqK (fun K hK => ?_)
    refine C_region ?_
    refine T_val F H (by as_aux_lemma => kernel_rfl) (.int .i64 (-1)) (fun _ _ => by as_aux_lemma => kernel_rfl) ?_
    clear F; intro a F
    refine T_val F H (by as_aux_lemma => kernel_rfl) (.bool false) (fun w _ => R_bin (x := (.tmp 34)) (y := (.const (.int .i64 0))) rfl (k := .i64) (a := (-1)) (b := 0) (by as_aux_lemma => kernel_rfl) (by as_aux_lemma => kernel_rfl) (i_nge (by omega)) w) ?_
    clear F; intro a F
    refine T_end (hK _ _ ?_)
    clear hK K
    refine C_if F false rfl rfl ?_
    refine wp_exit ?_
    refine hK _ _ ?_
    clear hK1 K1 hK K
    replace F : Fm 117 [] [(12, .int .i64 ((Bool.toNat S.l : Nat) : Int)), (4, .pointer (some ⟨aq3, 0, none⟩)), (5, .pointer (some ⟨aq4, 0, none⟩)), (6, .pointer (some ⟨aq5, 0, none⟩)), (8, .pointer (some ⟨aq6, 0, none⟩)), (9, .pointer (some ⟨aq7, 0, none⟩)), (10, .pointer (some ⟨aq8, 0, none⟩)), (11, .pointer (some ⟨aq9, 0, none⟩))] a := F.weak _ (⟨rfl, ⟨rfl, ⟨rfl, ⟨rfl, ⟨rfl, ⟨rfl, ⟨rfl, ⟨rfl, trivial⟩⟩⟩⟩⟩⟩⟩⟩)
    have hS' : ladS c nu 255 = S := hS
    have hlt := lad_lt c hu 255
    unfold rawN
    rw [hS'] at hlt ⊢
    clear hS hS'
    obtain ⟨ha, hb, hs, ht⟩ := hlt
    obtain ⟨Sa, Sb, Ss, St, l⟩ := S
    refine C_seqK (fun K hK => ?_)
    cases l
    · have di := fun w => rinv_any Sb hb w
      have hi := powP_lt Sb invE
      have dm := fun w => rmul_any Sa (powP Sb invE) ha hi w
      have dk := fun w => rkey_any (Sa * powP Sb invE % pr) w
      obtain ⟨RF, hRF⟩ : ∃ RF, RF = byteOf (Sa * powP Sb invE % pr) := ⟨_, rfl⟩
      rw [← hRF] at dk
      have hR2 : RF = byteOf ((ladSw false ⟨Sa, Sb, Ss, St, false⟩).a * powP (ladSw false ⟨Sa, Sb, Ss, St, false⟩).b invE % pr) := hRF
      clear hRF hi
      generalize Sa * powP Sb invE % pr = M at dm dk
      generalize powP Sb invE = I at di dm
      unfold numV at di dm dk
      replace F : Fm 117 [] [(12, .int .i64 ((Bool.toNat false : Nat) : Int)), (4, .pointer (some ⟨aq3, 0, none⟩)), (5, .pointer (some ⟨aq4, 0, none⟩)), (6, .pointer (some ⟨aq5, 0, none⟩)), (8, .pointer (some ⟨aq6, 0, none⟩)), (9, .pointer (some ⟨aq7, 0, none⟩)), (10, .pointer (some ⟨aq8, 0, none⟩)), (11, .pointer (some ⟨aq9, 0, none⟩))] a := F
      replace H : Hp [] w [⟨true, aq6, .cells (nArr (dg (Sa))) 27 (0, 0)⟩, ⟨true, aq7, .cells (nArr (dg (Sb))) 27 (0, 0)⟩, ⟨true, aq8, .cells (nArr (dg (Ss))) 27 (0, 0)⟩, ⟨true, aq9, .cells (nArr (dg (St))) 27 (0, 0)⟩, ⟨true, aq5, .cells (nArr (dg (nu))) 27 (0, 0)⟩, ⟨true, aq4, .cells (kArr c) 23 (0, 0)⟩, ⟨true, aq3, .cells z32 23 (0, 0)⟩] v := H
      refine C_seqK (fun K hK => ?_)
      refine C_region ?_
      refine T_val F H (by as_aux_lemma => kernel_rfl) (.int .i64 ((Bool.toNat false : Nat) : Int)) (fun _ _ => by as_aux_lemma => kernel_rfl) ?_
      clear F; intro a F
      refine T_val F H (by as_aux_lemma => kernel_rfl) (.bool false) (fun w _ => R_bin (x := (.tmp 108)) (y := (.const (.int .i64 1))) rfl (k := .i64) (a := ((Bool.toNat false : Nat) : Int)) (b := 1) (by as_aux_lemma => kernel_rfl) (by as_aux_lemma => kernel_rfl) rfl w) ?_
      clear F; intro a F
      refine T_end (hK _ _ ?_)
      clear hK K
      refine C_if F false rfl rfl ?_
      refine wp_skip ?_
      refine hK _ _ ?_
      clear hK K
      refine C_seqK (fun K hK => ?_)
      refine D_region F H (fun β => [(112, .agg (nArr (dg (Sa)))), (113, .agg (nArr (dg (Sb)))), (114, .agg (nArr (dg (I)))), (115, .agg (nArr (dg (M)))), (116, .agg (kArr RF))]) [112, 113, 114, 115, 116] [] [⟨aq3, 5, .cells z32 23 (0, 0), .cells (kArr RF) 23 (0, 0)⟩] [⟨true, aq6, .cells (nArr (dg (Sa))) 27 (0, 0)⟩, ⟨true, aq7, .cells (nArr (dg (Sb))) 27 (0, 0)⟩, ⟨true, aq8, .cells (nArr (dg (Ss))) 27 (0, 0)⟩, ⟨true, aq9, .cells (nArr (dg (St))) 27 (0, 0)⟩, ⟨true, aq5, .cells (nArr (dg (nu))) 27 (0, 0)⟩, ⟨true, aq4, .cells (kArr c) 23 (0, 0)⟩] [6, 0, 1, 2, 3, 4, 5] (by as_aux_lemma => kernel_rfl) (by as_aux_lemma => kernel_rfl) (by as_aux_lemma => kernel_rfl) (fun β => rfl) (fun fit => ⟨?_, ?_, ?_, ?_, ?_, ?_, trivial⟩) ?_
      · exact D_val 117 (fun β => by as_aux_lemma => kernel_rfl) (fun β => .agg (nArr (dg (Sa)))) 112 rfl (fun β => by as_aux_lemma => kernel_rfl) (fun β => R_load (own := true) (g := aq6) (all := (nArr (dg (Sa)))) (t := 27) (fr := (0, 0)) 0 (by as_aux_lemma => kernel_rfl) 27 (.tmp 8) rfl 0 (by as_aux_lemma => kernel_rfl) (nArr (dg (Sa))) (part_all _) _ Tryd.underlying27 rfl (by as_aux_lemma => kernel_rfl)) (by as_aux_lemma => kernel_rfl)
      · exact D_val 117 (fun β => by as_aux_lemma => kernel_rfl) (fun β => .agg (nArr (dg (Sb)))) 113 rfl (fun β => by as_aux_lemma => kernel_rfl) (fun β => R_load (own := true) (g := aq7) (all := (nArr (dg (Sb)))) (t := 27) (fr := (0, 0)) 1 (by as_aux_lemma => kernel_rfl) 27 (.tmp 9) rfl 0 (by as_aux_lemma => kernel_rfl) (nArr (dg (Sb))) (part_all _) _ Tryd.underlying27 rfl (by as_aux_lemma => kernel_rfl)) (by as_aux_lemma => kernel_rfl)
      · exact D_call 117 (fun β => by as_aux_lemma => kernel_rfl) (fun β => .agg (nArr (dg (I)))) 114 rfl (fun β => by as_aux_lemma => kernel_rfl) 25 (fun β => #[.agg (nArr (dg (Sb)))]) (fun β w => by as_aux_lemma => kernel_rfl) (fun β w hk => Calls.kept (di _)) (by as_aux_lemma => kernel_rfl)
      · exact D_call 117 (fun β => by as_aux_lemma => kernel_rfl) (fun β => .agg (nArr (dg (M)))) 115 rfl (fun β => by as_aux_lemma => kernel_rfl) 35 (fun β => #[.agg (nArr (dg (Sa))), .agg (nArr (dg (I)))]) (fun β w => by as_aux_lemma => kernel_rfl) (fun β w hk => Calls.kept (dm _)) (by as_aux_lemma => kernel_rfl)
      · exact D_call 117 (fun β => by as_aux_lemma => kernel_rfl) (fun β => .agg (kArr RF)) 116 rfl (fun β => by as_aux_lemma => kernel_rfl) 23 (fun β => #[.agg (nArr (dg (M)))]) (fun β w => by as_aux_lemma => kernel_rfl) (fun β w hk => Calls.kept (dk _)) (by as_aux_lemma => kernel_rfl)
      · exact D_putF fit ⟨aq3, 5, .cells z32 23 (0, 0), .cells (kArr RF) 23 (0, 0)⟩ (List.mem_of_getElem? (i := 0) rfl) rfl 117 (fun β => by as_aux_lemma => kernel_rfl) rfl (fun β w _ hg => P_row rfl rfl (ty := 23) (x := (.tmp 4)) (y := (.tmp 116)) rfl (by as_aux_lemma => kernel_rfl) (by as_aux_lemma => kernel_rfl) (by as_aux_lemma => kernel_rfl) (by as_aux_lemma => kernel_rfl) (by as_aux_lemma => kernel_rfl) hg) (by as_aux_lemma => kernel_rfl)
      clear F H; intro β a v F H
      replace H : Hp [] w [⟨true, aq3, .cells (kArr RF) 23 (0, 0)⟩, ⟨true, aq6, .cells (nArr (dg (Sa))) 27 (0, 0)⟩, ⟨true, aq7, .cells (nArr (dg (Sb))) 27 (0, 0)⟩, ⟨true, aq8, .cells (nArr (dg (Ss))) 27 (0, 0)⟩, ⟨true, aq9, .cells (nArr (dg (St))) 27 (0, 0)⟩, ⟨true, aq5, .cells (nArr (dg (nu))) 27 (0, 0)⟩, ⟨true, aq4, .cells (kArr c) 23 (0, 0)⟩] v := H
      replace F : Fm 117 [] [(116, .agg (kArr RF)), (115, .agg (nArr (dg (M)))), (114, .agg (nArr (dg (I)))), (113, .agg (nArr (dg (Sb)))), (112, .agg (nArr (dg (Sa)))), (109, .bool false), (108, .int .i64 ((Bool.toNat false : Nat) : Int)), (12, .int .i64 ((Bool.toNat false : Nat) : Int)), (4, .pointer (some ⟨aq3, 0, none⟩)), (5, .pointer (some ⟨aq4, 0, none⟩)), (6, .pointer (some ⟨aq5, 0, none⟩)), (8, .pointer (some ⟨aq6, 0, none⟩)), (9, .pointer (some ⟨aq7, 0, none⟩)), (10, .pointer (some ⟨aq8, 0, none⟩)), (11, .pointer (some ⟨aq9, 0, none⟩))] a := F.weak _ (⟨rfl, ⟨rfl, ⟨rfl, ⟨rfl, ⟨rfl, ⟨rfl, ⟨rfl, ⟨rfl, ⟨rfl, ⟨rfl, ⟨rfl, ⟨rfl, ⟨rfl, ⟨rfl, ⟨rfl, trivial⟩⟩⟩⟩⟩⟩⟩⟩⟩⟩⟩⟩⟩⟩⟩)
      refine hK _ _ ?_
      clear hK K
      refine wp_ret ?_
      exact C_ret F H (rs := [.cell 4 23]) rfl (vs := [.agg (kArr RF)]) (.row 0 rfl rfl _ Tryd.underlying23 rfl (by as_aux_lemma => kernel_rfl) .nil) (.agg (kArr RF)) rfl ⟨congrArg Ending.returned (congrArg Value.agg (congrArg kArr hR2)), H.kept.below⟩
    · have di := fun w => rinv_any St ht w
      have hi := powP_lt St invE
      have dm := fun w => rmul_any Ss (powP St invE) hs hi w
      have dk := fun w => rkey_any (Ss * powP St invE % pr) w
      obtain ⟨RF, hRF⟩ : ∃ RF, RF = byteOf (Ss * powP St invE % pr) := ⟨_, rfl⟩
      rw [← hRF] at dk
      have hR2 : RF = byteOf ((ladSw true ⟨Sa, Sb, Ss, St, true⟩).a * powP (ladSw true ⟨Sa, Sb, Ss, St, true⟩).b invE % pr) := hRF
      clear hRF hi
      generalize Ss * powP St invE % pr = M at dm dk
      generalize powP St invE = I at di dm
      unfold numV at di dm dk
      replace F : Fm 117 [] [(12, .int .i64 ((Bool.toNat true : Nat) : Int)), (4, .pointer (some ⟨aq3, 0, none⟩)), (5, .pointer (some ⟨aq4, 0, none⟩)), (6, .pointer (some ⟨aq5, 0, none⟩)), (8, .pointer (some ⟨aq6, 0, none⟩)), (9, .pointer (some ⟨aq7, 0, none⟩)), (10, .pointer (some ⟨aq8, 0, none⟩)), (11, .pointer (some ⟨aq9, 0, none⟩))] a := F
      replace H : Hp [] w [⟨true, aq6, .cells (nArr (dg (Sa))) 27 (0, 0)⟩, ⟨true, aq7, .cells (nArr (dg (Sb))) 27 (0, 0)⟩, ⟨true, aq8, .cells (nArr (dg (Ss))) 27 (0, 0)⟩, ⟨true, aq9, .cells (nArr (dg (St))) 27 (0, 0)⟩, ⟨true, aq5, .cells (nArr (dg (nu))) 27 (0, 0)⟩, ⟨true, aq4, .cells (kArr c) 23 (0, 0)⟩, ⟨true, aq3, .cells z32 23 (0, 0)⟩] v := H
      refine C_seqK (fun K hK => ?_)
      refine C_region ?_
      refine T_val F H (by as_aux_lemma => kernel_rfl) (.int .i64 ((Bool.toNat true : Nat) : Int)) (fun _ _ => by as_aux_lemma => kernel_rfl) ?_
      clear F; intro a F
      refine T_val F H (by as_aux_lemma => kernel_rfl) (.bool true) (fun w _ => R_bin (x := (.tmp 108)) (y := (.const (.int .i64 1))) rfl (k := .i64) (a := ((Bool.toNat true : Nat) : Int)) (b := 1) (by as_aux_lemma => kernel_rfl) (by as_aux_lemma => kernel_rfl) rfl w) ?_
      clear F; intro a F
      refine T_end (hK _ _ ?_)
      clear hK K
      refine C_if F true rfl rfl ?_
      refine C_seqK (fun K hK => ?_)
      refine C_region ?_
      refine T_val F H (by as_aux_lemma => kernel_rfl) (.agg (nArr (dg (Ss)))) (R_load (own := true) (g := aq8) (all := (nArr (dg (Ss)))) (t := 27) (fr := (0, 0)) 2 (by as_aux_lemma => kernel_rfl) 27 (.tmp 10) rfl 0 (by as_aux_lemma => kernel_rfl) (nArr (dg (Ss))) (part_all _) _ Tryd.underlying27 rfl (by as_aux_lemma => kernel_rfl)) ?_
      clear F; intro a F
      refine T_set F H (by as_aux_lemma => kernel_rfl) rfl 0 rfl (nArr (dg (Ss))) (S_row 0 rfl 27 (.tmp 8) (.tmp 110) rfl (by as_aux_lemma => kernel_rfl) (nArr (dg (Ss))) (by as_aux_lemma => kernel_rfl) (by as_aux_lemma => kernel_rfl) (by as_aux_lemma => kernel_rfl) (by as_aux_lemma => kernel_rfl)) [⟨true, aq6, .cells (nArr (dg (Ss))) 27 (0, 0)⟩, ⟨true, aq7, .cells (nArr (dg (Sb))) 27 (0, 0)⟩, ⟨true, aq8, .cells (nArr (dg (Ss))) 27 (0, 0)⟩, ⟨true, aq9, .cells (nArr (dg (St))) 27 (0, 0)⟩, ⟨true, aq5, .cells (nArr (dg (nu))) 27 (0, 0)⟩, ⟨true, aq4, .cells (kArr c) 23 (0, 0)⟩, ⟨true, aq3, .cells z32 23 (0, 0)⟩] rfl ?_
      clear F H; intro a v F H
      refine T_end (hK _ _ ?_)
      clear hK K
      refine C_region ?_
      refine T_val F H (by as_aux_lemma => kernel_rfl) (.agg (nArr (dg (St)))) (R_load (own := true) (g := aq9) (all := (nArr (dg (St)))) (t := 27) (fr := (0, 0)) 3 (by as_aux_lemma => kernel_rfl) 27 (.tmp 11) rfl 0 (by as_aux_lemma => kernel_rfl) (nArr (dg (St))) (part_all _) _ Tryd.underlying27 rfl (by as_aux_lemma => kernel_rfl)) ?_
      clear F; intro a F
      refine T_set F H (by as_aux_lemma => kernel_rfl) rfl 1 rfl (nArr (dg (St))) (S_row 1 rfl 27 (.tmp 9) (.tmp 111) rfl (by as_aux_lemma => kernel_rfl) (nArr (dg (St))) (by as_aux_lemma => kernel_rfl) (by as_aux_lemma => kernel_rfl) (by as_aux_lemma => kernel_rfl) (by as_aux_lemma => kernel_rfl)) [⟨true, aq6, .cells (nArr (dg (Ss))) 27 (0, 0)⟩, ⟨true, aq7, .cells (nArr (dg (St))) 27 (0, 0)⟩, ⟨true, aq8, .cells (nArr (dg (Ss))) 27 (0, 0)⟩, ⟨true, aq9, .cells (nArr (dg (St))) 27 (0, 0)⟩, ⟨true, aq5, .cells (nArr (dg (nu))) 27 (0, 0)⟩, ⟨true, aq4, .cells (kArr c) 23 (0, 0)⟩, ⟨true, aq3, .cells z32 23 (0, 0)⟩] rfl ?_
      clear F H; intro a v F H
      refine wpList_nil ?_
      refine hK _ _ ?_
      clear hK K
      refine C_seqK (fun K hK => ?_)
      refine D_region F H (fun β => [(112, .agg (nArr (dg (Ss)))), (113, .agg (nArr (dg (St)))), (114, .agg (nArr (dg (I)))), (115, .agg (nArr (dg (M)))), (116, .agg (kArr RF))]) [112, 113, 114, 115, 116] [] [⟨aq3, 5, .cells z32 23 (0, 0), .cells (kArr RF) 23 (0, 0)⟩] [⟨true, aq6, .cells (nArr (dg (Ss))) 27 (0, 0)⟩, ⟨true, aq7, .cells (nArr (dg (St))) 27 (0, 0)⟩, ⟨true, aq8, .cells (nArr (dg (Ss))) 27 (0, 0)⟩, ⟨true, aq9, .cells (nArr (dg (St))) 27 (0, 0)⟩, ⟨true, aq5, .cells (nArr (dg (nu))) 27 (0, 0)⟩, ⟨true, aq4, .cells (kArr c) 23 (0, 0)⟩] [6, 0, 1, 2, 3, 4, 5] (by as_aux_lemma => kernel_rfl) (by as_aux_lemma => kernel_rfl) (by as_aux_lemma => kernel_rfl) (fun β => rfl) (fun fit => ⟨?_, ?_, ?_, ?_, ?_, ?_, trivial⟩) ?_
      · exact D_val 117 (fun β => by as_aux_lemma => kernel_rfl) (fun β => .agg (nArr (dg (Ss)))) 112 rfl (fun β => by as_aux_lemma => kernel_rfl) (fun β => R_load (own := true) (g := aq6) (all := (nArr (dg (Ss)))) (t := 27) (fr := (0, 0)) 0 (by as_aux_lemma => kernel_rfl) 27 (.tmp 8) rfl 0 (by as_aux_lemma => kernel_rfl) (nArr (dg (Ss))) (part_all _) _ Tryd.underlying27 rfl (by as_aux_lemma => kernel_rfl)) (by as_aux_lemma => kernel_rfl)
      · exact D_val 117 (fun β => by as_aux_lemma => kernel_rfl) (fun β => .agg (nArr (dg (St)))) 113 rfl (fun β => by as_aux_lemma => kernel_rfl) (fun β => R_load (own := true) (g := aq7) (all := (nArr (dg (St)))) (t := 27) (fr := (0, 0)) 1 (by as_aux_lemma => kernel_rfl) 27 (.tmp 9) rfl 0 (by as_aux_lemma => kernel_rfl) (nArr (dg (St))) (part_all _) _ Tryd.underlying27 rfl (by as_aux_lemma => kernel_rfl)) (by as_aux_lemma => kernel_rfl)
      · exact D_call 117 (fun β => by as_aux_lemma => kernel_rfl) (fun β => .agg (nArr (dg (I)))) 114 rfl (fun β => by as_aux_lemma => kernel_rfl) 25 (fun β => #[.agg (nArr (dg (St)))]) (fun β w => by as_aux_lemma => kernel_rfl) (fun β w hk => Calls.kept (di _)) (by as_aux_lemma => kernel_rfl)
      · exact D_call 117 (fun β => by as_aux_lemma => kernel_rfl) (fun β => .agg (nArr (dg (M)))) 115 rfl (fun β => by as_aux_lemma => kernel_rfl) 35 (fun β => #[.agg (nArr (dg (Ss))), .agg (nArr (dg (I)))]) (fun β w => by as_aux_lemma => kernel_rfl) (fun β w hk => Calls.kept (dm _)) (by as_aux_lemma => kernel_rfl)
      · exact D_call 117 (fun β => by as_aux_lemma => kernel_rfl) (fun β => .agg (kArr RF)) 116 rfl (fun β => by as_aux_lemma => kernel_rfl) 23 (fun β => #[.agg (nArr (dg (M)))]) (fun β w => by as_aux_lemma => kernel_rfl) (fun β w hk => Calls.kept (dk _)) (by as_aux_lemma => kernel_rfl)
      · exact D_putF fit ⟨aq3, 5, .cells z32 23 (0, 0), .cells (kArr RF) 23 (0, 0)⟩ (List.mem_of_getElem? (i := 0) rfl) rfl 117 (fun β => by as_aux_lemma => kernel_rfl) rfl (fun β w _ hg => P_row rfl rfl (ty := 23) (x := (.tmp 4)) (y := (.tmp 116)) rfl (by as_aux_lemma => kernel_rfl) (by as_aux_lemma => kernel_rfl) (by as_aux_lemma => kernel_rfl) (by as_aux_lemma => kernel_rfl) (by as_aux_lemma => kernel_rfl) hg) (by as_aux_lemma => kernel_rfl)
      clear F H; intro β a v F H
      replace H : Hp [] w [⟨true, aq3, .cells (kArr RF) 23 (0, 0)⟩, ⟨true, aq6, .cells (nArr (dg (Ss))) 27 (0, 0)⟩, ⟨true, aq7, .cells (nArr (dg (St))) 27 (0, 0)⟩, ⟨true, aq8, .cells (nArr (dg (Ss))) 27 (0, 0)⟩, ⟨true, aq9, .cells (nArr (dg (St))) 27 (0, 0)⟩, ⟨true, aq5, .cells (nArr (dg (nu))) 27 (0, 0)⟩, ⟨true, aq4, .cells (kArr c) 23 (0, 0)⟩] v := H
      replace F : Fm 117 [] [(116, .agg (kArr RF)), (115, .agg (nArr (dg (M)))), (114, .agg (nArr (dg (I)))), (113, .agg (nArr (dg (St)))), (112, .agg (nArr (dg (Ss)))), (111, .agg (nArr (dg (St)))), (110, .agg (nArr (dg (Ss)))), (109, .bool true), (108, .int .i64 ((Bool.toNat true : Nat) : Int)), (12, .int .i64 ((Bool.toNat true : Nat) : Int)), (4, .pointer (some ⟨aq3, 0, none⟩)), (5, .pointer (some ⟨aq4, 0, none⟩)), (6, .pointer (some ⟨aq5, 0, none⟩)), (8, .pointer (some ⟨aq6, 0, none⟩)), (9, .pointer (some ⟨aq7, 0, none⟩)), (10, .pointer (some ⟨aq8, 0, none⟩)), (11, .pointer (some ⟨aq9, 0, none⟩))] a := F.weak _ (⟨rfl, ⟨rfl, ⟨rfl, ⟨rfl, ⟨rfl, ⟨rfl, ⟨rfl, ⟨rfl, ⟨rfl, ⟨rfl, ⟨rfl, ⟨rfl, ⟨rfl, ⟨rfl, ⟨rfl, ⟨rfl, ⟨rfl, trivial⟩⟩⟩⟩⟩⟩⟩⟩⟩⟩⟩⟩⟩⟩⟩⟩⟩)
      refine hK _ _ ?_
      clear hK K
      refine wp_ret ?_
      exact C_ret F H (rs := [.cell 4 23]) rfl (vs := [.agg (kArr RF)]) (.row 0 rfl rfl _ Tryd.underlying23 rfl (by as_aux_lemma => kernel_rfl) .nil) (.agg (kArr RF)) rfl ⟨congrArg Ending.returned (congrArg Value.agg (congrArg kArr hR2)), H.kept.below⟩
  · generalize hS : ladS c nu (255 - (m + 1)) = S at F H
    replace F : Fm 117 [] [(13, .int .i64 ((m : Nat) : Int)), (12, .int .i64 ((Bool.toNat S.l : Nat) : Int)), (4, .pointer (some ⟨aq3, 0, none⟩)), (5, .pointer (some ⟨aq4, 0, none⟩)), (6, .pointer (some ⟨aq5, 0, none⟩)), (8, .pointer (some ⟨aq6, 0, none⟩)), (9, .pointer (some ⟨aq7, 0, none⟩)), (10, .pointer (some ⟨aq8, 0, none⟩)), (11, .pointer (some ⟨aq9, 0, none⟩))] a := F
    refine C_seqK (fun K hK => ?_)
    refine C_region ?_
    refine T_val F H (by as_aux_lemma => kernel_rfl) (.int .i64 ((m : Nat) : Int)) (fun _ _ => by as_aux_lemma => kernel_rfl) ?_
    clear F; intro a F
    refine T_val F H (by as_aux_lemma => kernel_rfl) (.bool true) (fun w _ => R_bin (x := (.tmp 34)) (y := (.const (.int .i64 0))) rfl (k := .i64) (a := ((m : Nat) : Int)) (b := 0) (by as_aux_lemma => kernel_rfl) (by as_aux_lemma => kernel_rfl) (i_ge (by omega)) w) ?_
    clear F; intro a F
    refine T_end (hK _ _ ?_)
    clear hK K
    refine C_if F true rfl rfl ?_
    refine wp_skip ?_
    refine hK1 _ _ ?_
    clear hK1 K1
    replace F : Fm 117 [] [(13, .int .i64 ((m : Nat) : Int)), (12, .int .i64 ((Bool.toNat S.l : Nat) : Int)), (4, .pointer (some ⟨aq3, 0, none⟩)), (5, .pointer (some ⟨aq4, 0, none⟩)), (6, .pointer (some ⟨aq5, 0, none⟩)), (8, .pointer (some ⟨aq6, 0, none⟩)), (9, .pointer (some ⟨aq7, 0, none⟩)), (10, .pointer (some ⟨aq8, 0, none⟩)), (11, .pointer (some ⟨aq9, 0, none⟩))] a := F.weak _ (⟨rfl, ⟨rfl, ⟨rfl, ⟨rfl, ⟨rfl, ⟨rfl, ⟨rfl, ⟨rfl, ⟨rfl, trivial⟩⟩⟩⟩⟩⟩⟩⟩⟩)
    refine C_seqK (fun K2 hK2 => ?_)
    refine wp_block ?_
    generalize hb : ladBit c m = bt
    have hbt := ladBit_nat c m
    rw [hb] at hbt
    have hshr := shr_lt (n := m % 8) (hc (m / 8) (by omega))
    refine C_seqK (fun K hK => ?_)
    refine C_region ?_
    refine T_val F H (by as_aux_lemma => kernel_rfl) (.int .i64 ((m : Nat) : Int)) (fun _ _ => by as_aux_lemma => kernel_rfl) ?_
    clear F; intro a F
    refine T_val F H (by as_aux_lemma => kernel_rfl) (.int .i64 ((m / 8 : Nat) : Int)) (fun w _ => R_bin (x := (.tmp 38)) (y := (.const (.int .i64 8))) rfl (k := .i64) (a := ((m : Nat) : Int)) (b := 8) (by as_aux_lemma => kernel_rfl) (by as_aux_lemma => kernel_rfl) (i_quo64 (a := m) (b := 8) (by omega) (by omega)) w) ?_
    clear F; intro a F
    refine T_val F H (by as_aux_lemma => kernel_rfl) (.pointer (some ⟨aq4, (0 + m / 8 * 1), none⟩)) (fun w _ => R_index (k := .i64) (g := aq4) (off := 0) (x := (.tmp 5)) (y := (.tmp 39)) rfl Tryd.underlying23 (by as_aux_lemma => kernel_rfl) (m / 8) (by as_aux_lemma => kernel_rfl) (by omega) (sz := 1) (by as_aux_lemma => kernel_rfl) w) ?_
    clear F; intro a F
    refine T_val F H (by as_aux_lemma => kernel_rfl) (.int .u8 ((c (m / 8) : Nat) : Int)) (R_cell 5 rfl 5 (.tmp 40) rfl (0 + m / 8 * 1) (by as_aux_lemma => kernel_rfl) (.int .u8 ((c (m / 8) : Nat) : Int)) ((congrArg (fun q => (kArr c)[q]?) (show 0 + m / 8 * 1 = m / 8 by omega)).trans (kArr_get c (by omega))) _ Tryd.underlying5 rfl) ?_
    clear F; intro a F
    refine T_val F H (by as_aux_lemma => kernel_rfl) (.int .i64 ((m : Nat) : Int)) (fun _ _ => by as_aux_lemma => kernel_rfl) ?_
    clear F; intro a F
    refine T_val F H (by as_aux_lemma => kernel_rfl) (.int .i64 ((m % 8 : Nat) : Int)) (fun w _ => R_bin (x := (.tmp 42)) (y := (.const (.int .i64 8))) rfl (k := .i64) (a := ((m : Nat) : Int)) (b := 8) (by as_aux_lemma => kernel_rfl) (by as_aux_lemma => kernel_rfl) (i_rem64 (a := m) (b := 8) (by omega)) w) ?_
    clear F; intro a F
    refine T_val F H (by as_aux_lemma => kernel_rfl) (.int .u8 ((c (m / 8) >>> (m % 8) : Nat) : Int)) (fun w _ => R_shr (x := (.tmp 41)) (y := (.tmp 43)) rfl (k := .u8) (yk := .i64) (a := ((c (m / 8) : Nat) : Int)) (b := ((m % 8 : Nat) : Int)) (by as_aux_lemma => kernel_rfl) (by as_aux_lemma => kernel_rfl) (Int.natCast_nonneg _) (shr8 (by omega)) w) ?_
    clear F; intro a F
    refine T_val F H (by as_aux_lemma => kernel_rfl) (.int .i64 ((c (m / 8) >>> (m % 8) : Nat) : Int)) (fun w _ => R_conv (x := (.tmp 44)) rfl (k0 := .u8) (by as_aux_lemma => kernel_rfl) (by as_aux_lemma => kernel_rfl) (k := .u8) (a := ((c (m / 8) >>> (m % 8) : Nat) : Int)) (by as_aux_lemma => kernel_rfl) (wrn64 (a := c (m / 8) >>> (m % 8)) (by omega)) w) ?_
    clear F; intro a F
    refine T_val F H (by as_aux_lemma => kernel_rfl) (.int .i64 ((Bool.toNat bt : Nat) : Int)) (fun w _ => R_bin (x := (.tmp 45)) (y := (.const (.int .i64 1))) rfl (k := .i64) (a := ((c (m / 8) >>> (m % 8) : Nat) : Int)) (b := 1) (by as_aux_lemma => kernel_rfl) (by as_aux_lemma => kernel_rfl) ((i_and64 (a := c (m / 8) >>> (m % 8)) (b := 1) (by omega) (by omega)).trans (congrArg (fun q : Nat => some (Value.int .i64 (q : Int))) hbt)) w) ?_
    clear F; intro a F
    refine T_val F H (by as_aux_lemma => kernel_rfl) (.int .i64 ((Bool.toNat bt : Nat) : Int)) (fun _ _ => by as_aux_lemma => kernel_rfl) ?_
    clear F; intro a F
    refine T_end (hK _ _ ?_)
    clear hK K
    replace F : Fm 117 [] [(14, .int .i64 ((Bool.toNat bt : Nat) : Int)), (13, .int .i64 ((m : Nat) : Int)), (12, .int .i64 ((Bool.toNat S.l : Nat) : Int)), (4, .pointer (some ⟨aq3, 0, none⟩)), (5, .pointer (some ⟨aq4, 0, none⟩)), (6, .pointer (some ⟨aq5, 0, none⟩)), (8, .pointer (some ⟨aq6, 0, none⟩)), (9, .pointer (some ⟨aq7, 0, none⟩)), (10, .pointer (some ⟨aq8, 0, none⟩)), (11, .pointer (some ⟨aq9, 0, none⟩))] a := F.weak _ (⟨rfl, ⟨rfl, ⟨rfl, ⟨rfl, ⟨rfl, ⟨rfl, ⟨rfl, ⟨rfl, ⟨rfl, ⟨rfl, trivial⟩⟩⟩⟩⟩⟩⟩⟩⟩⟩)
    have hlt := lad_lt c hu (255 - (m + 1))
    rw [hS] at hlt
    have hk : 255 - m = (255 - (m + 1)) + 1 := by omega
    have hbi : 254 - (255 - (m + 1)) = m := by omega
    have hst : ladS c nu (255 - m) = ladSt nu bt (ladSw (bt != S.l) S) := by rw [hk, ladS, hbi, hb, hS]
    clear hk hbi hb hS hbt hshr
    obtain ⟨ha, hb, hs, ht⟩ := hlt
    obtain ⟨Sa, Sb, Ss, St, l⟩ := S
    refine C_seqK (fun K3 hK3 => ?_)
    cases hd : (bt != l)
    · replace F : Fm 117 [] [(14, .int .i64 ((Bool.toNat bt : Nat) : Int)), (13, .int .i64 ((m : Nat) : Int)), (12, .int .i64 ((Bool.toNat l : Nat) : Int)), (4, .pointer (some ⟨aq3, 0, none⟩)), (5, .pointer (some ⟨aq4, 0, none⟩)), (6, .pointer (some ⟨aq5, 0, none⟩)), (8, .pointer (some ⟨aq6, 0, none⟩)), (9, .pointer (some ⟨aq7, 0, none⟩)), (10, .pointer (some ⟨aq8, 0, none⟩)), (11, .pointer (some ⟨aq9, 0, none⟩))] a := F
      replace H : Hp [] w [⟨true, aq6, .cells (nArr (dg (Sa))) 27 (0, 0)⟩, ⟨true, aq7, .cells (nArr (dg (Sb))) 27 (0, 0)⟩, ⟨true, aq8, .cells (nArr (dg (Ss))) 27 (0, 0)⟩, ⟨true, aq9, .cells (nArr (dg (St))) 27 (0, 0)⟩, ⟨true, aq5, .cells (nArr (dg (nu))) 27 (0, 0)⟩, ⟨true, aq4, .cells (kArr c) 23 (0, 0)⟩, ⟨true, aq3, .cells z32 23 (0, 0)⟩] v := H
      have d1 := fun w => radd_any Sa Sb ha hb w
      have l1 : (Sa + Sb) % pr < pr := Nat.mod_lt _ pr_pos
      have d2 := fun w => rsub_any Sa Sb ha hb w
      have l2 : subP Sa Sb < pr := Nat.mod_lt _ pr_pos
      have d3 := fun w => rmul_any _ _ l1 l1 w
      have l3 : (Sa + Sb) % pr * ((Sa + Sb) % pr) % pr < pr := Nat.mod_lt _ pr_pos
      have d4 := fun w => rmul_any _ _ l2 l2 w
      have l4 : subP Sa Sb * subP Sa Sb % pr < pr := Nat.mod_lt _ pr_pos
      have d5 := fun w => rsub_any _ _ l3 l4 w
      have l5 : subP ((Sa + Sb) % pr * ((Sa + Sb) % pr) % pr) (subP Sa Sb * subP Sa Sb % pr) < pr := Nat.mod_lt _ pr_pos
      have d6 := fun w => rsub_any Ss St hs ht w
      have l6 : subP Ss St < pr := Nat.mod_lt _ pr_pos
      have d7 := fun w => rmul_any _ _ l6 l1 w
      have l7 : subP Ss St * ((Sa + Sb) % pr) % pr < pr := Nat.mod_lt _ pr_pos
      have d8 := fun w => radd_any Ss St hs ht w
      have l8 : (Ss + St) % pr < pr := Nat.mod_lt _ pr_pos
      have d9 := fun w => rmul_any _ _ l8 l2 w
      have l9 : (Ss + St) % pr * subP Sa Sb % pr < pr := Nat.mod_lt _ pr_pos
      have d10 := fun w => radd_any _ _ l7 l9 w
      have l10 : (subP Ss St * ((Sa + Sb) % pr) % pr + (Ss + St) % pr * subP Sa Sb % pr) % pr < pr := Nat.mod_lt _ pr_pos
      have d11 := fun w => rmul_any _ _ l10 l10 w
      have d12 := fun w => rsub_any _ _ l7 l9 w
      have l12 : subP (subP Ss St * ((Sa + Sb) % pr) % pr) ((Ss + St) % pr * subP Sa Sb % pr) < pr := Nat.mod_lt _ pr_pos
      have d13 := fun w => rmul_any _ _ l12 l12 w
      have l13 : subP (subP Ss St * ((Sa + Sb) % pr) % pr) ((Ss + St) % pr * subP Sa Sb % pr) * subP (subP Ss St * ((Sa + Sb) % pr) % pr) ((Ss + St) % pr * subP Sa Sb % pr) % pr < pr := Nat.mod_lt _ pr_pos
      have d14 := fun w => rmul_any _ _ hu l13 w
      have d15 := fun w => rmul_any _ _ l3 l4 w
      have hkp : 121665 < pr := by decide
      have d16 := fun w => rmul_any _ _ hkp l5 w
      have l16 : 121665 * subP ((Sa + Sb) % pr * ((Sa + Sb) % pr) % pr) (subP Sa Sb * subP Sa Sb % pr) % pr < pr := Nat.mod_lt _ pr_pos
      have d17 := fun w => radd_any _ _ l3 l16 w
      have l17 : ((Sa + Sb) % pr * ((Sa + Sb) % pr) % pr + 121665 * subP ((Sa + Sb) % pr * ((Sa + Sb) % pr) % pr) (subP Sa Sb * subP Sa Sb % pr) % pr) % pr < pr := Nat.mod_lt _ pr_pos
      have d18 := fun w => rmul_any _ _ l5 l17 w
      have hN : ladSt nu bt (ladSw false ⟨Sa, Sb, Ss, St, l⟩) = ⟨dblX Sa Sb, dblZ Sa Sb, sumX Sa Sb Ss St, sumZ nu Sa Sb Ss St, bt⟩ := rfl
      dsimp only at hst
      rw [hd] at hst
      rw [hN] at hst
      unfold dblX dblZ sumX sumZ at hst
      clear hN l1 l2 l3 l4 l5 l6 l7 l8 l9 l10 l12 l13 l16 l17
      generalize subP ((Sa + Sb) % pr * ((Sa + Sb) % pr) % pr) (subP Sa Sb * subP Sa Sb % pr) * (((Sa + Sb) % pr * ((Sa + Sb) % pr) % pr + 121665 * subP ((Sa + Sb) % pr * ((Sa + Sb) % pr) % pr) (subP Sa Sb * subP Sa Sb % pr) % pr) % pr) % pr = n18 at *
      generalize ((Sa + Sb) % pr * ((Sa + Sb) % pr) % pr + 121665 * subP ((Sa + Sb) % pr * ((Sa + Sb) % pr) % pr) (subP Sa Sb * subP Sa Sb % pr) % pr) % pr = n17 at *
      generalize 121665 * subP ((Sa + Sb) % pr * ((Sa + Sb) % pr) % pr) (subP Sa Sb * subP Sa Sb % pr) % pr = n16 at *
      generalize ((Sa + Sb) % pr * ((Sa + Sb) % pr) % pr) * (subP Sa Sb * subP Sa Sb % pr) % pr = n15 at *
      generalize nu * (subP (subP Ss St * ((Sa + Sb) % pr) % pr) ((Ss + St) % pr * subP Sa Sb % pr) * subP (subP Ss St * ((Sa + Sb) % pr) % pr) ((Ss + St) % pr * subP Sa Sb % pr) % pr) % pr = n14 at *
      generalize subP (subP Ss St * ((Sa + Sb) % pr) % pr) ((Ss + St) % pr * subP Sa Sb % pr) * subP (subP Ss St * ((Sa + Sb) % pr) % pr) ((Ss + St) % pr * subP Sa Sb % pr) % pr = n13 at *
      generalize subP (subP Ss St * ((Sa + Sb) % pr) % pr) ((Ss + St) % pr * subP Sa Sb % pr) = n12 at *
      generalize (subP Ss St * ((Sa + Sb) % pr) % pr + (Ss + St) % pr * subP Sa Sb % pr) % pr * ((subP Ss St * ((Sa + Sb) % pr) % pr + (Ss + St) % pr * subP Sa Sb % pr) % pr) % pr = n11 at *
      generalize (subP Ss St * ((Sa + Sb) % pr) % pr + (Ss + St) % pr * subP Sa Sb % pr) % pr = n10 at *
      generalize (Ss + St) % pr * subP Sa Sb % pr = n9 at *
      generalize (Ss + St) % pr = n8 at *
      generalize subP Ss St * ((Sa + Sb) % pr) % pr = n7 at *
      generalize subP Ss St = n6 at *
      generalize subP ((Sa + Sb) % pr * ((Sa + Sb) % pr) % pr) (subP Sa Sb * subP Sa Sb % pr) = n5 at *
      generalize subP Sa Sb * subP Sa Sb % pr = n4 at *
      generalize (Sa + Sb) % pr * ((Sa + Sb) % pr) % pr = n3 at *
      generalize subP Sa Sb = n2 at *
      generalize (Sa + Sb) % pr = n1 at *
      unfold numV at d1 d2 d3 d4 d5 d6 d7 d8 d9 d10 d11 d12 d13 d14 d15 d16 d17 d18
      refine C_seqK (fun K hK => ?_)
      refine C_region ?_
      refine T_val F H (by as_aux_lemma => kernel_rfl) (.int .i64 ((Bool.toNat bt : Nat) : Int)) (fun _ _ => by as_aux_lemma => kernel_rfl) ?_
      clear F; intro a F
      refine T_val F H (by as_aux_lemma => kernel_rfl) (.int .i64 ((Bool.toNat l : Nat) : Int)) (fun _ _ => by as_aux_lemma => kernel_rfl) ?_
      clear F; intro a F
      refine T_val F H (by as_aux_lemma => kernel_rfl) (.bool false) (fun w _ => R_bin (x := (.tmp 47)) (y := (.tmp 48)) rfl (k := .i64) (a := ((Bool.toNat bt : Nat) : Int)) (b := ((Bool.toNat l : Nat) : Int)) (by as_aux_lemma => kernel_rfl) (by as_aux_lemma => kernel_rfl) ((i_nb bt l).trans (congrArg (fun q => some (Value.bool q)) hd)) w) ?_
      clear F; intro a F
      refine T_end (hK _ _ ?_)
      clear hK K
      refine C_if F false rfl rfl ?_
      refine wp_skip ?_
      refine hK3 _ _ ?_
      clear hK3 K3
      refine C_seqK (fun K hK => ?_)
      refine C_region ?_
      refine T_val F H (by as_aux_lemma => kernel_rfl) (.int .i64 ((Bool.toNat bt : Nat) : Int)) (fun _ _ => by as_aux_lemma => kernel_rfl) ?_
      clear F; intro a F
      refine T_val F H (by as_aux_lemma => kernel_rfl) (.int .i64 ((Bool.toNat bt : Nat) : Int)) (fun _ _ => by as_aux_lemma => kernel_rfl) ?_
      clear F; intro a F
      refine T_end (hK _ _ ?_)
      clear hK K
      refine C_seqK (fun K hK => ?_)
      refine C_region ?_
      refine T_val F H (by as_aux_lemma => kernel_rfl) (.agg (nArr (dg (Sa)))) (R_load (own := true) (g := aq6) (all := (nArr (dg (Sa)))) (t := 27) (fr := (0, 0)) 0 (by as_aux_lemma => kernel_rfl) 27 (.tmp 8) rfl 0 (by as_aux_lemma => kernel_rfl) (nArr (dg (Sa))) (part_all _) _ Tryd.underlying27 rfl (by as_aux_lemma => kernel_rfl)) ?_
      clear F; intro a F
      refine T_val F H (by as_aux_lemma => kernel_rfl) (.agg (nArr (dg (Sb)))) (R_load (own := true) (g := aq7) (all := (nArr (dg (Sb)))) (t := 27) (fr := (0, 0)) 1 (by as_aux_lemma => kernel_rfl) 27 (.tmp 9) rfl 0 (by as_aux_lemma => kernel_rfl) (nArr (dg (Sb))) (part_all _) _ Tryd.underlying27 rfl (by as_aux_lemma => kernel_rfl)) ?_
      clear F; intro a F
      refine T_call F H (by as_aux_lemma => kernel_rfl) 34 #[.agg (nArr (dg (Sa))), .agg (nArr (dg (Sb)))] (.agg (nArr (dg (n1)))) (fun w => by as_aux_lemma => kernel_rfl) (Calls.kept (d1 _)) ?_
      clear F H; intro a v F H
      refine T_new F H (by as_aux_lemma => kernel_rfl) (fun ad => .pointer (some ⟨ad, 0, none⟩)) (.cells z16 27 (0, 0)) (fun w => by as_aux_lemma => kernel_rfl) ?_
      clear F H; intro aq10 a v F H
      refine T_set F H (by as_aux_lemma => kernel_rfl) rfl 0 rfl (nArr (dg (n1))) (S_row 0 rfl 27 (.tmp 16) (.tmp 59) rfl (by as_aux_lemma => kernel_rfl) (nArr (dg (n1))) (by as_aux_lemma => kernel_rfl) (by as_aux_lemma => kernel_rfl) (by as_aux_lemma => kernel_rfl) (by as_aux_lemma => kernel_rfl)) [⟨true, aq10, .cells (nArr (dg (n1))) 27 (0, 0)⟩, ⟨true, aq6, .cells (nArr (dg (Sa))) 27 (0, 0)⟩, ⟨true, aq7, .cells (nArr (dg (Sb))) 27 (0, 0)⟩, ⟨true, aq8, .cells (nArr (dg (Ss))) 27 (0, 0)⟩, ⟨true, aq9, .cells (nArr (dg (St))) 27 (0, 0)⟩, ⟨true, aq5, .cells (nArr (dg (nu))) 27 (0, 0)⟩, ⟨true, aq4, .cells (kArr c) 23 (0, 0)⟩, ⟨true, aq3, .cells z32 23 (0, 0)⟩] rfl ?_
      clear F H; intro a v F H
      refine T_end (hK _ _ ?_)
      clear hK K
      refine C_seqK (fun K hK => ?_)
      refine C_region ?_
      refine T_val F H (by as_aux_lemma => kernel_rfl) (.agg (nArr (dg (Sa)))) (R_load (own := true) (g := aq6) (all := (nArr (dg (Sa)))) (t := 27) (fr := (0, 0)) 1 (by as_aux_lemma => kernel_rfl) 27 (.tmp 8) rfl 0 (by as_aux_lemma => kernel_rfl) (nArr (dg (Sa))) (part_all _) _ Tryd.underlying27 rfl (by as_aux_lemma => kernel_rfl)) ?_
      clear F; intro a F
      refine T_val F H (by as_aux_lemma => kernel_rfl) (.agg (nArr (dg (Sb)))) (R_load (own := true) (g := aq7) (all := (nArr (dg (Sb)))) (t := 27) (fr := (0, 0)) 2 (by as_aux_lemma => kernel_rfl) 27 (.tmp 9) rfl 0 (by as_aux_lemma => kernel_rfl) (nArr (dg (Sb))) (part_all _) _ Tryd.underlying27 rfl (by as_aux_lemma => kernel_rfl)) ?_
      clear F; intro a F
      refine T_call F H (by as_aux_lemma => kernel_rfl) 36 #[.agg (nArr (dg (Sa))), .agg (nArr (dg (Sb)))] (.agg (nArr (dg (n2)))) (fun w => by as_aux_lemma => kernel_rfl) (Calls.kept (d2 _)) ?_
      clear F H; intro a v F H
      refine T_new F H (by as_aux_lemma => kernel_rfl) (fun ad => .pointer (some ⟨ad, 0, none⟩)) (.cells z16 27 (0, 0)) (fun w => by as_aux_lemma => kernel_rfl) ?_
      clear F H; intro aq11 a v F H
      refine T_set F H (by as_aux_lemma => kernel_rfl) rfl 0 rfl (nArr (dg (n2))) (S_row 0 rfl 27 (.tmp 17) (.tmp 62) rfl (by as_aux_lemma => kernel_rfl) (nArr (dg (n2))) (by as_aux_lemma => kernel_rfl) (by as_aux_lemma => kernel_rfl) (by as_aux_lemma => kernel_rfl) (by as_aux_lemma => kernel_rfl)) [⟨true, aq11, .cells (nArr (dg (n2))) 27 (0, 0)⟩, ⟨true, aq10, .cells (nArr (dg (n1))) 27 (0, 0)⟩, ⟨true, aq6, .cells (nArr (dg (Sa))) 27 (0, 0)⟩, ⟨true, aq7, .cells (nArr (dg (Sb))) 27 (0, 0)⟩, ⟨true, aq8, .cells (nArr (dg (Ss))) 27 (0, 0)⟩, ⟨true, aq9, .cells (nArr (dg (St))) 27 (0, 0)⟩, ⟨true, aq5, .cells (nArr (dg (nu))) 27 (0, 0)⟩, ⟨true, aq4, .cells (kArr c) 23 (0, 0)⟩, ⟨true, aq3, .cells z32 23 (0, 0)⟩] rfl ?_
      clear F H; intro a v F H
      refine T_end (hK _ _ ?_)
      clear hK K
      refine C_seqK (fun K hK => ?_)
      refine C_region ?_
      refine T_val F H (by as_aux_lemma => kernel_rfl) (.agg (nArr (dg (n1)))) (R_load (own := true) (g := aq10) (all := (nArr (dg (n1)))) (t := 27) (fr := (0, 0)) 1 (by as_aux_lemma => kernel_rfl) 27 (.tmp 16) rfl 0 (by as_aux_lemma => kernel_rfl) (nArr (dg (n1))) (part_all _) _ Tryd.underlying27 rfl (by as_aux_lemma => kernel_rfl)) ?_
      clear F; intro a F
      refine T_val F H (by as_aux_lemma => kernel_rfl) (.agg (nArr (dg (n1)))) (R_load (own := true) (g := aq10) (all := (nArr (dg (n1)))) (t := 27) (fr := (0, 0)) 1 (by as_aux_lemma => kernel_rfl) 27 (.tmp 16) rfl 0 (by as_aux_lemma => kernel_rfl) (nArr (dg (n1))) (part_all _) _ Tryd.underlying27 rfl (by as_aux_lemma => kernel_rfl)) ?_
      clear F; intro a F
      refine T_call F H (by as_aux_lemma => kernel_rfl) 35 #[.agg (nArr (dg (n1))), .agg (nArr (dg (n1)))] (.agg (nArr (dg (n3)))) (fun w => by as_aux_lemma => kernel_rfl) (Calls.kept (d3 _)) ?_
      clear F H; intro a v F H
      refine T_new F H (by as_aux_lemma => kernel_rfl) (fun ad => .pointer (some ⟨ad, 0, none⟩)) (.cells z16 27 (0, 0)) (fun w => by as_aux_lemma => kernel_rfl) ?_
      clear F H; intro aq12 a v F H
      refine T_set F H (by as_aux_lemma => kernel_rfl) rfl 0 rfl (nArr (dg (n3))) (S_row 0 rfl 27 (.tmp 18) (.tmp 65) rfl (by as_aux_lemma => kernel_rfl) (nArr (dg (n3))) (by as_aux_lemma => kernel_rfl) (by as_aux_lemma => kernel_rfl) (by as_aux_lemma => kernel_rfl) (by as_aux_lemma => kernel_rfl)) [⟨true, aq12, .cells (nArr (dg (n3))) 27 (0, 0)⟩, ⟨true, aq11, .cells (nArr (dg (n2))) 27 (0, 0)⟩, ⟨true, aq10, .cells (nArr (dg (n1))) 27 (0, 0)⟩, ⟨true, aq6, .cells (nArr (dg (Sa))) 27 (0, 0)⟩, ⟨true, aq7, .cells (nArr (dg (Sb))) 27 (0, 0)⟩, ⟨true, aq8, .cells (nArr (dg (Ss))) 27 (0, 0)⟩, ⟨true, aq9, .cells (nArr (dg (St))) 27 (0, 0)⟩, ⟨true, aq5, .cells (nArr (dg (nu))) 27 (0, 0)⟩, ⟨true, aq4, .cells (kArr c) 23 (0, 0)⟩, ⟨true, aq3, .cells z32 23 (0, 0)⟩] rfl ?_
      clear F H; intro a v F H
      refine T_end (hK _ _ ?_)
      clear hK K
      refine C_seqK (fun K hK => ?_)
      refine C_region ?_
      refine T_val F H (by as_aux_lemma => kernel_rfl) (.agg (nArr (dg (n2)))) (R_load (own := true) (g := aq11) (all := (nArr (dg (n2)))) (t := 27) (fr := (0, 0)) 1 (by as_aux_lemma => kernel_rfl) 27 (.tmp 17) rfl 0 (by as_aux_lemma => kernel_rfl) (nArr (dg (n2))) (part_all _) _ Tryd.underlying27 rfl (by as_aux_lemma => kernel_rfl)) ?_
      clear F; intro a F
      refine T_val F H (by as_aux_lemma => kernel_rfl) (.agg (nArr (dg (n2)))) (R_load (own := true) (g := aq11) (all := (nArr (dg (n2)))) (t := 27) (fr := (0, 0)) 1 (by as_aux_lemma => kernel_rfl) 27 (.tmp 17) rfl 0 (by as_aux_lemma => kernel_rfl) (nArr (dg (n2))) (part_all _) _ Tryd.underlying27 rfl (by as_aux_lemma => kernel_rfl)) ?_
      clear F; intro a F
      refine T_call F H (by as_aux_lemma => kernel_rfl) 35 #[.agg (nArr (dg (n2))), .agg (nArr (dg (n2)))] (.agg (nArr (dg (n4)))) (fun w => by as_aux_lemma => kernel_rfl) (Calls.kept (d4 _)) ?_
      clear F H; intro a v F H
      refine T_new F H (by as_aux_lemma => kernel_rfl) (fun ad => .pointer (some ⟨ad, 0, none⟩)) (.cells z16 27 (0, 0)) (fun w => by as_aux_lemma => kernel_rfl) ?_
      clear F H; intro aq13 a v F H
      refine T_set F H (by as_aux_lemma => kernel_rfl) rfl 0 rfl (nArr (dg (n4))) (S_row 0 rfl 27 (.tmp 19) (.tmp 68) rfl (by as_aux_lemma => kernel_rfl) (nArr (dg (n4))) (by as_aux_lemma => kernel_rfl) (by as_aux_lemma => kernel_rfl) (by as_aux_lemma => kernel_rfl) (by as_aux_lemma => kernel_rfl)) [⟨true, aq13, .cells (nArr (dg (n4))) 27 (0, 0)⟩, ⟨true, aq12, .cells (nArr (dg (n3))) 27 (0, 0)⟩, ⟨true, aq11, .cells (nArr (dg (n2))) 27 (0, 0)⟩, ⟨true, aq10, .cells (nArr (dg (n1))) 27 (0, 0)⟩, ⟨true, aq6, .cells (nArr (dg (Sa))) 27 (0, 0)⟩, ⟨true, aq7, .cells (nArr (dg (Sb))) 27 (0, 0)⟩, ⟨true, aq8, .cells (nArr (dg (Ss))) 27 (0, 0)⟩, ⟨true, aq9, .cells (nArr (dg (St))) 27 (0, 0)⟩, ⟨true, aq5, .cells (nArr (dg (nu))) 27 (0, 0)⟩, ⟨true, aq4, .cells (kArr c) 23 (0, 0)⟩, ⟨true, aq3, .cells z32 23 (0, 0)⟩] rfl ?_
      clear F H; intro a v F H
      refine T_end (hK _ _ ?_)
      clear hK K
      refine C_seqK (fun K hK => ?_)
      refine C_region ?_
      refine T_val F H (by as_aux_lemma => kernel_rfl) (.agg (nArr (dg (n3)))) (R_load (own := true) (g := aq12) (all := (nArr (dg (n3)))) (t := 27) (fr := (0, 0)) 1 (by as_aux_lemma => kernel_rfl) 27 (.tmp 18) rfl 0 (by as_aux_lemma => kernel_rfl) (nArr (dg (n3))) (part_all _) _ Tryd.underlying27 rfl (by as_aux_lemma => kernel_rfl)) ?_
      clear F; intro a F
      refine T_val F H (by as_aux_lemma => kernel_rfl) (.agg (nArr (dg (n4)))) (R_load (own := true) (g := aq13) (all := (nArr (dg (n4)))) (t := 27) (fr := (0, 0)) 0 (by as_aux_lemma => kernel_rfl) 27 (.tmp 19) rfl 0 (by as_aux_lemma => kernel_rfl) (nArr (dg (n4))) (part_all _) _ Tryd.underlying27 rfl (by as_aux_lemma => kernel_rfl)) ?_
      clear F; intro a F
      refine T_call F H (by as_aux_lemma => kernel_rfl) 36 #[.agg (nArr (dg (n3))), .agg (nArr (dg (n4)))] (.agg (nArr (dg (n5)))) (fun w => by as_aux_lemma => kernel_rfl) (Calls.kept (d5 _)) ?_
      clear F H; intro a v F H
      refine T_new F H (by as_aux_lemma => kernel_rfl) (fun ad => .pointer (some ⟨ad, 0, none⟩)) (.cells z16 27 (0, 0)) (fun w => by as_aux_lemma => kernel_rfl) ?_
      clear F H; intro aq14 a v F H
      refine T_set F H (by as_aux_lemma => kernel_rfl) rfl 0 rfl (nArr (dg (n5))) (S_row 0 rfl 27 (.tmp 20) (.tmp 71) rfl (by as_aux_lemma => kernel_rfl) (nArr (dg (n5))) (by as_aux_lemma => kernel_rfl) (by as_aux_lemma => kernel_rfl) (by as_aux_lemma => kernel_rfl) (by as_aux_lemma => kernel_rfl)) [⟨true, aq14, .cells (nArr (dg (n5))) 27 (0, 0)⟩, ⟨true, aq13, .cells (nArr (dg (n4))) 27 (0, 0)⟩, ⟨true, aq12, .cells (nArr (dg (n3))) 27 (0, 0)⟩, ⟨true, aq11, .cells (nArr (dg (n2))) 27 (0, 0)⟩, ⟨true, aq10, .cells (nArr (dg (n1))) 27 (0, 0)⟩, ⟨true, aq6, .cells (nArr (dg (Sa))) 27 (0, 0)⟩, ⟨true, aq7, .cells (nArr (dg (Sb))) 27 (0, 0)⟩, ⟨true, aq8, .cells (nArr (dg (Ss))) 27 (0, 0)⟩, ⟨true, aq9, .cells (nArr (dg (St))) 27 (0, 0)⟩, ⟨true, aq5, .cells (nArr (dg (nu))) 27 (0, 0)⟩, ⟨true, aq4, .cells (kArr c) 23 (0, 0)⟩, ⟨true, aq3, .cells z32 23 (0, 0)⟩] rfl ?_
      clear F H; intro a v F H
      refine T_end (hK _ _ ?_)
      clear hK K
      refine C_seqK (fun K hK => ?_)
      refine D_region F H (fun β => [(72, .agg (nArr (dg (Ss)))), (73, .agg (nArr (dg (St)))), (74, .agg (nArr (dg (n6)))), (75, .agg (nArr (dg (n1)))), (76, .agg (nArr (dg (n7)))), (21, .pointer (some ⟨(β 5), 0, none⟩))]) [72, 73, 74, 75, 76, 21] [⟨5, 6, .cells z16 27 (0, 0), .cells (nArr (dg (n7))) 27 (0, 0)⟩] [] [⟨true, aq14, .cells (nArr (dg (n5))) 27 (0, 0)⟩, ⟨true, aq13, .cells (nArr (dg (n4))) 27 (0, 0)⟩, ⟨true, aq12, .cells (nArr (dg (n3))) 27 (0, 0)⟩, ⟨true, aq11, .cells (nArr (dg (n2))) 27 (0, 0)⟩, ⟨true, aq10, .cells (nArr (dg (n1))) 27 (0, 0)⟩, ⟨true, aq6, .cells (nArr (dg (Sa))) 27 (0, 0)⟩, ⟨true, aq7, .cells (nArr (dg (Sb))) 27 (0, 0)⟩, ⟨true, aq8, .cells (nArr (dg (Ss))) 27 (0, 0)⟩, ⟨true, aq9, .cells (nArr (dg (St))) 27 (0, 0)⟩, ⟨true, aq5, .cells (nArr (dg (nu))) 27 (0, 0)⟩, ⟨true, aq4, .cells (kArr c) 23 (0, 0)⟩, ⟨true, aq3, .cells z32 23 (0, 0)⟩] [0, 1, 2, 3, 4, 5, 6, 7, 8, 9, 10, 11] (by as_aux_lemma => kernel_rfl) (by as_aux_lemma => kernel_rfl) (by as_aux_lemma => kernel_rfl) (fun β => rfl) (fun fit => ⟨?_, ?_, ?_, ?_, ?_, ?_, ?_, trivial⟩) ?_
      · exact D_val 117 (fun β => by as_aux_lemma => kernel_rfl) (fun β => .agg (nArr (dg (Ss)))) 72 rfl (fun β => by as_aux_lemma => kernel_rfl) (fun β => R_load (own := true) (g := aq8) (all := (nArr (dg (Ss)))) (t := 27) (fr := (0, 0)) 7 (by as_aux_lemma => kernel_rfl) 27 (.tmp 10) rfl 0 (by as_aux_lemma => kernel_rfl) (nArr (dg (Ss))) (part_all _) _ Tryd.underlying27 rfl (by as_aux_lemma => kernel_rfl)) (by as_aux_lemma => kernel_rfl)
      · exact D_val 117 (fun β => by as_aux_lemma => kernel_rfl) (fun β => .agg (nArr (dg (St)))) 73 rfl (fun β => by as_aux_lemma => kernel_rfl) (fun β => R_load (own := true) (g := aq9) (all := (nArr (dg (St)))) (t := 27) (fr := (0, 0)) 8 (by as_aux_lemma => kernel_rfl) 27 (.tmp 11) rfl 0 (by as_aux_lemma => kernel_rfl) (nArr (dg (St))) (part_all _) _ Tryd.underlying27 rfl (by as_aux_lemma => kernel_rfl)) (by as_aux_lemma => kernel_rfl)
      · exact D_call 117 (fun β => by as_aux_lemma => kernel_rfl) (fun β => .agg (nArr (dg (n6)))) 74 rfl (fun β => by as_aux_lemma => kernel_rfl) 36 (fun β => #[.agg (nArr (dg (Ss))), .agg (nArr (dg (St)))]) (fun β w => by as_aux_lemma => kernel_rfl) (fun β w hk => Calls.kept (d6 _)) (by as_aux_lemma => kernel_rfl)
      · exact D_val 117 (fun β => by as_aux_lemma => kernel_rfl) (fun β => .agg (nArr (dg (n1)))) 75 rfl (fun β => by as_aux_lemma => kernel_rfl) (fun β => R_load (own := true) (g := aq10) (all := (nArr (dg (n1)))) (t := 27) (fr := (0, 0)) 4 (by as_aux_lemma => kernel_rfl) 27 (.tmp 16) rfl 0 (by as_aux_lemma => kernel_rfl) (nArr (dg (n1))) (part_all _) _ Tryd.underlying27 rfl (by as_aux_lemma => kernel_rfl)) (by as_aux_lemma => kernel_rfl)
      · exact D_call 117 (fun β => by as_aux_lemma => kernel_rfl) (fun β => .agg (nArr (dg (n7)))) 76 rfl (fun β => by as_aux_lemma => kernel_rfl) 35 (fun β => #[.agg (nArr (dg (n6))), .agg (nArr (dg (n1)))]) (fun β w => by as_aux_lemma => kernel_rfl) (fun β w hk => Calls.kept (d7 _)) (by as_aux_lemma => kernel_rfl)
      · exact D_new fit ⟨5, 6, .cells z16 27 (0, 0), .cells (nArr (dg (n7))) 27 (0, 0)⟩ (List.mem_of_getElem? (i := 0) rfl) rfl 117 (fun β => by as_aux_lemma => kernel_rfl) 21 rfl (fun ad => .pointer (some ⟨ad, 0, none⟩)) (fun β w => by as_aux_lemma => kernel_rfl) (fun β => by as_aux_lemma => kernel_rfl) (fun β b => ⟨rfl, .inr rfl, ⟨rfl, .inr rfl, ⟨rfl, .inr rfl, ⟨rfl, .inr rfl, ⟨rfl, .inr rfl, ⟨rfl, .inl rfl, trivial⟩⟩⟩⟩⟩⟩) (by as_aux_lemma => kernel_rfl)
      · exact D_put fit ⟨5, 6, .cells z16 27 (0, 0), .cells (nArr (dg (n7))) 27 (0, 0)⟩ (List.mem_of_getElem? (i := 0) rfl) rfl 117 (fun β => by as_aux_lemma => kernel_rfl) rfl (by as_aux_lemma => kernel_rfl) (fun β w _ hg => P_row rfl rfl (ty := 27) (x := (.tmp 21)) (y := (.tmp 76)) rfl (by as_aux_lemma => kernel_rfl) (by as_aux_lemma => kernel_rfl) (by as_aux_lemma => kernel_rfl) (by as_aux_lemma => kernel_rfl) (by as_aux_lemma => kernel_rfl) hg) (by as_aux_lemma => kernel_rfl)
      clear F H; intro β a v F H
      replace H : Hp [] w [⟨true, (β 5), .cells (nArr (dg (n7))) 27 (0, 0)⟩, ⟨true, aq14, .cells (nArr (dg (n5))) 27 (0, 0)⟩, ⟨true, aq13, .cells (nArr (dg (n4))) 27 (0, 0)⟩, ⟨true, aq12, .cells (nArr (dg (n3))) 27 (0, 0)⟩, ⟨true, aq11, .cells (nArr (dg (n2))) 27 (0, 0)⟩, ⟨true, aq10, .cells (nArr (dg (n1))) 27 (0, 0)⟩, ⟨true, aq6, .cells (nArr (dg (Sa))) 27 (0, 0)⟩, ⟨true, aq7, .cells (nArr (dg (Sb))) 27 (0, 0)⟩, ⟨true, aq8, .cells (nArr (dg (Ss))) 27 (0, 0)⟩, ⟨true, aq9, .cells (nArr (dg (St))) 27 (0, 0)⟩, ⟨true, aq5, .cells (nArr (dg (nu))) 27 (0, 0)⟩, ⟨true, aq4, .cells (kArr c) 23 (0, 0)⟩, ⟨true, aq3, .cells z32 23 (0, 0)⟩] v := H
      replace F : Fm 117 [] [(21, .pointer (some ⟨(β 5), 0, none⟩)), (76, .agg (nArr (dg (n7)))), (75, .agg (nArr (dg (n1)))), (74, .agg (nArr (dg (n6)))), (73, .agg (nArr (dg (St)))), (72, .agg (nArr (dg (Ss)))), (20, .pointer (some ⟨aq14, 0, none⟩)), (71, .agg (nArr (dg (n5)))), (70, .agg (nArr (dg (n4)))), (69, .agg (nArr (dg (n3)))), (19, .pointer (some ⟨aq13, 0, none⟩)), (68, .agg (nArr (dg (n4)))), (67, .agg (nArr (dg (n2)))), (66, .agg (nArr (dg (n2)))), (18, .pointer (some ⟨aq12, 0, none⟩)), (65, .agg (nArr (dg (n3)))), (64, .agg (nArr (dg (n1)))), (63, .agg (nArr (dg (n1)))), (17, .pointer (some ⟨aq11, 0, none⟩)), (62, .agg (nArr (dg (n2)))), (61, .agg (nArr (dg (Sb)))), (60, .agg (nArr (dg (Sa)))), (16, .pointer (some ⟨aq10, 0, none⟩)), (59, .agg (nArr (dg (n1)))), (58, .agg (nArr (dg (Sb)))), (57, .agg (nArr (dg (Sa)))), (12, .int .i64 ((Bool.toNat bt : Nat) : Int)), (56, .int .i64 ((Bool.toNat bt : Nat) : Int)), (49, .bool false), (48, .int .i64 ((Bool.toNat l : Nat) : Int)), (47, .int .i64 ((Bool.toNat bt : Nat) : Int)), (14, .int .i64 ((Bool.toNat bt : Nat) : Int)), (13, .int .i64 ((m : Nat) : Int)), (4, .pointer (some ⟨aq3, 0, none⟩)), (5, .pointer (some ⟨aq4, 0, none⟩)), (6, .pointer (some ⟨aq5, 0, none⟩)), (8, .pointer (some ⟨aq6, 0, none⟩)), (9, .pointer (some ⟨aq7, 0, none⟩)), (10, .pointer (some ⟨aq8, 0, none⟩)), (11, .pointer (some ⟨aq9, 0, none⟩))] a := F.weak _ (⟨rfl, ⟨rfl, ⟨rfl, ⟨rfl, ⟨rfl, ⟨rfl, ⟨rfl, ⟨rfl, ⟨rfl, ⟨rfl, ⟨rfl, ⟨rfl, ⟨rfl, ⟨rfl, ⟨rfl, ⟨rfl, ⟨rfl, ⟨rfl, ⟨rfl, ⟨rfl, ⟨rfl, ⟨rfl, ⟨rfl, ⟨rfl, ⟨rfl, ⟨rfl, ⟨rfl, ⟨rfl, ⟨rfl, ⟨rfl, ⟨rfl, ⟨rfl, ⟨rfl, ⟨rfl, ⟨rfl, ⟨rfl, ⟨rfl, ⟨rfl, ⟨rfl, ⟨rfl, trivial⟩⟩⟩⟩⟩⟩⟩⟩⟩⟩⟩⟩⟩⟩⟩⟩⟩⟩⟩⟩⟩⟩⟩⟩⟩⟩⟩⟩⟩⟩⟩⟩⟩⟩⟩⟩⟩⟩⟩⟩)
      generalize β 5 = aq15 at F H
      refine hK _ _ ?_
      clear hK K
      refine C_seqK (fun K hK => ?_)
      refine D_region F H (fun β => [(77, .agg (nArr (dg (Ss)))), (78, .agg (nArr (dg (St)))), (79, .agg (nArr (dg (n8)))), (80, .agg (nArr (dg (n2)))), (81, .agg (nArr (dg (n9)))), (22, .pointer (some ⟨(β 5), 0, none⟩))]) [77, 78, 79, 80, 81, 22] [⟨5, 6, .cells z16 27 (0, 0), .cells (nArr (dg (n9))) 27 (0, 0)⟩] [] [⟨true, aq15, .cells (nArr (dg (n7))) 27 (0, 0)⟩, ⟨true, aq14, .cells (nArr (dg (n5))) 27 (0, 0)⟩, ⟨true, aq13, .cells (nArr (dg (n4))) 27 (0, 0)⟩, ⟨true, aq12, .cells (nArr (dg (n3))) 27 (0, 0)⟩, ⟨true, aq11, .cells (nArr (dg (n2))) 27 (0, 0)⟩, ⟨true, aq10, .cells (nArr (dg (n1))) 27 (0, 0)⟩, ⟨true, aq6, .cells (nArr (dg (Sa))) 27 (0, 0)⟩, ⟨true, aq7, .cells (nArr (dg (Sb))) 27 (0, 0)⟩, ⟨true, aq8, .cells (nArr (dg (Ss))) 27 (0, 0)⟩, ⟨true, aq9, .cells (nArr (dg (St))) 27 (0, 0)⟩, ⟨true, aq5, .cells (nArr (dg (nu))) 27 (0, 0)⟩, ⟨true, aq4, .cells (kArr c) 23 (0, 0)⟩, ⟨true, aq3, .cells z32 23 (0, 0)⟩] [0, 1, 2, 3, 4, 5, 6, 7, 8, 9, 10, 11, 12] (by as_aux_lemma => kernel_rfl) (by as_aux_lemma => kernel_rfl) (by as_aux_lemma => kernel_rfl) (fun β => rfl) (fun fit => ⟨?_, ?_, ?_, ?_, ?_, ?_, ?_, trivial⟩) ?_
      · exact D_val 117 (fun β => by as_aux_lemma => kernel_rfl) (fun β => .agg (nArr (dg (Ss)))) 77 rfl (fun β => by as_aux_lemma => kernel_rfl) (fun β => R_load (own := true) (g := aq8) (all := (nArr (dg (Ss)))) (t := 27) (fr := (0, 0)) 8 (by as_aux_lemma => kernel_rfl) 27 (.tmp 10) rfl 0 (by as_aux_lemma => kernel_rfl) (nArr (dg (Ss))) (part_all _) _ Tryd.underlying27 rfl (by as_aux_lemma => kernel_rfl)) (by as_aux_lemma => kernel_rfl)
      · exact D_val 117 (fun β => by as_aux_lemma => kernel_rfl) (fun β => .agg (nArr (dg (St)))) 78 rfl (fun β => by as_aux_lemma => kernel_rfl) (fun β => R_load (own := true) (g := aq9) (all := (nArr (dg (St)))) (t := 27) (fr := (0, 0)) 9 (by as_aux_lemma => kernel_rfl) 27 (.tmp 11) rfl 0 (by as_aux_lemma => kernel_rfl) (nArr (dg (St))) (part_all _) _ Tryd.underlying27 rfl (by as_aux_lemma => kernel_rfl)) (by as_aux_lemma => kernel_rfl)
      · exact D_call 117 (fun β => by as_aux_lemma => kernel_rfl) (fun β => .agg (nArr (dg (n8)))) 79 rfl (fun β => by as_aux_lemma => kernel_rfl) 34 (fun β => #[.agg (nArr (dg (Ss))), .agg (nArr (dg (St)))]) (fun β w => by as_aux_lemma => kernel_rfl) (fun β w hk => Calls.kept (d8 _)) (by as_aux_lemma => kernel_rfl)
      · exact D_val 117 (fun β => by as_aux_lemma => kernel_rfl) (fun β => .agg (nArr (dg (n2)))) 80 rfl (fun β => by as_aux_lemma => kernel_rfl) (fun β => R_load (own := true) (g := aq11) (all := (nArr (dg (n2)))) (t := 27) (fr := (0, 0)) 4 (by as_aux_lemma => kernel_rfl) 27 (.tmp 17) rfl 0 (by as_aux_lemma => kernel_rfl) (nArr (dg (n2))) (part_all _) _ Tryd.underlying27 rfl (by as_aux_lemma => kernel_rfl)) (by as_aux_lemma => kernel_rfl)
      · exact D_call 117 (fun β => by as_aux_lemma => kernel_rfl) (fun β => .agg (nArr (dg (n9)))) 81 rfl (fun β => by as_aux_lemma => kernel_rfl) 35 (fun β => #[.agg (nArr (dg (n8))), .agg (nArr (dg (n2)))]) (fun β w => by as_aux_lemma => kernel_rfl) (fun β w hk => Calls.kept (d9 _)) (by as_aux_lemma => kernel_rfl)
      · exact D_new fit ⟨5, 6, .cells z16 27 (0, 0), .cells (nArr (dg (n9))) 27 (0, 0)⟩ (List.mem_of_getElem? (i := 0) rfl) rfl 117 (fun β => by as_aux_lemma => kernel_rfl) 22 rfl (fun ad => .pointer (some ⟨ad, 0, none⟩)) (fun β w => by as_aux_lemma => kernel_rfl) (fun β => by as_aux_lemma => kernel_rfl) (fun β b => ⟨rfl, .inr rfl, ⟨rfl, .inr rfl, ⟨rfl, .inr rfl, ⟨rfl, .inr rfl, ⟨rfl, .inr rfl, ⟨rfl, .inl rfl, trivial⟩⟩⟩⟩⟩⟩) (by as_aux_lemma => kernel_rfl)
      · exact D_put fit ⟨5, 6, .cells z16 27 (0, 0), .cells (nArr (dg (n9))) 27 (0, 0)⟩ (List.mem_of_getElem? (i := 0) rfl) rfl 117 (fun β => by as_aux_lemma => kernel_rfl) rfl (by as_aux_lemma => kernel_rfl) (fun β w _ hg => P_row rfl rfl (ty := 27) (x := (.tmp 22)) (y := (.tmp 81)) rfl (by as_aux_lemma => kernel_rfl) (by as_aux_lemma => kernel_rfl) (by as_aux_lemma => kernel_rfl) (by as_aux_lemma => kernel_rfl) (by as_aux_lemma => kernel_rfl) hg) (by as_aux_lemma => kernel_rfl)
      clear F H; intro β a v F H
      replace H : Hp [] w [⟨true, (β 5), .cells (nArr (dg (n9))) 27 (0, 0)⟩, ⟨true, aq15, .cells (nArr (dg (n7))) 27 (0, 0)⟩, ⟨true, aq14, .cells (nArr (dg (n5))) 27 (0, 0)⟩, ⟨true, aq13, .cells (nArr (dg (n4))) 27 (0, 0)⟩, ⟨true, aq12, .cells (nArr (dg (n3))) 27 (0, 0)⟩, ⟨true, aq11, .cells (nArr (dg (n2))) 27 (0, 0)⟩, ⟨true, aq10, .cells (nArr (dg (n1))) 27 (0, 0)⟩, ⟨true, aq6, .cells (nArr (dg (Sa))) 27 (0, 0)⟩, ⟨true, aq7, .cells (nArr (dg (Sb))) 27 (0, 0)⟩, ⟨true, aq8, .cells (nArr (dg (Ss))) 27 (0, 0)⟩, ⟨true, aq9, .cells (nArr (dg (St))) 27 (0, 0)⟩, ⟨true, aq5, .cells (nArr (dg (nu))) 27 (0, 0)⟩, ⟨true, aq4, .cells (kArr c) 23 (0, 0)⟩, ⟨true, aq3, .cells z32 23 (0, 0)⟩] v := H
      replace F : Fm 117 [] [(22, .pointer (some ⟨(β 5), 0, none⟩)), (81, .agg (nArr (dg (n9)))), (80, .agg (nArr (dg (n2)))), (79, .agg (nArr (dg (n8)))), (78, .agg (nArr (dg (St)))), (77, .agg (nArr (dg (Ss)))), (21, .pointer (some ⟨aq15, 0, none⟩)), (76, .agg (nArr (dg (n7)))), (75, .agg (nArr (dg (n1)))), (74, .agg (nArr (dg (n6)))), (73, .agg (nArr (dg (St)))), (72, .agg (nArr (dg (Ss)))), (20, .pointer (some ⟨aq14, 0, none⟩)), (71, .agg (nArr (dg (n5)))), (70, .agg (nArr (dg (n4)))), (69, .agg (nArr (dg (n3)))), (19, .pointer (some ⟨aq13, 0, none⟩)), (68, .agg (nArr (dg (n4)))), (67, .agg (nArr (dg (n2)))), (66, .agg (nArr (dg (n2)))), (18, .pointer (some ⟨aq12, 0, none⟩)), (65, .agg (nArr (dg (n3)))), (64, .agg (nArr (dg (n1)))), (63, .agg (nArr (dg (n1)))), (17, .pointer (some ⟨aq11, 0, none⟩)), (62, .agg (nArr (dg (n2)))), (61, .agg (nArr (dg (Sb)))), (60, .agg (nArr (dg (Sa)))), (16, .pointer (some ⟨aq10, 0, none⟩)), (59, .agg (nArr (dg (n1)))), (58, .agg (nArr (dg (Sb)))), (57, .agg (nArr (dg (Sa)))), (12, .int .i64 ((Bool.toNat bt : Nat) : Int)), (56, .int .i64 ((Bool.toNat bt : Nat) : Int)), (49, .bool false), (48, .int .i64 ((Bool.toNat l : Nat) : Int)), (47, .int .i64 ((Bool.toNat bt : Nat) : Int)), (14, .int .i64 ((Bool.toNat bt : Nat) : Int)), (13, .int .i64 ((m : Nat) : Int)), (4, .pointer (some ⟨aq3, 0, none⟩)), (5, .pointer (some ⟨aq4, 0, none⟩)), (6, .pointer (some ⟨aq5, 0, none⟩)), (8, .pointer (some ⟨aq6, 0, none⟩)), (9, .pointer (some ⟨aq7, 0, none⟩)), (10, .pointer (some ⟨aq8, 0, none⟩)), (11, .pointer (some ⟨aq9, 0, none⟩))] a := F.weak _ (⟨rfl, ⟨rfl, ⟨rfl, ⟨rfl, ⟨rfl, ⟨rfl, ⟨rfl, ⟨rfl, ⟨rfl, ⟨rfl, ⟨rfl, ⟨rfl, ⟨rfl, ⟨rfl, ⟨rfl, ⟨rfl, ⟨rfl, ⟨rfl, ⟨rfl, ⟨rfl, ⟨rfl, ⟨rfl, ⟨rfl, ⟨rfl, ⟨rfl, ⟨rfl, ⟨rfl, ⟨rfl, ⟨rfl, ⟨rfl, ⟨rfl, ⟨rfl, ⟨rfl, ⟨rfl, ⟨rfl, ⟨rfl, ⟨rfl, ⟨rfl, ⟨rfl, ⟨rfl, ⟨rfl, ⟨rfl, ⟨rfl, ⟨rfl, ⟨rfl, ⟨rfl, trivial⟩⟩⟩⟩⟩⟩⟩⟩⟩⟩⟩⟩⟩⟩⟩⟩⟩⟩⟩⟩⟩⟩⟩⟩⟩⟩⟩⟩⟩⟩⟩⟩⟩⟩⟩⟩⟩⟩⟩⟩⟩⟩⟩⟩⟩⟩)
      generalize β 5 = aq16 at F H
      refine hK _ _ ?_
      clear hK K
      refine C_seqK (fun K hK => ?_)
      refine D_region F H (fun β => [(82, .agg (nArr (dg (n7)))), (83, .agg (nArr (dg (n9)))), (84, .agg (nArr (dg (n10)))), (85, .agg (nArr (dg (n7)))), (86, .agg (nArr (dg (n9)))), (87, .agg (nArr (dg (n10)))), (88, .agg (nArr (dg (n11))))]) [82, 83, 84, 85, 86, 87, 88] [] [⟨aq8, 7, .cells (nArr (dg (Ss))) 27 (0, 0), .cells (nArr (dg (n11))) 27 (0, 0)⟩] [⟨true, aq16, .cells (nArr (dg (n9))) 27 (0, 0)⟩, ⟨true, aq15, .cells (nArr (dg (n7))) 27 (0, 0)⟩, ⟨true, aq14, .cells (nArr (dg (n5))) 27 (0, 0)⟩, ⟨true, aq13, .cells (nArr (dg (n4))) 27 (0, 0)⟩, ⟨true, aq12, .cells (nArr (dg (n3))) 27 (0, 0)⟩, ⟨true, aq11, .cells (nArr (dg (n2))) 27 (0, 0)⟩, ⟨true, aq10, .cells (nArr (dg (n1))) 27 (0, 0)⟩, ⟨true, aq6, .cells (nArr (dg (Sa))) 27 (0, 0)⟩, ⟨true, aq7, .cells (nArr (dg (Sb))) 27 (0, 0)⟩, ⟨true, aq9, .cells (nArr (dg (St))) 27 (0, 0)⟩, ⟨true, aq5, .cells (nArr (dg (nu))) 27 (0, 0)⟩, ⟨true, aq4, .cells (kArr c) 23 (0, 0)⟩, ⟨true, aq3, .cells z32 23 (0, 0)⟩] [9, 0, 1, 2, 3, 4, 5, 6, 7, 8, 10, 11, 12, 13] (by as_aux_lemma => kernel_rfl) (by as_aux_lemma => kernel_rfl) (by as_aux_lemma => kernel_rfl) (fun β => rfl) (fun fit => ⟨?_, ?_, ?_, ?_, ?_, ?_, ?_, ?_, trivial⟩) ?_
      · exact D_val 117 (fun β => by as_aux_lemma => kernel_rfl) (fun β => .agg (nArr (dg (n7)))) 82 rfl (fun β => by as_aux_lemma => kernel_rfl) (fun β => R_load (own := true) (g := aq15) (all := (nArr (dg (n7)))) (t := 27) (fr := (0, 0)) 1 (by as_aux_lemma => kernel_rfl) 27 (.tmp 21) rfl 0 (by as_aux_lemma => kernel_rfl) (nArr (dg (n7))) (part_all _) _ Tryd.underlying27 rfl (by as_aux_lemma => kernel_rfl)) (by as_aux_lemma => kernel_rfl)
      · exact D_val 117 (fun β => by as_aux_lemma => kernel_rfl) (fun β => .agg (nArr (dg (n9)))) 83 rfl (fun β => by as_aux_lemma => kernel_rfl) (fun β => R_load (own := true) (g := aq16) (all := (nArr (dg (n9)))) (t := 27) (fr := (0, 0)) 0 (by as_aux_lemma => kernel_rfl) 27 (.tmp 22) rfl 0 (by as_aux_lemma => kernel_rfl) (nArr (dg (n9))) (part_all _) _ Tryd.underlying27 rfl (by as_aux_lemma => kernel_rfl)) (by as_aux_lemma => kernel_rfl)
      · exact D_call 117 (fun β => by as_aux_lemma => kernel_rfl) (fun β => .agg (nArr (dg (n10)))) 84 rfl (fun β => by as_aux_lemma => kernel_rfl) 34 (fun β => #[.agg (nArr (dg (n7))), .agg (nArr (dg (n9)))]) (fun β w => by as_aux_lemma => kernel_rfl) (fun β w hk => Calls.kept (d10 _)) (by as_aux_lemma => kernel_rfl)
      · exact D_val 117 (fun β => by as_aux_lemma => kernel_rfl) (fun β => .agg (nArr (dg (n7)))) 85 rfl (fun β => by as_aux_lemma => kernel_rfl) (fun β => R_load (own := true) (g := aq15) (all := (nArr (dg (n7)))) (t := 27) (fr := (0, 0)) 1 (by as_aux_lemma => kernel_rfl) 27 (.tmp 21) rfl 0 (by as_aux_lemma => kernel_rfl) (nArr (dg (n7))) (part_all _) _ Tryd.underlying27 rfl (by as_aux_lemma => kernel_rfl)) (by as_aux_lemma => kernel_rfl)
      · exact D_val 117 (fun β => by as_aux_lemma => kernel_rfl) (fun β => .agg (nArr (dg (n9)))) 86 rfl (fun β => by as_aux_lemma => kernel_rfl) (fun β => R_load (own := true) (g := aq16) (all := (nArr (dg (n9)))) (t := 27) (fr := (0, 0)) 0 (by as_aux_lemma => kernel_rfl) 27 (.tmp 22) rfl 0 (by as_aux_lemma => kernel_rfl) (nArr (dg (n9))) (part_all _) _ Tryd.underlying27 rfl (by as_aux_lemma => kernel_rfl)) (by as_aux_lemma => kernel_rfl)
      · exact D_call 117 (fun β => by as_aux_lemma => kernel_rfl) (fun β => .agg (nArr (dg (n10)))) 87 rfl (fun β => by as_aux_lemma => kernel_rfl) 34 (fun β => #[.agg (nArr (dg (n7))), .agg (nArr (dg (n9)))]) (fun β w => by as_aux_lemma => kernel_rfl) (fun β w hk => Calls.kept (d10 _)) (by as_aux_lemma => kernel_rfl)
      · exact D_call 117 (fun β => by as_aux_lemma => kernel_rfl) (fun β => .agg (nArr (dg (n11)))) 88 rfl (fun β => by as_aux_lemma => kernel_rfl) 35 (fun β => #[.agg (nArr (dg (n10))), .agg (nArr (dg (n10)))]) (fun β w => by as_aux_lemma => kernel_rfl) (fun β w hk => Calls.kept (d11 _)) (by as_aux_lemma => kernel_rfl)
      · exact D_putF fit ⟨aq8, 7, .cells (nArr (dg (Ss))) 27 (0, 0), .cells (nArr (dg (n11))) 27 (0, 0)⟩ (List.mem_of_getElem? (i := 0) rfl) rfl 117 (fun β => by as_aux_lemma => kernel_rfl) rfl (fun β w _ hg => P_row rfl rfl (ty := 27) (x := (.tmp 10)) (y := (.tmp 88)) rfl (by as_aux_lemma => kernel_rfl) (by as_aux_lemma => kernel_rfl) (by as_aux_lemma => kernel_rfl) (by as_aux_lemma => kernel_rfl) (by as_aux_lemma => kernel_rfl) hg) (by as_aux_lemma => kernel_rfl)
      clear F H; intro β a v F H
      replace H : Hp [] w [⟨true, aq8, .cells (nArr (dg (n11))) 27 (0, 0)⟩, ⟨true, aq16, .cells (nArr (dg (n9))) 27 (0, 0)⟩, ⟨true, aq15, .cells (nArr (dg (n7))) 27 (0, 0)⟩, ⟨true, aq14, .cells (nArr (dg (n5))) 27 (0, 0)⟩, ⟨true, aq13, .cells (nArr (dg (n4))) 27 (0, 0)⟩, ⟨true, aq12, .cells (nArr (dg (n3))) 27 (0, 0)⟩, ⟨true, aq11, .cells (nArr (dg (n2))) 27 (0, 0)⟩, ⟨true, aq10, .cells (nArr (dg (n1))) 27 (0, 0)⟩, ⟨true, aq6, .cells (nArr (dg (Sa))) 27 (0, 0)⟩, ⟨true, aq7, .cells (nArr (dg (Sb))) 27 (0, 0)⟩, ⟨true, aq9, .cells (nArr (dg (St))) 27 (0, 0)⟩, ⟨true, aq5, .cells (nArr (dg (nu))) 27 (0, 0)⟩, ⟨true, aq4, .cells (kArr c) 23 (0, 0)⟩, ⟨true, aq3, .cells z32 23 (0, 0)⟩] v := H
      replace F : Fm 117 [] [(88, .agg (nArr (dg (n11)))), (87, .agg (nArr (dg (n10)))), (86, .agg (nArr (dg (n9)))), (85, .agg (nArr (dg (n7)))), (84, .agg (nArr (dg (n10)))), (83, .agg (nArr (dg (n9)))), (82, .agg (nArr (dg (n7)))), (22, .pointer (some ⟨aq16, 0, none⟩)), (81, .agg (nArr (dg (n9)))), (80, .agg (nArr (dg (n2)))), (79, .agg (nArr (dg (n8)))), (78, .agg (nArr (dg (St)))), (77, .agg (nArr (dg (Ss)))), (21, .pointer (some ⟨aq15, 0, none⟩)), (76, .agg (nArr (dg (n7)))), (75, .agg (nArr (dg (n1)))), (74, .agg (nArr (dg (n6)))), (73, .agg (nArr (dg (St)))), (72, .agg (nArr (dg (Ss)))), (20, .pointer (some ⟨aq14, 0, none⟩)), (71, .agg (nArr (dg (n5)))), (70, .agg (nArr (dg (n4)))), (69, .agg (nArr (dg (n3)))), (19, .pointer (some ⟨aq13, 0, none⟩)), (68, .agg (nArr (dg (n4)))), (67, .agg (nArr (dg (n2)))), (66, .agg (nArr (dg (n2)))), (18, .pointer (some ⟨aq12, 0, none⟩)), (65, .agg (nArr (dg (n3)))), (64, .agg (nArr (dg (n1)))), (63, .agg (nArr (dg (n1)))), (17, .pointer (some ⟨aq11, 0, none⟩)), (62, .agg (nArr (dg (n2)))), (61, .agg (nArr (dg (Sb)))), (60, .agg (nArr (dg (Sa)))), (16, .pointer (some ⟨aq10, 0, none⟩)), (59, .agg (nArr (dg (n1)))), (58, .agg (nArr (dg (Sb)))), (57, .agg (nArr (dg (Sa)))), (12, .int .i64 ((Bool.toNat bt : Nat) : Int)), (56, .int .i64 ((Bool.toNat bt : Nat) : Int)), (49, .bool false), (48, .int .i64 ((Bool.toNat l : Nat) : Int)), (47, .int .i64 ((Bool.toNat bt : Nat) : Int)), (14, .int .i64 ((Bool.toNat bt : Nat) : Int)), (13, .int .i64 ((m : Nat) : Int)), (4, .pointer (some ⟨aq3, 0, none⟩)), (5, .pointer (some ⟨aq4, 0, none⟩)), (6, .pointer (some ⟨aq5, 0, none⟩)), (8, .pointer (some ⟨aq6, 0, none⟩)), (9, .pointer (some ⟨aq7, 0, none⟩)), (10, .pointer (some ⟨aq8, 0, none⟩)), (11, .pointer (some ⟨aq9, 0, none⟩))] a := F.weak _ (⟨rfl, ⟨rfl, ⟨rfl, ⟨rfl, ⟨rfl, ⟨rfl, ⟨rfl, ⟨rfl, ⟨rfl, ⟨rfl, ⟨rfl, ⟨rfl, ⟨rfl, ⟨rfl, ⟨rfl, ⟨rfl, ⟨rfl, ⟨rfl, ⟨rfl, ⟨rfl, ⟨rfl, ⟨rfl, ⟨rfl, ⟨rfl, ⟨rfl, ⟨rfl, ⟨rfl, ⟨rfl, ⟨rfl, ⟨rfl, ⟨rfl, ⟨rfl, ⟨rfl, ⟨rfl, ⟨rfl, ⟨rfl, ⟨rfl, ⟨rfl, ⟨rfl, ⟨rfl, ⟨rfl, ⟨rfl, ⟨rfl, ⟨rfl, ⟨rfl, ⟨rfl, ⟨rfl, ⟨rfl, ⟨rfl, ⟨rfl, ⟨rfl, ⟨rfl, ⟨rfl, trivial⟩⟩⟩⟩⟩⟩⟩⟩⟩⟩⟩⟩⟩⟩⟩⟩⟩⟩⟩⟩⟩⟩⟩⟩⟩⟩⟩⟩⟩⟩⟩⟩⟩⟩⟩⟩⟩⟩⟩⟩⟩⟩⟩⟩⟩⟩⟩⟩⟩⟩⟩⟩⟩)
      refine hK _ _ ?_
      clear hK K
      refine C_seqK (fun K hK => ?_)
      refine D_region F H (fun β => [(89, .agg (nArr (dg (nu)))), (90, .agg (nArr (dg (n7)))), (91, .agg (nArr (dg (n9)))), (92, .agg (nArr (dg (n12)))), (93, .agg (nArr (dg (n7)))), (94, .agg (nArr (dg (n9)))), (95, .agg (nArr (dg (n12)))), (96, .agg (nArr (dg (n13)))), (97, .agg (nArr (dg (n14))))]) [89, 90, 91, 92, 93, 94, 95, 96, 97] [] [⟨aq9, 9, .cells (nArr (dg (St))) 27 (0, 0), .cells (nArr (dg (n14))) 27 (0, 0)⟩] [⟨true, aq8, .cells (nArr (dg (n11))) 27 (0, 0)⟩, ⟨true, aq16, .cells (nArr (dg (n9))) 27 (0, 0)⟩, ⟨true, aq15, .cells (nArr (dg (n7))) 27 (0, 0)⟩, ⟨true, aq14, .cells (nArr (dg (n5))) 27 (0, 0)⟩, ⟨true, aq13, .cells (nArr (dg (n4))) 27 (0, 0)⟩, ⟨true, aq12, .cells (nArr (dg (n3))) 27 (0, 0)⟩, ⟨true, aq11, .cells (nArr (dg (n2))) 27 (0, 0)⟩, ⟨true, aq10, .cells (nArr (dg (n1))) 27 (0, 0)⟩, ⟨true, aq6, .cells (nArr (dg (Sa))) 27 (0, 0)⟩, ⟨true, aq7, .cells (nArr (dg (Sb))) 27 (0, 0)⟩, ⟨true, aq5, .cells (nArr (dg (nu))) 27 (0, 0)⟩, ⟨true, aq4, .cells (kArr c) 23 (0, 0)⟩, ⟨true, aq3, .cells z32 23 (0, 0)⟩] [10, 0, 1, 2, 3, 4, 5, 6, 7, 8, 9, 11, 12, 13] (by as_aux_lemma => kernel_rfl) (by as_aux_lemma => kernel_rfl) (by as_aux_lemma => kernel_rfl) (fun β => rfl) (fun fit => ⟨?_, ?_, ?_, ?_, ?_, ?_, ?_, ?_, ?_, ?_, trivial⟩) ?_
      · exact D_val 117 (fun β => by as_aux_lemma => kernel_rfl) (fun β => .agg (nArr (dg (nu)))) 89 rfl (fun β => by as_aux_lemma => kernel_rfl) (fun β => R_load (own := true) (g := aq5) (all := (nArr (dg (nu)))) (t := 27) (fr := (0, 0)) 10 (by as_aux_lemma => kernel_rfl) 27 (.tmp 6) rfl 0 (by as_aux_lemma => kernel_rfl) (nArr (dg (nu))) (part_all _) _ Tryd.underlying27 rfl (by as_aux_lemma => kernel_rfl)) (by as_aux_lemma => kernel_rfl)
      · exact D_val 117 (fun β => by as_aux_lemma => kernel_rfl) (fun β => .agg (nArr (dg (n7)))) 90 rfl (fun β => by as_aux_lemma => kernel_rfl) (fun β => R_load (own := true) (g := aq15) (all := (nArr (dg (n7)))) (t := 27) (fr := (0, 0)) 2 (by as_aux_lemma => kernel_rfl) 27 (.tmp 21) rfl 0 (by as_aux_lemma => kernel_rfl) (nArr (dg (n7))) (part_all _) _ Tryd.underlying27 rfl (by as_aux_lemma => kernel_rfl)) (by as_aux_lemma => kernel_rfl)
      · exact D_val 117 (fun β => by as_aux_lemma => kernel_rfl) (fun β => .agg (nArr (dg (n9)))) 91 rfl (fun β => by as_aux_lemma => kernel_rfl) (fun β => R_load (own := true) (g := aq16) (all := (nArr (dg (n9)))) (t := 27) (fr := (0, 0)) 1 (by as_aux_lemma => kernel_rfl) 27 (.tmp 22) rfl 0 (by as_aux_lemma => kernel_rfl) (nArr (dg (n9))) (part_all _) _ Tryd.underlying27 rfl (by as_aux_lemma => kernel_rfl)) (by as_aux_lemma => kernel_rfl)
      · exact D_call 117 (fun β => by as_aux_lemma => kernel_rfl) (fun β => .agg (nArr (dg (n12)))) 92 rfl (fun β => by as_aux_lemma => kernel_rfl) 36 (fun β => #[.agg (nArr (dg (n7))), .agg (nArr (dg (n9)))]) (fun β w => by as_aux_lemma => kernel_rfl) (fun β w hk => Calls.kept (d12 _)) (by as_aux_lemma => kernel_rfl)
      · exact D_val 117 (fun β => by as_aux_lemma => kernel_rfl) (fun β => .agg (nArr (dg (n7)))) 93 rfl (fun β => by as_aux_lemma => kernel_rfl) (fun β => R_load (own := true) (g := aq15) (all := (nArr (dg (n7)))) (t := 27) (fr := (0, 0)) 2 (by as_aux_lemma => kernel_rfl) 27 (.tmp 21) rfl 0 (by as_aux_lemma => kernel_rfl) (nArr (dg (n7))) (part_all _) _ Tryd.underlying27 rfl (by as_aux_lemma => kernel_rfl)) (by as_aux_lemma => kernel_rfl)
      · exact D_val 117 (fun β => by as_aux_lemma => kernel_rfl) (fun β => .agg (nArr (dg (n9)))) 94 rfl (fun β => by as_aux_lemma => kernel_rfl) (fun β => R_load (own := true) (g := aq16) (all := (nArr (dg (n9)))) (t := 27) (fr := (0, 0)) 1 (by as_aux_lemma => kernel_rfl) 27 (.tmp 22) rfl 0 (by as_aux_lemma => kernel_rfl) (nArr (dg (n9))) (part_all _) _ Tryd.underlying27 rfl (by as_aux_lemma => kernel_rfl)) (by as_aux_lemma => kernel_rfl)
      · exact D_call 117 (fun β => by as_aux_lemma => kernel_rfl) (fun β => .agg (nArr (dg (n12)))) 95 rfl (fun β => by as_aux_lemma => kernel_rfl) 36 (fun β => #[.agg (nArr (dg (n7))), .agg (nArr (dg (n9)))]) (fun β w => by as_aux_lemma => kernel_rfl) (fun β w hk => Calls.kept (d12 _)) (by as_aux_lemma => kernel_rfl)
      · exact D_call 117 (fun β => by as_aux_lemma => kernel_rfl) (fun β => .agg (nArr (dg (n13)))) 96 rfl (fun β => by as_aux_lemma => kernel_rfl) 35 (fun β => #[.agg (nArr (dg (n12))), .agg (nArr (dg (n12)))]) (fun β w => by as_aux_lemma => kernel_rfl) (fun β w hk => Calls.kept (d13 _)) (by as_aux_lemma => kernel_rfl)
      · exact D_call 117 (fun β => by as_aux_lemma => kernel_rfl) (fun β => .agg (nArr (dg (n14)))) 97 rfl (fun β => by as_aux_lemma => kernel_rfl) 35 (fun β => #[.agg (nArr (dg (nu))), .agg (nArr (dg (n13)))]) (fun β w => by as_aux_lemma => kernel_rfl) (fun β w hk => Calls.kept (d14 _)) (by as_aux_lemma => kernel_rfl)
      · exact D_putF fit ⟨aq9, 9, .cells (nArr (dg (St))) 27 (0, 0), .cells (nArr (dg (n14))) 27 (0, 0)⟩ (List.mem_of_getElem? (i := 0) rfl) rfl 117 (fun β => by as_aux_lemma => kernel_rfl) rfl (fun β w _ hg => P_row rfl rfl (ty := 27) (x := (.tmp 11)) (y := (.tmp 97)) rfl (by as_aux_lemma => kernel_rfl) (by as_aux_lemma => kernel_rfl) (by as_aux_lemma => kernel_rfl) (by as_aux_lemma => kernel_rfl) (by as_aux_lemma => kernel_rfl) hg) (by as_aux_lemma => kernel_rfl)
      clear F H; intro β a v F H
      replace H : Hp [] w [⟨true, aq9, .cells (nArr (dg (n14))) 27 (0, 0)⟩, ⟨true, aq8, .cells (nArr (dg (n11))) 27 (0, 0)⟩, ⟨true, aq16, .cells (nArr (dg (n9))) 27 (0, 0)⟩, ⟨true, aq15, .cells (nArr (dg (n7))) 27 (0, 0)⟩, ⟨true, aq14, .cells (nArr (dg (n5))) 27 (0, 0)⟩, ⟨true, aq13, .cells (nArr (dg (n4))) 27 (0, 0)⟩, ⟨true, aq12, .cells (nArr (dg (n3))) 27 (0, 0)⟩, ⟨true, aq11, .cells (nArr (dg (n2))) 27 (0, 0)⟩, ⟨true, aq10, .cells (nArr (dg (n1))) 27 (0, 0)⟩, ⟨true, aq6, .cells (nArr (dg (Sa))) 27 (0, 0)⟩, ⟨true, aq7, .cells (nArr (dg (Sb))) 27 (0, 0)⟩, ⟨true, aq5, .cells (nArr (dg (nu))) 27 (0, 0)⟩, ⟨true, aq4, .cells (kArr c) 23 (0, 0)⟩, ⟨true, aq3, .cells z32 23 (0, 0)⟩] v := H
      replace F : Fm 117 [] [(97, .agg (nArr (dg (n14)))), (96, .agg (nArr (dg (n13)))), (95, .agg (nArr (dg (n12)))), (94, .agg (nArr (dg (n9)))), (93, .agg (nArr (dg (n7)))), (92, .agg (nArr (dg (n12)))), (91, .agg (nArr (dg (n9)))), (90, .agg (nArr (dg (n7)))), (89, .agg (nArr (dg (nu)))), (88, .agg (nArr (dg (n11)))), (87, .agg (nArr (dg (n10)))), (86, .agg (nArr (dg (n9)))), (85, .agg (nArr (dg (n7)))), (84, .agg (nArr (dg (n10)))), (83, .agg (nArr (dg (n9)))), (82, .agg (nArr (dg (n7)))), (22, .pointer (some ⟨aq16, 0, none⟩)), (81, .agg (nArr (dg (n9)))), (80, .agg (nArr (dg (n2)))), (79, .agg (nArr (dg (n8)))), (78, .agg (nArr (dg (St)))), (77, .agg (nArr (dg (Ss)))), (21, .pointer (some ⟨aq15, 0, none⟩)), (76, .agg (nArr (dg (n7)))), (75, .agg (nArr (dg (n1)))), (74, .agg (nArr (dg (n6)))), (73, .agg (nArr (dg (St)))), (72, .agg (nArr (dg (Ss)))), (20, .pointer (some ⟨aq14, 0, none⟩)), (71, .agg (nArr (dg (n5)))), (70, .agg (nArr (dg (n4)))), (69, .agg (nArr (dg (n3)))), (19, .pointer (some ⟨aq13, 0, none⟩)), (68, .agg (nArr (dg (n4)))), (67, .agg (nArr (dg (n2)))), (66, .agg (nArr (dg (n2)))), (18, .pointer (some ⟨aq12, 0, none⟩)), (65, .agg (nArr (dg (n3)))), (64, .agg (nArr (dg (n1)))), (63, .agg (nArr (dg (n1)))), (17, .pointer (some ⟨aq11, 0, none⟩)), (62, .agg (nArr (dg (n2)))), (61, .agg (nArr (dg (Sb)))), (60, .agg (nArr (dg (Sa)))), (16, .pointer (some ⟨aq10, 0, none⟩)), (59, .agg (nArr (dg (n1)))), (58, .agg (nArr (dg (Sb)))), (57, .agg (nArr (dg (Sa)))), (12, .int .i64 ((Bool.toNat bt : Nat) : Int)), (56, .int .i64 ((Bool.toNat bt : Nat) : Int)), (49, .bool false), (48, .int .i64 ((Bool.toNat l : Nat) : Int)), (47, .int .i64 ((Bool.toNat bt : Nat) : Int)), (14, .int .i64 ((Bool.toNat bt : Nat) : Int)), (13, .int .i64 ((m : Nat) : Int)), (4, .pointer (some ⟨aq3, 0, none⟩)), (5, .pointer (some ⟨aq4, 0, none⟩)), (6, .pointer (some ⟨aq5, 0, none⟩)), (8, .pointer (some ⟨aq6, 0, none⟩)), (9, .pointer (some ⟨aq7, 0, none⟩)), (10, .pointer (some ⟨aq8, 0, none⟩)), (11, .pointer (some ⟨aq9, 0, none⟩))] a := F.weak _ (⟨rfl, ⟨rfl, ⟨rfl, ⟨rfl, ⟨rfl, ⟨rfl, ⟨rfl, ⟨rfl, ⟨rfl, ⟨rfl, ⟨rfl, ⟨rfl, ⟨rfl, ⟨rfl, ⟨rfl, ⟨rfl, ⟨rfl, ⟨rfl, ⟨rfl, ⟨rfl, ⟨rfl, ⟨rfl, ⟨rfl, ⟨rfl, ⟨rfl, ⟨rfl, ⟨rfl, ⟨rfl, ⟨rfl, ⟨rfl, ⟨rfl, ⟨rfl, ⟨rfl, ⟨rfl, ⟨rfl, ⟨rfl, ⟨rfl, ⟨rfl, ⟨rfl, ⟨rfl, ⟨rfl, ⟨rfl, ⟨rfl, ⟨rfl, ⟨rfl, ⟨rfl, ⟨rfl, ⟨rfl, ⟨rfl, ⟨rfl, ⟨rfl, ⟨rfl, ⟨rfl, ⟨rfl, ⟨rfl, ⟨rfl, ⟨rfl, ⟨rfl, ⟨rfl, ⟨rfl, ⟨rfl, ⟨rfl, trivial⟩⟩⟩⟩⟩⟩⟩⟩⟩⟩⟩⟩⟩⟩⟩⟩⟩⟩⟩⟩⟩⟩⟩⟩⟩⟩⟩⟩⟩⟩⟩⟩⟩⟩⟩⟩⟩⟩⟩⟩⟩⟩⟩⟩⟩⟩⟩⟩⟩⟩⟩⟩⟩⟩⟩⟩⟩⟩⟩⟩⟩⟩)
      refine hK _ _ ?_
      clear hK K
      refine C_seqK (fun K hK => ?_)
      refine C_region ?_
      refine T_val F H (by as_aux_lemma => kernel_rfl) (.agg (nArr (dg (n3)))) (R_load (own := true) (g := aq12) (all := (nArr (dg (n3)))) (t := 27) (fr := (0, 0)) 6 (by as_aux_lemma => kernel_rfl) 27 (.tmp 18) rfl 0 (by as_aux_lemma => kernel_rfl) (nArr (dg (n3))) (part_all _) _ Tryd.underlying27 rfl (by as_aux_lemma => kernel_rfl)) ?_
      clear F; intro a F
      refine T_val F H (by as_aux_lemma => kernel_rfl) (.agg (nArr (dg (n4)))) (R_load (own := true) (g := aq13) (all := (nArr (dg (n4)))) (t := 27) (fr := (0, 0)) 5 (by as_aux_lemma => kernel_rfl) 27 (.tmp 19) rfl 0 (by as_aux_lemma => kernel_rfl) (nArr (dg (n4))) (part_all _) _ Tryd.underlying27 rfl (by as_aux_lemma => kernel_rfl)) ?_
      clear F; intro a F
      refine T_call F H (by as_aux_lemma => kernel_rfl) 35 #[.agg (nArr (dg (n3))), .agg (nArr (dg (n4)))] (.agg (nArr (dg (n15)))) (fun w => by as_aux_lemma => kernel_rfl) (Calls.kept (d15 _)) ?_
      clear F H; intro a v F H
      refine T_set F H (by as_aux_lemma => kernel_rfl) rfl 9 rfl (nArr (dg (n15))) (S_row 9 rfl 27 (.tmp 8) (.tmp 100) rfl (by as_aux_lemma => kernel_rfl) (nArr (dg (n15))) (by as_aux_lemma => kernel_rfl) (by as_aux_lemma => kernel_rfl) (by as_aux_lemma => kernel_rfl) (by as_aux_lemma => kernel_rfl)) [⟨true, aq9, .cells (nArr (dg (n14))) 27 (0, 0)⟩, ⟨true, aq8, .cells (nArr (dg (n11))) 27 (0, 0)⟩, ⟨true, aq16, .cells (nArr (dg (n9))) 27 (0, 0)⟩, ⟨true, aq15, .cells (nArr (dg (n7))) 27 (0, 0)⟩, ⟨true, aq14, .cells (nArr (dg (n5))) 27 (0, 0)⟩, ⟨true, aq13, .cells (nArr (dg (n4))) 27 (0, 0)⟩, ⟨true, aq12, .cells (nArr (dg (n3))) 27 (0, 0)⟩, ⟨true, aq11, .cells (nArr (dg (n2))) 27 (0, 0)⟩, ⟨true, aq10, .cells (nArr (dg (n1))) 27 (0, 0)⟩, ⟨true, aq6, .cells (nArr (dg (n15))) 27 (0, 0)⟩, ⟨true, aq7, .cells (nArr (dg (Sb))) 27 (0, 0)⟩, ⟨true, aq5, .cells (nArr (dg (nu))) 27 (0, 0)⟩, ⟨true, aq4, .cells (kArr c) 23 (0, 0)⟩, ⟨true, aq3, .cells z32 23 (0, 0)⟩] rfl ?_
      clear F H; intro a v F H
      refine T_end (hK _ _ ?_)
      clear hK K
      refine D_region F H (fun β => [(101, .agg (nArr (dg (n5)))), (102, .agg (nArr (dg (n3)))), (103, .agg (nArr (dg (121665)))), (104, .agg (nArr (dg (n5)))), (105, .agg (nArr (dg (n16)))), (106, .agg (nArr (dg (n17)))), (107, .agg (nArr (dg (n18))))]) [101, 102, 103, 104, 105, 106, 107] [] [⟨aq7, 7, .cells (nArr (dg (Sb))) 27 (0, 0), .cells (nArr (dg (n18))) 27 (0, 0)⟩] [⟨true, aq9, .cells (nArr (dg (n14))) 27 (0, 0)⟩, ⟨true, aq8, .cells (nArr (dg (n11))) 27 (0, 0)⟩, ⟨true, aq16, .cells (nArr (dg (n9))) 27 (0, 0)⟩, ⟨true, aq15, .cells (nArr (dg (n7))) 27 (0, 0)⟩, ⟨true, aq14, .cells (nArr (dg (n5))) 27 (0, 0)⟩, ⟨true, aq13, .cells (nArr (dg (n4))) 27 (0, 0)⟩, ⟨true, aq12, .cells (nArr (dg (n3))) 27 (0, 0)⟩, ⟨true, aq11, .cells (nArr (dg (n2))) 27 (0, 0)⟩, ⟨true, aq10, .cells (nArr (dg (n1))) 27 (0, 0)⟩, ⟨true, aq6, .cells (nArr (dg (n15))) 27 (0, 0)⟩, ⟨true, aq5, .cells (nArr (dg (nu))) 27 (0, 0)⟩, ⟨true, aq4, .cells (kArr c) 23 (0, 0)⟩, ⟨true, aq3, .cells z32 23 (0, 0)⟩] [10, 0, 1, 2, 3, 4, 5, 6, 7, 8, 9, 11, 12, 13] (by as_aux_lemma => kernel_rfl) (by as_aux_lemma => kernel_rfl) (by as_aux_lemma => kernel_rfl) (fun β => rfl) (fun fit => ⟨?_, ?_, ?_, ?_, ?_, ?_, ?_, ?_, trivial⟩) ?_
      · exact D_val 117 (fun β => by as_aux_lemma => kernel_rfl) (fun β => .agg (nArr (dg (n5)))) 101 rfl (fun β => by as_aux_lemma => kernel_rfl) (fun β => R_load (own := true) (g := aq14) (all := (nArr (dg (n5)))) (t := 27) (fr := (0, 0)) 4 (by as_aux_lemma => kernel_rfl) 27 (.tmp 20) rfl 0 (by as_aux_lemma => kernel_rfl) (nArr (dg (n5))) (part_all _) _ Tryd.underlying27 rfl (by as_aux_lemma => kernel_rfl)) (by as_aux_lemma => kernel_rfl)
      · exact D_val 117 (fun β => by as_aux_lemma => kernel_rfl) (fun β => .agg (nArr (dg (n3)))) 102 rfl (fun β => by as_aux_lemma => kernel_rfl) (fun β => R_load (own := true) (g := aq12) (all := (nArr (dg (n3)))) (t := 27) (fr := (0, 0)) 6 (by as_aux_lemma => kernel_rfl) 27 (.tmp 18) rfl 0 (by as_aux_lemma => kernel_rfl) (nArr (dg (n3))) (part_all _) _ Tryd.underlying27 rfl (by as_aux_lemma => kernel_rfl)) (by as_aux_lemma => kernel_rfl)
      · exact D_call 117 (fun β => by as_aux_lemma => kernel_rfl) (fun β => .agg (nArr (dg (121665)))) 103 rfl (fun β => by as_aux_lemma => kernel_rfl) 31 (fun β => #[.int .u64 121665]) (fun β w => by as_aux_lemma => kernel_rfl) (fun β w hk => Calls.kept (sk _)) (by as_aux_lemma => kernel_rfl)
      · exact D_val 117 (fun β => by as_aux_lemma => kernel_rfl) (fun β => .agg (nArr (dg (n5)))) 104 rfl (fun β => by as_aux_lemma => kernel_rfl) (fun β => R_load (own := true) (g := aq14) (all := (nArr (dg (n5)))) (t := 27) (fr := (0, 0)) 4 (by as_aux_lemma => kernel_rfl) 27 (.tmp 20) rfl 0 (by as_aux_lemma => kernel_rfl) (nArr (dg (n5))) (part_all _) _ Tryd.underlying27 rfl (by as_aux_lemma => kernel_rfl)) (by as_aux_lemma => kernel_rfl)
      · exact D_call 117 (fun β => by as_aux_lemma => kernel_rfl) (fun β => .agg (nArr (dg (n16)))) 105 rfl (fun β => by as_aux_lemma => kernel_rfl) 35 (fun β => #[.agg (nArr (dg (121665))), .agg (nArr (dg (n5)))]) (fun β w => by as_aux_lemma => kernel_rfl) (fun β w hk => Calls.kept (d16 _)) (by as_aux_lemma => kernel_rfl)
      · exact D_call 117 (fun β => by as_aux_lemma => kernel_rfl) (fun β => .agg (nArr (dg (n17)))) 106 rfl (fun β => by as_aux_lemma => kernel_rfl) 34 (fun β => #[.agg (nArr (dg (n3))), .agg (nArr (dg (n16)))]) (fun β w => by as_aux_lemma => kernel_rfl) (fun β w hk => Calls.kept (d17 _)) (by as_aux_lemma => kernel_rfl)
      · exact D_call 117 (fun β => by as_aux_lemma => kernel_rfl) (fun β => .agg (nArr (dg (n18)))) 107 rfl (fun β => by as_aux_lemma => kernel_rfl) 35 (fun β => #[.agg (nArr (dg (n5))), .agg (nArr (dg (n17)))]) (fun β w => by as_aux_lemma => kernel_rfl) (fun β w hk => Calls.kept (d18 _)) (by as_aux_lemma => kernel_rfl)
      · exact D_putF fit ⟨aq7, 7, .cells (nArr (dg (Sb))) 27 (0, 0), .cells (nArr (dg (n18))) 27 (0, 0)⟩ (List.mem_of_getElem? (i := 0) rfl) rfl 117 (fun β => by as_aux_lemma => kernel_rfl) rfl (fun β w _ hg => P_row rfl rfl (ty := 27) (x := (.tmp 9)) (y := (.tmp 107)) rfl (by as_aux_lemma => kernel_rfl) (by as_aux_lemma => kernel_rfl) (by as_aux_lemma => kernel_rfl) (by as_aux_lemma => kernel_rfl) (by as_aux_lemma => kernel_rfl) hg) (by as_aux_lemma => kernel_rfl)
      clear F H; intro β a v F H
      replace H : Hp [] w [⟨true, aq7, .cells (nArr (dg (n18))) 27 (0, 0)⟩, ⟨true, aq9, .cells (nArr (dg (n14))) 27 (0, 0)⟩, ⟨true, aq8, .cells (nArr (dg (n11))) 27 (0, 0)⟩, ⟨true, aq16, .cells (nArr (dg (n9))) 27 (0, 0)⟩, ⟨true, aq15, .cells (nArr (dg (n7))) 27 (0, 0)⟩, ⟨true, aq14, .cells (nArr (dg (n5))) 27 (0, 0)⟩, ⟨true, aq13, .cells (nArr (dg (n4))) 27 (0, 0)⟩, ⟨true, aq12, .cells (nArr (dg (n3))) 27 (0, 0)⟩, ⟨true, aq11, .cells (nArr (dg (n2))) 27 (0, 0)⟩, ⟨true, aq10, .cells (nArr (dg (n1))) 27 (0, 0)⟩, ⟨true, aq6, .cells (nArr (dg (n15))) 27 (0, 0)⟩, ⟨true, aq5, .cells (nArr (dg (nu))) 27 (0, 0)⟩, ⟨true, aq4, .cells (kArr c) 23 (0, 0)⟩, ⟨true, aq3, .cells z32 23 (0, 0)⟩] v := H
      replace F : Fm 117 [] [(107, .agg (nArr (dg (n18)))), (106, .agg (nArr (dg (n17)))), (105, .agg (nArr (dg (n16)))), (104, .agg (nArr (dg (n5)))), (103, .agg (nArr (dg (121665)))), (102, .agg (nArr (dg (n3)))), (101, .agg (nArr (dg (n5)))), (100, .agg (nArr (dg (n15)))), (99, .agg (nArr (dg (n4)))), (98, .agg (nArr (dg (n3)))), (97, .agg (nArr (dg (n14)))), (96, .agg (nArr (dg (n13)))), (95, .agg (nArr (dg (n12)))), (94, .agg (nArr (dg (n9)))), (93, .agg (nArr (dg (n7)))), (92, .agg (nArr (dg (n12)))), (91, .agg (nArr (dg (n9)))), (90, .agg (nArr (dg (n7)))), (89, .agg (nArr (dg (nu)))), (88, .agg (nArr (dg (n11)))), (87, .agg (nArr (dg (n10)))), (86, .agg (nArr (dg (n9)))), (85, .agg (nArr (dg (n7)))), (84, .agg (nArr (dg (n10)))), (83, .agg (nArr (dg (n9)))), (82, .agg (nArr (dg (n7)))), (22, .pointer (some ⟨aq16, 0, none⟩)), (81, .agg (nArr (dg (n9)))), (80, .agg (nArr (dg (n2)))), (79, .agg (nArr (dg (n8)))), (78, .agg (nArr (dg (St)))), (77, .agg (nArr (dg (Ss)))), (21, .pointer (some ⟨aq15, 0, none⟩)), (76, .agg (nArr (dg (n7)))), (75, .agg (nArr (dg (n1)))), (74, .agg (nArr (dg (n6)))), (73, .agg (nArr (dg (St)))), (72, .agg (nArr (dg (Ss)))), (20, .pointer (some ⟨aq14, 0, none⟩)), (71, .agg (nArr (dg (n5)))), (70, .agg (nArr (dg (n4)))), (69, .agg (nArr (dg (n3)))), (19, .pointer (some ⟨aq13, 0, none⟩)), (68, .agg (nArr (dg (n4)))), (67, .agg (nArr (dg (n2)))), (66, .agg (nArr (dg (n2)))), (18, .pointer (some ⟨aq12, 0, none⟩)), (65, .agg (nArr (dg (n3)))), (64, .agg (nArr (dg (n1)))), (63, .agg (nArr (dg (n1)))), (17, .pointer (some ⟨aq11, 0, none⟩)), (62, .agg (nArr (dg (n2)))), (61, .agg (nArr (dg (Sb)))), (60, .agg (nArr (dg (Sa)))), (16, .pointer (some ⟨aq10, 0, none⟩)), (59, .agg (nArr (dg (n1)))), (58, .agg (nArr (dg (Sb)))), (57, .agg (nArr (dg (Sa)))), (12, .int .i64 ((Bool.toNat bt : Nat) : Int)), (56, .int .i64 ((Bool.toNat bt : Nat) : Int)), (49, .bool false), (48, .int .i64 ((Bool.toNat l : Nat) : Int)), (47, .int .i64 ((Bool.toNat bt : Nat) : Int)), (14, .int .i64 ((Bool.toNat bt : Nat) : Int)), (13, .int .i64 ((m : Nat) : Int)), (4, .pointer (some ⟨aq3, 0, none⟩)), (5, .pointer (some ⟨aq4, 0, none⟩)), (6, .pointer (some ⟨aq5, 0, none⟩)), (8, .pointer (some ⟨aq6, 0, none⟩)), (9, .pointer (some ⟨aq7, 0, none⟩)), (10, .pointer (some ⟨aq8, 0, none⟩)), (11, .pointer (some ⟨aq9, 0, none⟩))] a := F.weak _ (⟨rfl, ⟨rfl, ⟨rfl, ⟨rfl, ⟨rfl, ⟨rfl, ⟨rfl, ⟨rfl, ⟨rfl, ⟨rfl, ⟨rfl, ⟨rfl, ⟨rfl, ⟨rfl, ⟨rfl, ⟨rfl, ⟨rfl, ⟨rfl, ⟨rfl, ⟨rfl, ⟨rfl, ⟨rfl, ⟨rfl, ⟨rfl, ⟨rfl, ⟨rfl, ⟨rfl, ⟨rfl, ⟨rfl, ⟨rfl, ⟨rfl, ⟨rfl, ⟨rfl, ⟨rfl, ⟨rfl, ⟨rfl, ⟨rfl, ⟨rfl, ⟨rfl, ⟨rfl, ⟨rfl, ⟨rfl, ⟨rfl, ⟨rfl, ⟨rfl, ⟨rfl, ⟨rfl, ⟨rfl, ⟨rfl, ⟨rfl, ⟨rfl, ⟨rfl, ⟨rfl, ⟨rfl, ⟨rfl, ⟨rfl, ⟨rfl, ⟨rfl, ⟨rfl, ⟨rfl, ⟨rfl, ⟨rfl, ⟨rfl, ⟨rfl, ⟨rfl, ⟨rfl, ⟨rfl, ⟨rfl, ⟨rfl, ⟨rfl, ⟨rfl, ⟨rfl, trivial⟩⟩⟩⟩⟩⟩⟩⟩⟩⟩⟩⟩⟩⟩⟩⟩⟩⟩⟩⟩⟩⟩⟩⟩⟩⟩⟩⟩⟩⟩⟩⟩⟩⟩⟩⟩⟩⟩⟩⟩⟩⟩⟩⟩⟩⟩⟩⟩⟩⟩⟩⟩⟩⟩⟩⟩⟩⟩⟩⟩⟩⟩⟩⟩⟩⟩⟩⟩⟩⟩⟩⟩)
      refine ?_
      refine hK2 _ _ ?_
      clear hK2 K2
      replace F : Fm 117 [] [(12, .int .i64 ((Bool.toNat bt : Nat) : Int)), (13, .int .i64 ((m : Nat) : Int)), (4, .pointer (some ⟨aq3, 0, none⟩)), (5, .pointer (some ⟨aq4, 0, none⟩)), (6, .pointer (some ⟨aq5, 0, none⟩)), (8, .pointer (some ⟨aq6, 0, none⟩)), (9, .pointer (some ⟨aq7, 0, none⟩)), (10, .pointer (some ⟨aq8, 0, none⟩)), (11, .pointer (some ⟨aq9, 0, none⟩))] a := F.weak _ (⟨rfl, ⟨rfl, ⟨rfl, ⟨rfl, ⟨rfl, ⟨rfl, ⟨rfl, ⟨rfl, ⟨rfl, trivial⟩⟩⟩⟩⟩⟩⟩⟩⟩)
      refine C_region ?_
      refine T_val F H (by as_aux_lemma => kernel_rfl) (.int .i64 ((m : Nat) : Int)) (fun _ _ => by as_aux_lemma => kernel_rfl) ?_
      clear F; intro a F
      refine T_val F H (by as_aux_lemma => kernel_rfl) (.int .i64 (cntI m)) (fun w _ => R_bin (x := (.tmp 36)) (y := (.const (.int .i64 1))) rfl (k := .i64) (a := ((m : Nat) : Int)) (b := 1) (by as_aux_lemma => kernel_rfl) (by as_aux_lemma => kernel_rfl) (i_cnt m (by omega)) w) ?_
      clear F; intro a F
      refine T_val F H (by as_aux_lemma => kernel_rfl) (.int .i64 (cntI m)) (fun _ _ => by as_aux_lemma => kernel_rfl) ?_
      clear F; intro a F
      refine wpList_nil ?_
      replace F : Fm 117 [] [(13, .int .i64 (cntI m)), (12, .int .i64 ((Bool.toNat bt : Nat) : Int)), (4, .pointer (some ⟨aq3, 0, none⟩)), (5, .pointer (some ⟨aq4, 0, none⟩)), (6, .pointer (some ⟨aq5, 0, none⟩)), (8, .pointer (some ⟨aq6, 0, none⟩)), (9, .pointer (some ⟨aq7, 0, none⟩)), (10, .pointer (some ⟨aq8, 0, none⟩)), (11, .pointer (some ⟨aq9, 0, none⟩))] a := F.weak _ (⟨rfl, ⟨rfl, ⟨rfl, ⟨rfl, ⟨rfl, ⟨rfl, ⟨rfl, ⟨rfl, ⟨rfl, trivial⟩⟩⟩⟩⟩⟩⟩⟩⟩)
      replace H : Hp [] w [⟨true, aq6, .cells (nArr (dg (n15))) 27 (0, 0)⟩, ⟨true, aq7, .cells (nArr (dg (n18))) 27 (0, 0)⟩, ⟨true, aq8, .cells (nArr (dg (n11))) 27 (0, 0)⟩, ⟨true, aq9, .cells (nArr (dg (n14))) 27 (0, 0)⟩, ⟨true, aq5, .cells (nArr (dg (nu))) 27 (0, 0)⟩, ⟨true, aq4, .cells (kArr c) 23 (0, 0)⟩, ⟨true, aq3, .cells z32 23 (0, 0)⟩] v := H.pick [10, 0, 2, 1, 11, 12, 13] (by as_aux_lemma => kernel_rfl) _ rfl
      exact ⟨m, Nat.lt_succ_self m, by omega, by rw [hst]; exact F, by rw [hst]; exact H⟩
    · replace F : Fm 117 [] [(14, .int .i64 ((Bool.toNat bt : Nat) : Int)), (13, .int .i64 ((m : Nat) : Int)), (12, .int .i64 ((Bool.toNat l : Nat) : Int)), (4, .pointer (some ⟨aq3, 0, none⟩)), (5, .pointer (some ⟨aq4, 0, none⟩)), (6, .pointer (some ⟨aq5, 0, none⟩)), (8, .pointer (some ⟨aq6, 0, none⟩)), (9, .pointer (some ⟨aq7, 0, none⟩)), (10, .pointer (some ⟨aq8, 0, none⟩)), (11, .pointer (some ⟨aq9, 0, none⟩))] a := F
      replace H : Hp [] w [⟨true, aq6, .cells (nArr (dg (Sa))) 27 (0, 0)⟩, ⟨true, aq7, .cells (nArr (dg (Sb))) 27 (0, 0)⟩, ⟨true, aq8, .cells (nArr (dg (Ss))) 27 (0, 0)⟩, ⟨true, aq9, .cells (nArr (dg (St))) 27 (0, 0)⟩, ⟨true, aq5, .cells (nArr (dg (nu))) 27 (0, 0)⟩, ⟨true, aq4, .cells (kArr c) 23 (0, 0)⟩, ⟨true, aq3, .cells z32 23 (0, 0)⟩] v := H
      have d1 := fun w => radd_any Ss St hs ht w
      have l1 : (Ss + St) % pr < pr := Nat.mod_lt _ pr_pos
      have d2 := fun w => rsub_any Ss St hs ht w
      have l2 : subP Ss St < pr := Nat.mod_lt _ pr_pos
      have d3 := fun w => rmul_any _ _ l1 l1 w
      have l3 : (Ss + St) % pr * ((Ss + St) % pr) % pr < pr := Nat.mod_lt _ pr_pos
      have d4 := fun w => rmul_any _ _ l2 l2 w
      have l4 : subP Ss St * subP Ss St % pr < pr := Nat.mod_lt _ pr_pos
      have d5 := fun w => rsub_any _ _ l3 l4 w
      have l5 : subP ((Ss + St) % pr * ((Ss + St) % pr) % pr) (subP Ss St * subP Ss St % pr) < pr := Nat.mod_lt _ pr_pos
      have d6 := fun w => rsub_any Sa Sb ha hb w
      have l6 : subP Sa Sb < pr := Nat.mod_lt _ pr_pos
      have d7 := fun w => rmul_any _ _ l6 l1 w
      have l7 : subP Sa Sb * ((Ss + St) % pr) % pr < pr := Nat.mod_lt _ pr_pos
      have d8 := fun w => radd_any Sa Sb ha hb w
      have l8 : (Sa + Sb) % pr < pr := Nat.mod_lt _ pr_pos
      have d9 := fun w => rmul_any _ _ l8 l2 w
      have l9 : (Sa + Sb) % pr * subP Ss St % pr < pr := Nat.mod_lt _ pr_pos
      have d10 := fun w => radd_any _ _ l7 l9 w
      have l10 : (subP Sa Sb * ((Ss + St) % pr) % pr + (Sa + Sb) % pr * subP Ss St % pr) % pr < pr := Nat.mod_lt _ pr_pos
      have d11 := fun w => rmul_any _ _ l10 l10 w
      have d12 := fun w => rsub_any _ _ l7 l9 w
      have l12 : subP (subP Sa Sb * ((Ss + St) % pr) % pr) ((Sa + Sb) % pr * subP Ss St % pr) < pr := Nat.mod_lt _ pr_pos
      have d13 := fun w => rmul_any _ _ l12 l12 w
      have l13 : subP (subP Sa Sb * ((Ss + St) % pr) % pr) ((Sa + Sb) % pr * subP Ss St % pr) * subP (subP Sa Sb * ((Ss + St) % pr) % pr) ((Sa + Sb) % pr * subP Ss St % pr) % pr < pr := Nat.mod_lt _ pr_pos
      have d14 := fun w => rmul_any _ _ hu l13 w
      have d15 := fun w => rmul_any _ _ l3 l4 w
      have hkp : 121665 < pr := by decide
      have d16 := fun w => rmul_any _ _ hkp l5 w
      have l16 : 121665 * subP ((Ss + St) % pr * ((Ss + St) % pr) % pr) (subP Ss St * subP Ss St % pr) % pr < pr := Nat.mod_lt _ pr_pos
      have d17 := fun w => radd_any _ _ l3 l16 w
      have l17 : ((Ss + St) % pr * ((Ss + St) % pr) % pr + 121665 * subP ((Ss + St) % pr * ((Ss + St) % pr) % pr) (subP Ss St * subP Ss St % pr) % pr) % pr < pr := Nat.mod_lt _ pr_pos
      have d18 := fun w => rmul_any _ _ l5 l17 w
      have hN : ladSt nu bt (ladSw true ⟨Sa, Sb, Ss, St, l⟩) = ⟨dblX Ss St, dblZ Ss St, sumX Ss St Sa Sb, sumZ nu Ss St Sa Sb, bt⟩ := rfl
      dsimp only at hst
      rw [hd] at hst
      rw [hN] at hst
      unfold dblX dblZ sumX sumZ at hst
      clear hN l1 l2 l3 l4 l5 l6 l7 l8 l9 l10 l12 l13 l16 l17
      generalize subP ((Ss + St) % pr * ((Ss + St) % pr) % pr) (subP Ss St * subP Ss St % pr) * (((Ss + St) % pr * ((Ss + St) % pr) % pr + 121665 * subP ((Ss + St) % pr * ((Ss + St) % pr) % pr) (subP Ss St * subP Ss St % pr) % pr) % pr) % pr = n18 at *
      generalize ((Ss + St) % pr * ((Ss + St) % pr) % pr + 121665 * subP ((Ss + St) % pr * ((Ss + St) % pr) % pr) (subP Ss St * subP Ss St % pr) % pr) % pr = n17 at *
      generalize 121665 * subP ((Ss + St) % pr * ((Ss + St) % pr) % pr) (subP Ss St * subP Ss St % pr) % pr = n16 at *
      generalize ((Ss + St) % pr * ((Ss + St) % pr) % pr) * (subP Ss St * subP Ss St % pr) % pr = n15 at *
      generalize nu * (subP (subP Sa Sb * ((Ss + St) % pr) % pr) ((Sa + Sb) % pr * subP Ss St % pr) * subP (subP Sa Sb * ((Ss + St) % pr) % pr) ((Sa + Sb) % pr * subP Ss St % pr) % pr) % pr = n14 at *
      generalize subP (subP Sa Sb * ((Ss + St) % pr) % pr) ((Sa + Sb) % pr * subP Ss St % pr) * subP (subP Sa Sb * ((Ss + St) % pr) % pr) ((Sa + Sb) % pr * subP Ss St % pr) % pr = n13 at *
      generalize subP (subP Sa Sb * ((Ss + St) % pr) % pr) ((Sa + Sb) % pr * subP Ss St % pr) = n12 at *
      generalize (subP Sa Sb * ((Ss + St) % pr) % pr + (Sa + Sb) % pr * subP Ss St % pr) % pr * ((subP Sa Sb * ((Ss + St) % pr) % pr + (Sa + Sb) % pr * subP Ss St % pr) % pr) % pr = n11 at *
      generalize (subP Sa Sb * ((Ss + St) % pr) % pr + (Sa + Sb) % pr * subP Ss St % pr) % pr = n10 at *
      generalize (Sa + Sb) % pr * subP Ss St % pr = n9 at *
      generalize (Sa + Sb) % pr = n8 at *
      generalize subP Sa Sb * ((Ss + St) % pr) % pr = n7 at *
      generalize subP Sa Sb = n6 at *
      generalize subP ((Ss + St) % pr * ((Ss + St) % pr) % pr) (subP Ss St * subP Ss St % pr) = n5 at *
      generalize subP Ss St * subP Ss St % pr = n4 at *
      generalize (Ss + St) % pr * ((Ss + St) % pr) % pr = n3 at *
      generalize subP Ss St = n2 at *
      generalize (Ss + St) % pr = n1 at *
      unfold numV at d1 d2 d3 d4 d5 d6 d7 d8 d9 d10 d11 d12 d13 d14 d15 d16 d17 d18
      refine C_seqK (fun K hK => ?_)
      refine C_region ?_
      refine T_val F H (by as_aux_lemma => kernel_rfl) (.int .i64 ((Bool.toNat bt : Nat) : Int)) (fun _ _ => by as_aux_lemma => kernel_rfl) ?_
      clear F; intro a F
      refine T_val F H (by as_aux_lemma => kernel_rfl) (.int .i64 ((Bool.toNat l : Nat) : Int)) (fun _ _ => by as_aux_lemma => kernel_rfl) ?_
      clear F; intro a F
      refine T_val F H (by as_aux_lemma => kernel_rfl) (.bool true) (fun w _ => R_bin (x := (.tmp 47)) (y := (.tmp 48)) rfl (k := .i64) (a := ((Bool.toNat bt : Nat) : Int)) (b := ((Bool.toNat l : Nat) : Int)) (by as_aux_lemma => kernel_rfl) (by as_aux_lemma => kernel_rfl) ((i_nb bt l).trans (congrArg (fun q => some (Value.bool q)) hd)) w) ?_
      clear F; intro a F
      refine T_end (hK _ _ ?_)
      clear hK K
      refine C_if F true rfl rfl ?_
      refine C_seqK (fun K hK => ?_)
      refine C_region ?_
      refine T_val F H (by as_aux_lemma => kernel_rfl) (.agg (nArr (dg (Sa)))) (R_load (own := true) (g := aq6) (all := (nArr (dg (Sa)))) (t := 27) (fr := (0, 0)) 0 (by as_aux_lemma => kernel_rfl) 27 (.tmp 8) rfl 0 (by as_aux_lemma => kernel_rfl) (nArr (dg (Sa))) (part_all _) _ Tryd.underlying27 rfl (by as_aux_lemma => kernel_rfl)) ?_
      clear F; intro a F
      refine T_new F H (by as_aux_lemma => kernel_rfl) (fun ad => .pointer (some ⟨ad, 0, none⟩)) (.cells z16 27 (0, 0)) (fun w => by as_aux_lemma => kernel_rfl) ?_
      clear F H; intro aq10 a v F H
      refine T_set F H (by as_aux_lemma => kernel_rfl) rfl 0 rfl (nArr (dg (Sa))) (S_row 0 rfl 27 (.tmp 15) (.tmp 50) rfl (by as_aux_lemma => kernel_rfl) (nArr (dg (Sa))) (by as_aux_lemma => kernel_rfl) (by as_aux_lemma => kernel_rfl) (by as_aux_lemma => kernel_rfl) (by as_aux_lemma => kernel_rfl)) [⟨true, aq10, .cells (nArr (dg (Sa))) 27 (0, 0)⟩, ⟨true, aq6, .cells (nArr (dg (Sa))) 27 (0, 0)⟩, ⟨true, aq7, .cells (nArr (dg (Sb))) 27 (0, 0)⟩, ⟨true, aq8, .cells (nArr (dg (Ss))) 27 (0, 0)⟩, ⟨true, aq9, .cells (nArr (dg (St))) 27 (0, 0)⟩, ⟨true, aq5, .cells (nArr (dg (nu))) 27 (0, 0)⟩, ⟨true, aq4, .cells (kArr c) 23 (0, 0)⟩, ⟨true, aq3, .cells z32 23 (0, 0)⟩] rfl ?_
      clear F H; intro a v F H
      refine T_end (hK _ _ ?_)
      clear hK K
      refine C_seqK (fun K hK => ?_)
      refine C_region ?_
      refine T_val F H (by as_aux_lemma => kernel_rfl) (.agg (nArr (dg (Ss)))) (R_load (own := true) (g := aq8) (all := (nArr (dg (Ss)))) (t := 27) (fr := (0, 0)) 3 (by as_aux_lemma => kernel_rfl) 27 (.tmp 10) rfl 0 (by as_aux_lemma => kernel_rfl) (nArr (dg (Ss))) (part_all _) _ Tryd.underlying27 rfl (by as_aux_lemma => kernel_rfl)) ?_
      clear F; intro a F
      refine T_set F H (by as_aux_lemma => kernel_rfl) rfl 1 rfl (nArr (dg (Ss))) (S_row 1 rfl 27 (.tmp 8) (.tmp 51) rfl (by as_aux_lemma => kernel_rfl) (nArr (dg (Ss))) (by as_aux_lemma => kernel_rfl) (by as_aux_lemma => kernel_rfl) (by as_aux_lemma => kernel_rfl) (by as_aux_lemma => kernel_rfl)) [⟨true, aq10, .cells (nArr (dg (Sa))) 27 (0, 0)⟩, ⟨true, aq6, .cells (nArr (dg (Ss))) 27 (0, 0)⟩, ⟨true, aq7, .cells (nArr (dg (Sb))) 27 (0, 0)⟩, ⟨true, aq8, .cells (nArr (dg (Ss))) 27 (0, 0)⟩, ⟨true, aq9, .cells (nArr (dg (St))) 27 (0, 0)⟩, ⟨true, aq5, .cells (nArr (dg (nu))) 27 (0, 0)⟩, ⟨true, aq4, .cells (kArr c) 23 (0, 0)⟩, ⟨true, aq3, .cells z32 23 (0, 0)⟩] rfl ?_
      clear F H; intro a v F H
      refine T_end (hK _ _ ?_)
      clear hK K
      refine C_seqK (fun K hK => ?_)
      refine C_region ?_
      refine T_val F H (by as_aux_lemma => kernel_rfl) (.agg (nArr (dg (Sa)))) (R_load (own := true) (g := aq10) (all := (nArr (dg (Sa)))) (t := 27) (fr := (0, 0)) 0 (by as_aux_lemma => kernel_rfl) 27 (.tmp 15) rfl 0 (by as_aux_lemma => kernel_rfl) (nArr (dg (Sa))) (part_all _) _ Tryd.underlying27 rfl (by as_aux_lemma => kernel_rfl)) ?_
      clear F; intro a F
      refine T_set F H (by as_aux_lemma => kernel_rfl) rfl 3 rfl (nArr (dg (Sa))) (S_row 3 rfl 27 (.tmp 10) (.tmp 52) rfl (by as_aux_lemma => kernel_rfl) (nArr (dg (Sa))) (by as_aux_lemma => kernel_rfl) (by as_aux_lemma => kernel_rfl) (by as_aux_lemma => kernel_rfl) (by as_aux_lemma => kernel_rfl)) [⟨true, aq10, .cells (nArr (dg (Sa))) 27 (0, 0)⟩, ⟨true, aq6, .cells (nArr (dg (Ss))) 27 (0, 0)⟩, ⟨true, aq7, .cells (nArr (dg (Sb))) 27 (0, 0)⟩, ⟨true, aq8, .cells (nArr (dg (Sa))) 27 (0, 0)⟩, ⟨true, aq9, .cells (nArr (dg (St))) 27 (0, 0)⟩, ⟨true, aq5, .cells (nArr (dg (nu))) 27 (0, 0)⟩, ⟨true, aq4, .cells (kArr c) 23 (0, 0)⟩, ⟨true, aq3, .cells z32 23 (0, 0)⟩] rfl ?_
      clear F H; intro a v F H
      refine T_end (hK _ _ ?_)
      clear hK K
      refine C_seqK (fun K hK => ?_)
      refine C_region ?_
      refine T_val F H (by as_aux_lemma => kernel_rfl) (.agg (nArr (dg (Sb)))) (R_load (own := true) (g := aq7) (all := (nArr (dg (Sb)))) (t := 27) (fr := (0, 0)) 2 (by as_aux_lemma => kernel_rfl) 27 (.tmp 9) rfl 0 (by as_aux_lemma => kernel_rfl) (nArr (dg (Sb))) (part_all _) _ Tryd.underlying27 rfl (by as_aux_lemma => kernel_rfl)) ?_
      clear F; intro a F
      refine T_set F H (by as_aux_lemma => kernel_rfl) rfl 0 rfl (nArr (dg (Sb))) (S_row 0 rfl 27 (.tmp 15) (.tmp 53) rfl (by as_aux_lemma => kernel_rfl) (nArr (dg (Sb))) (by as_aux_lemma => kernel_rfl) (by as_aux_lemma => kernel_rfl) (by as_aux_lemma => kernel_rfl) (by as_aux_lemma => kernel_rfl)) [⟨true, aq10, .cells (nArr (dg (Sb))) 27 (0, 0)⟩, ⟨true, aq6, .cells (nArr (dg (Ss))) 27 (0, 0)⟩, ⟨true, aq7, .cells (nArr (dg (Sb))) 27 (0, 0)⟩, ⟨true, aq8, .cells (nArr (dg (Sa))) 27 (0, 0)⟩, ⟨true, aq9, .cells (nArr (dg (St))) 27 (0, 0)⟩, ⟨true, aq5, .cells (nArr (dg (nu))) 27 (0, 0)⟩, ⟨true, aq4, .cells (kArr c) 23 (0, 0)⟩, ⟨true, aq3, .cells z32 23 (0, 0)⟩] rfl ?_
      clear F H; intro a v F H
      refine T_end (hK _ _ ?_)
      clear hK K
      refine C_seqK (fun K hK => ?_)
      refine C_region ?_
      refine T_val F H (by as_aux_lemma => kernel_rfl) (.agg (nArr (dg (St)))) (R_load (own := true) (g := aq9) (all := (nArr (dg (St)))) (t := 27) (fr := (0, 0)) 4 (by as_aux_lemma => kernel_rfl) 27 (.tmp 11) rfl 0 (by as_aux_lemma => kernel_rfl) (nArr (dg (St))) (part_all _) _ Tryd.underlying27 rfl (by as_aux_lemma => kernel_rfl)) ?_
      clear F; intro a F
      refine T_set F H (by as_aux_lemma => kernel_rfl) rfl 2 rfl (nArr (dg (St))) (S_row 2 rfl 27 (.tmp 9) (.tmp 54) rfl (by as_aux_lemma => kernel_rfl) (nArr (dg (St))) (by as_aux_lemma => kernel_rfl) (by as_aux_lemma => kernel_rfl) (by as_aux_lemma => kernel_rfl) (by as_aux_lemma => kernel_rfl)) [⟨true, aq10, .cells (nArr (dg (Sb))) 27 (0, 0)⟩, ⟨true, aq6, .cells (nArr (dg (Ss))) 27 (0, 0)⟩, ⟨true, aq7, .cells (nArr (dg (St))) 27 (0, 0)⟩, ⟨true, aq8, .cells (nArr (dg (Sa))) 27 (0, 0)⟩, ⟨true, aq9, .cells (nArr (dg (St))) 27 (0, 0)⟩, ⟨true, aq5, .cells (nArr (dg (nu))) 27 (0, 0)⟩, ⟨true, aq4, .cells (kArr c) 23 (0, 0)⟩, ⟨true, aq3, .cells z32 23 (0, 0)⟩] rfl ?_
      clear F H; intro a v F H
      refine T_end (hK _ _ ?_)
      clear hK K
      refine C_region ?_
      refine T_val F H (by as_aux_lemma => kernel_rfl) (.agg (nArr (dg (Sb)))) (R_load (own := true) (g := aq10) (all := (nArr (dg (Sb)))) (t := 27) (fr := (0, 0)) 0 (by as_aux_lemma => kernel_rfl) 27 (.tmp 15) rfl 0 (by as_aux_lemma => kernel_rfl) (nArr (dg (Sb))) (part_all _) _ Tryd.underlying27 rfl (by as_aux_lemma => kernel_rfl)) ?_
      clear F; intro a F
      refine T_set F H (by as_aux_lemma => kernel_rfl) rfl 4 rfl (nArr (dg (Sb))) (S_row 4 rfl 27 (.tmp 11) (.tmp 55) rfl (by as_aux_lemma => kernel_rfl) (nArr (dg (Sb))) (by as_aux_lemma => kernel_rfl) (by as_aux_lemma => kernel_rfl) (by as_aux_lemma => kernel_rfl) (by as_aux_lemma => kernel_rfl)) [⟨true, aq10, .cells (nArr (dg (Sb))) 27 (0, 0)⟩, ⟨true, aq6, .cells (nArr (dg (Ss))) 27 (0, 0)⟩, ⟨true, aq7, .cells (nArr (dg (St))) 27 (0, 0)⟩, ⟨true, aq8, .cells (nArr (dg (Sa))) 27 (0, 0)⟩, ⟨true, aq9, .cells (nArr (dg (Sb))) 27 (0, 0)⟩, ⟨true, aq5, .cells (nArr (dg (nu))) 27 (0, 0)⟩, ⟨true, aq4, .cells (kArr c) 23 (0, 0)⟩, ⟨true, aq3, .cells z32 23 (0, 0)⟩] rfl ?_
      clear F H; intro a v F H
      refine wpList_nil ?_
      refine hK3 _ _ ?_
      clear hK3 K3
      refine C_seqK (fun K hK => ?_)
      refine C_region ?_
      refine T_val F H (by as_aux_lemma => kernel_rfl) (.int .i64 ((Bool.toNat bt : Nat) : Int)) (fun _ _ => by as_aux_lemma => kernel_rfl) ?_
      clear F; intro a F
      refine T_val F H (by as_aux_lemma => kernel_rfl) (.int .i64 ((Bool.toNat bt : Nat) : Int)) (fun _ _ => by as_aux_lemma => kernel_rfl) ?_
      clear F; intro a F
      refine T_end (hK _ _ ?_)
      clear hK K
      refine C_seqK (fun K hK => ?_)
      refine C_region ?_
      refine T_val F H (by as_aux_lemma => kernel_rfl) (.agg (nArr (dg (Ss)))) (R_load (own := true) (g := aq6) (all := (nArr (dg (Ss)))) (t := 27) (fr := (0, 0)) 1 (by as_aux_lemma => kernel_rfl) 27 (.tmp 8) rfl 0 (by as_aux_lemma => kernel_rfl) (nArr (dg (Ss))) (part_all _) _ Tryd.underlying27 rfl (by as_aux_lemma => kernel_rfl)) ?_
      clear F; intro a F
      refine T_val F H (by as_aux_lemma => kernel_rfl) (.agg (nArr (dg (St)))) (R_load (own := true) (g := aq7) (all := (nArr (dg (St)))) (t := 27) (fr := (0, 0)) 2 (by as_aux_lemma => kernel_rfl) 27 (.tmp 9) rfl 0 (by as_aux_lemma => kernel_rfl) (nArr (dg (St))) (part_all _) _ Tryd.underlying27 rfl (by as_aux_lemma => kernel_rfl)) ?_
      clear F; intro a F
      refine T_call F H (by as_aux_lemma => kernel_rfl) 34 #[.agg (nArr (dg (Ss))), .agg (nArr (dg (St)))] (.agg (nArr (dg (n1)))) (fun w => by as_aux_lemma => kernel_rfl) (Calls.kept (d1 _)) ?_
      clear F H; intro a v F H
      refine T_new F H (by as_aux_lemma => kernel_rfl) (fun ad => .pointer (some ⟨ad, 0, none⟩)) (.cells z16 27 (0, 0)) (fun w => by as_aux_lemma => kernel_rfl) ?_
      clear F H; intro aq11 a v F H
      refine T_set F H (by as_aux_lemma => kernel_rfl) rfl 0 rfl (nArr (dg (n1))) (S_row 0 rfl 27 (.tmp 16) (.tmp 59) rfl (by as_aux_lemma => kernel_rfl) (nArr (dg (n1))) (by as_aux_lemma => kernel_rfl) (by as_aux_lemma => kernel_rfl) (by as_aux_lemma => kernel_rfl) (by as_aux_lemma => kernel_rfl)) [⟨true, aq11, .cells (nArr (dg (n1))) 27 (0, 0)⟩, ⟨true, aq10, .cells (nArr (dg (Sb))) 27 (0, 0)⟩, ⟨true, aq6, .cells (nArr (dg (Ss))) 27 (0, 0)⟩, ⟨true, aq7, .cells (nArr (dg (St))) 27 (0, 0)⟩, ⟨true, aq8, .cells (nArr (dg (Sa))) 27 (0, 0)⟩, ⟨true, aq9, .cells (nArr (dg (Sb))) 27 (0, 0)⟩, ⟨true, aq5, .cells (nArr (dg (nu))) 27 (0, 0)⟩, ⟨true, aq4, .cells (kArr c) 23 (0, 0)⟩, ⟨true, aq3, .cells z32 23 (0, 0)⟩] rfl ?_
      clear F H; intro a v F H
      refine T_end (hK _ _ ?_)
      clear hK K
      refine C_seqK (fun K hK => ?_)
      refine C_region ?_
      refine T_val F H (by as_aux_lemma => kernel_rfl) (.agg (nArr (dg (Ss)))) (R_load (own := true) (g := aq6) (all := (nArr (dg (Ss)))) (t := 27) (fr := (0, 0)) 2 (by as_aux_lemma => kernel_rfl) 27 (.tmp 8) rfl 0 (by as_aux_lemma => kernel_rfl) (nArr (dg (Ss))) (part_all _) _ Tryd.underlying27 rfl (by as_aux_lemma => kernel_rfl)) ?_
      clear F; intro a F
      refine T_val F H (by as_aux_lemma => kernel_rfl) (.agg (nArr (dg (St)))) (R_load (own := true) (g := aq7) (all := (nArr (dg (St)))) (t := 27) (fr := (0, 0)) 3 (by as_aux_lemma => kernel_rfl) 27 (.tmp 9) rfl 0 (by as_aux_lemma => kernel_rfl) (nArr (dg (St))) (part_all _) _ Tryd.underlying27 rfl (by as_aux_lemma => kernel_rfl)) ?_
      clear F; intro a F
      refine T_call F H (by as_aux_lemma => kernel_rfl) 36 #[.agg (nArr (dg (Ss))), .agg (nArr (dg (St)))] (.agg (nArr (dg (n2)))) (fun w => by as_aux_lemma => kernel_rfl) (Calls.kept (d2 _)) ?_
      clear F H; intro a v F H
      refine T_new F H (by as_aux_lemma => kernel_rfl) (fun ad => .pointer (some ⟨ad, 0, none⟩)) (.cells z16 27 (0, 0)) (fun w => by as_aux_lemma => kernel_rfl) ?_
      clear F H; intro aq12 a v F H
      refine T_set F H (by as_aux_lemma => kernel_rfl) rfl 0 rfl (nArr (dg (n2))) (S_row 0 rfl 27 (.tmp 17) (.tmp 62) rfl (by as_aux_lemma => kernel_rfl) (nArr (dg (n2))) (by as_aux_lemma => kernel_rfl) (by as_aux_lemma => kernel_rfl) (by as_aux_lemma => kernel_rfl) (by as_aux_lemma => kernel_rfl)) [⟨true, aq12, .cells (nArr (dg (n2))) 27 (0, 0)⟩, ⟨true, aq11, .cells (nArr (dg (n1))) 27 (0, 0)⟩, ⟨true, aq10, .cells (nArr (dg (Sb))) 27 (0, 0)⟩, ⟨true, aq6, .cells (nArr (dg (Ss))) 27 (0, 0)⟩, ⟨true, aq7, .cells (nArr (dg (St))) 27 (0, 0)⟩, ⟨true, aq8, .cells (nArr (dg (Sa))) 27 (0, 0)⟩, ⟨true, aq9, .cells (nArr (dg (Sb))) 27 (0, 0)⟩, ⟨true, aq5, .cells (nArr (dg (nu))) 27 (0, 0)⟩, ⟨true, aq4, .cells (kArr c) 23 (0, 0)⟩, ⟨true, aq3, .cells z32 23 (0, 0)⟩] rfl ?_
      clear F H; intro a v F H
      refine T_end (hK _ _ ?_)
      clear hK K
      refine C_seqK (fun K hK => ?_)
      refine C_region ?_
      refine T_val F H (by as_aux_lemma => kernel_rfl) (.agg (nArr (dg (n1)))) (R_load (own := true) (g := aq11) (all := (nArr (dg (n1)))) (t := 27) (fr := (0, 0)) 1 (by as_aux_lemma => kernel_rfl) 27 (.tmp 16) rfl 0 (by as_aux_lemma => kernel_rfl) (nArr (dg (n1))) (part_all _) _ Tryd.underlying27 rfl (by as_aux_lemma => kernel_rfl)) ?_
      clear F; intro a F
      refine T_val F H (by as_aux_lemma => kernel_rfl) (.agg (nArr (dg (n1)))) (R_load (own := true) (g := aq11) (all := (nArr (dg (n1)))) (t := 27) (fr := (0, 0)) 1 (by as_aux_lemma => kernel_rfl) 27 (.tmp 16) rfl 0 (by as_aux_lemma => kernel_rfl) (nArr (dg (n1))) (part_all _) _ Tryd.underlying27 rfl (by as_aux_lemma => kernel_rfl)) ?_
      clear F; intro a F
      refine T_call F H (by as_aux_lemma => kernel_rfl) 35 #[.agg (nArr (dg (n1))), .agg (nArr (dg (n1)))] (.agg (nArr (dg (n3)))) (fun w => by as_aux_lemma => kernel_rfl) (Calls.kept (d3 _)) ?_
      clear F H; intro a v F H
      refine T_new F H (by as_aux_lemma => kernel_rfl) (fun ad => .pointer (some ⟨ad, 0, none⟩)) (.cells z16 27 (0, 0)) (fun w => by as_aux_lemma => kernel_rfl) ?_
      clear F H; intro aq13 a v F H
      refine T_set F H (by as_aux_lemma => kernel_rfl) rfl 0 rfl (nArr (dg (n3))) (S_row 0 rfl 27 (.tmp 18) (.tmp 65) rfl (by as_aux_lemma => kernel_rfl) (nArr (dg (n3))) (by as_aux_lemma => kernel_rfl) (by as_aux_lemma => kernel_rfl) (by as_aux_lemma => kernel_rfl) (by as_aux_lemma => kernel_rfl)) [⟨true, aq13, .cells (nArr (dg (n3))) 27 (0, 0)⟩, ⟨true, aq12, .cells (nArr (dg (n2))) 27 (0, 0)⟩, ⟨true, aq11, .cells (nArr (dg (n1))) 27 (0, 0)⟩, ⟨true, aq10, .cells (nArr (dg (Sb))) 27 (0, 0)⟩, ⟨true, aq6, .cells (nArr (dg (Ss))) 27 (0, 0)⟩, ⟨true, aq7, .cells (nArr (dg (St))) 27 (0, 0)⟩, ⟨true, aq8, .cells (nArr (dg (Sa))) 27 (0, 0)⟩, ⟨true, aq9, .cells (nArr (dg (Sb))) 27 (0, 0)⟩, ⟨true, aq5, .cells (nArr (dg (nu))) 27 (0, 0)⟩, ⟨true, aq4, .cells (kArr c) 23 (0, 0)⟩, ⟨true, aq3, .cells z32 23 (0, 0)⟩] rfl ?_
      clear F H; intro a v F H
      refine T_end (hK _ _ ?_)
      clear hK K
      refine C_seqK (fun K hK => ?_)
      refine C_region ?_
      refine T_val F H (by as_aux_lemma => kernel_rfl) (.agg (nArr (dg (n2)))) (R_load (own := true) (g := aq12) (all := (nArr (dg (n2)))) (t := 27) (fr := (0, 0)) 1 (by as_aux_lemma => kernel_rfl) 27 (.tmp 17) rfl 0 (by as_aux_lemma => kernel_rfl) (nArr (dg (n2))) (part_all _) _ Tryd.underlying27 rfl (by as_aux_lemma => kernel_rfl)) ?_
      clear F; intro a F
      refine T_val F H (by as_aux_lemma => kernel_rfl) (.agg (nArr (dg (n2)))) (R_load (own := true) (g := aq12) (all := (nArr (dg (n2)))) (t := 27) (fr := (0, 0)) 1 (by as_aux_lemma => kernel_rfl) 27 (.tmp 17) rfl 0 (by as_aux_lemma => kernel_rfl) (nArr (dg (n2))) (part_all _) _ Tryd.underlying27 rfl (by as_aux_lemma => kernel_rfl)) ?_
      clear F; intro a F
      refine T_call F H (by as_aux_lemma => kernel_rfl) 35 #[.agg (nArr (dg (n2))), .agg (nArr (dg (n2)))] (.agg (nArr (dg (n4)))) (fun w => by as_aux_lemma => kernel_rfl) (Calls.kept (d4 _)) ?_
      clear F H; intro a v F H
      refine T_new F H (by as_aux_lemma => kernel_rfl) (fun ad => .pointer (some ⟨ad, 0, none⟩)) (.cells z16 27 (0, 0)) (fun w => by as_aux_lemma => kernel_rfl) ?_
      clear F H; intro aq14 a v F H
      refine T_set F H (by as_aux_lemma => kernel_rfl) rfl 0 rfl (nArr (dg (n4))) (S_row 0 rfl 27 (.tmp 19) (.tmp 68) rfl (by as_aux_lemma => kernel_rfl) (nArr (dg (n4))) (by as_aux_lemma => kernel_rfl) (by as_aux_lemma => kernel_rfl) (by as_aux_lemma => kernel_rfl) (by as_aux_lemma => kernel_rfl)) [⟨true, aq14, .cells (nArr (dg (n4))) 27 (0, 0)⟩, ⟨true, aq13, .cells (nArr (dg (n3))) 27 (0, 0)⟩, ⟨true, aq12, .cells (nArr (dg (n2))) 27 (0, 0)⟩, ⟨true, aq11, .cells (nArr (dg (n1))) 27 (0, 0)⟩, ⟨true, aq10, .cells (nArr (dg (Sb))) 27 (0, 0)⟩, ⟨true, aq6, .cells (nArr (dg (Ss))) 27 (0, 0)⟩, ⟨true, aq7, .cells (nArr (dg (St))) 27 (0, 0)⟩, ⟨true, aq8, .cells (nArr (dg (Sa))) 27 (0, 0)⟩, ⟨true, aq9, .cells (nArr (dg (Sb))) 27 (0, 0)⟩, ⟨true, aq5, .cells (nArr (dg (nu))) 27 (0, 0)⟩, ⟨true, aq4, .cells (kArr c) 23 (0, 0)⟩, ⟨true, aq3, .cells z32 23 (0, 0)⟩] rfl ?_
      clear F H; intro a v F H
      refine T_end (hK _ _ ?_)
      clear hK K
      refine C_seqK (fun K hK => ?_)
      refine C_region ?_
      refine T_val F H (by as_aux_lemma => kernel_rfl) (.agg (nArr (dg (n3)))) (R_load (own := true) (g := aq13) (all := (nArr (dg (n3)))) (t := 27) (fr := (0, 0)) 1 (by as_aux_lemma => kernel_rfl) 27 (.tmp 18) rfl 0 (by as_aux_lemma => kernel_rfl) (nArr (dg (n3))) (part_all _) _ Tryd.underlying27 rfl (by as_aux_lemma => kernel_rfl)) ?_
      clear F; intro a F
      refine T_val F H (by as_aux_lemma => kernel_rfl) (.agg (nArr (dg (n4)))) (R_load (own := true) (g := aq14) (all := (nArr (dg (n4)))) (t := 27) (fr := (0, 0)) 0 (by as_aux_lemma => kernel_rfl) 27 (.tmp 19) rfl 0 (by as_aux_lemma => kernel_rfl) (nArr (dg (n4))) (part_all _) _ Tryd.underlying27 rfl (by as_aux_lemma => kernel_rfl)) ?_
      clear F; intro a F
      refine T_call F H (by as_aux_lemma => kernel_rfl) 36 #[.agg (nArr (dg (n3))), .agg (nArr (dg (n4)))] (.agg (nArr (dg (n5)))) (fun w => by as_aux_lemma => kernel_rfl) (Calls.kept (d5 _)) ?_
      clear F H; intro a v F H
      refine T_new F H (by as_aux_lemma => kernel_rfl) (fun ad => .pointer (some ⟨ad, 0, none⟩)) (.cells z16 27 (0, 0)) (fun w => by as_aux_lemma => kernel_rfl) ?_
      clear F H; intro aq15 a v F H
      refine T_set F H (by as_aux_lemma => kernel_rfl) rfl 0 rfl (nArr (dg (n5))) (S_row 0 rfl 27 (.tmp 20) (.tmp 71) rfl (by as_aux_lemma => kernel_rfl) (nArr (dg (n5))) (by as_aux_lemma => kernel_rfl) (by as_aux_lemma => kernel_rfl) (by as_aux_lemma => kernel_rfl) (by as_aux_lemma => kernel_rfl)) [⟨true, aq15, .cells (nArr (dg (n5))) 27 (0, 0)⟩, ⟨true, aq14, .cells (nArr (dg (n4))) 27 (0, 0)⟩, ⟨true, aq13, .cells (nArr (dg (n3))) 27 (0, 0)⟩, ⟨true, aq12, .cells (nArr (dg (n2))) 27 (0, 0)⟩, ⟨true, aq11, .cells (nArr (dg (n1))) 27 (0, 0)⟩, ⟨true, aq10, .cells (nArr (dg (Sb))) 27 (0, 0)⟩, ⟨true, aq6, .cells (nArr (dg (Ss))) 27 (0, 0)⟩, ⟨true, aq7, .cells (nArr (dg (St))) 27 (0, 0)⟩, ⟨true, aq8, .cells (nArr (dg (Sa))) 27 (0, 0)⟩, ⟨true, aq9, .cells (nArr (dg (Sb))) 27 (0, 0)⟩, ⟨true, aq5, .cells (nArr (dg (nu))) 27 (0, 0)⟩, ⟨true, aq4, .cells (kArr c) 23 (0, 0)⟩, ⟨true, aq3, .cells z32 23 (0, 0)⟩] rfl ?_
      clear F H; intro a v F H
      refine T_end (hK _ _ ?_)
      clear hK K
      refine C_seqK (fun K hK => ?_)
      refine D_region F H (fun β => [(72, .agg (nArr (dg (Sa)))), (73, .agg (nArr (dg (Sb)))), (74, .agg (nArr (dg (n6)))), (75, .agg (nArr (dg (n1)))), (76, .agg (nArr (dg (n7)))), (21, .pointer (some ⟨(β 5), 0, none⟩))]) [72, 73, 74, 75, 76, 21] [⟨5, 6, .cells z16 27 (0, 0), .cells (nArr (dg (n7))) 27 (0, 0)⟩] [] [⟨true, aq15, .cells (nArr (dg (n5))) 27 (0, 0)⟩, ⟨true, aq14, .cells (nArr (dg (n4))) 27 (0, 0)⟩, ⟨true, aq13, .cells (nArr (dg (n3))) 27 (0, 0)⟩, ⟨true, aq12, .cells (nArr (dg (n2))) 27 (0, 0)⟩, ⟨true, aq11, .cells (nArr (dg (n1))) 27 (0, 0)⟩, ⟨true, aq10, .cells (nArr (dg (Sb))) 27 (0, 0)⟩, ⟨true, aq6, .cells (nArr (dg (Ss))) 27 (0, 0)⟩, ⟨true, aq7, .cells (nArr (dg (St))) 27 (0, 0)⟩, ⟨true, aq8, .cells (nArr (dg (Sa))) 27 (0, 0)⟩, ⟨true, aq9, .cells (nArr (dg (Sb))) 27 (0, 0)⟩, ⟨true, aq5, .cells (nArr (dg (nu))) 27 (0, 0)⟩, ⟨true, aq4, .cells (kArr c) 23 (0, 0)⟩, ⟨true, aq3, .cells z32 23 (0, 0)⟩] [0, 1, 2, 3, 4, 5, 6, 7, 8, 9, 10, 11, 12] (by as_aux_lemma => kernel_rfl) (by as_aux_lemma => kernel_rfl) (by as_aux_lemma => kernel_rfl) (fun β => rfl) (fun fit => ⟨?_, ?_, ?_, ?_, ?_, ?_, ?_, trivial⟩) ?_
      · exact D_val 117 (fun β => by as_aux_lemma => kernel_rfl) (fun β => .agg (nArr (dg (Sa)))) 72 rfl (fun β => by as_aux_lemma => kernel_rfl) (fun β => R_load (own := true) (g := aq8) (all := (nArr (dg (Sa)))) (t := 27) (fr := (0, 0)) 8 (by as_aux_lemma => kernel_rfl) 27 (.tmp 10) rfl 0 (by as_aux_lemma => kernel_rfl) (nArr (dg (Sa))) (part_all _) _ Tryd.underlying27 rfl (by as_aux_lemma => kernel_rfl)) (by as_aux_lemma => kernel_rfl)
      · exact D_val 117 (fun β => by as_aux_lemma => kernel_rfl) (fun β => .agg (nArr (dg (Sb)))) 73 rfl (fun β => by as_aux_lemma => kernel_rfl) (fun β => R_load (own := true) (g := aq9) (all := (nArr (dg (Sb)))) (t := 27) (fr := (0, 0)) 9 (by as_aux_lemma => kernel_rfl) 27 (.tmp 11) rfl 0 (by as_aux_lemma => kernel_rfl) (nArr (dg (Sb))) (part_all _) _ Tryd.underlying27 rfl (by as_aux_lemma => kernel_rfl)) (by as_aux_lemma => kernel_rfl)
      · exact D_call 117 (fun β => by as_aux_lemma => kernel_rfl) (fun β => .agg (nArr (dg (n6)))) 74 rfl (fun β => by as_aux_lemma => kernel_rfl) 36 (fun β => #[.agg (nArr (dg (Sa))), .agg (nArr (dg (Sb)))]) (fun β w => by as_aux_lemma => kernel_rfl) (fun β w hk => Calls.kept (d6 _)) (by as_aux_lemma => kernel_rfl)
      · exact D_val 117 (fun β => by as_aux_lemma => kernel_rfl) (fun β => .agg (nArr (dg (n1)))) 75 rfl (fun β => by as_aux_lemma => kernel_rfl) (fun β => R_load (own := true) (g := aq11) (all := (nArr (dg (n1)))) (t := 27) (fr := (0, 0)) 4 (by as_aux_lemma => kernel_rfl) 27 (.tmp 16) rfl 0 (by as_aux_lemma => kernel_rfl) (nArr (dg (n1))) (part_all _) _ Tryd.underlying27 rfl (by as_aux_lemma => kernel_rfl)) (by as_aux_lemma => kernel_rfl)
      · exact D_call 117 (fun β => by as_aux_lemma => kernel_rfl) (fun β => .agg (nArr (dg (n7)))) 76 rfl (fun β => by as_aux_lemma => kernel_rfl) 35 (fun β => #[.agg (nArr (dg (n6))), .agg (nArr (dg (n1)))]) (fun β w => by as_aux_lemma => kernel_rfl) (fun β w hk => Calls.kept (d7 _)) (by as_aux_lemma => kernel_rfl)
      · exact D_new fit ⟨5, 6, .cells z16 27 (0, 0), .cells (nArr (dg (n7))) 27 (0, 0)⟩ (List.mem_of_getElem? (i := 0) rfl) rfl 117 (fun β => by as_aux_lemma => kernel_rfl) 21 rfl (fun ad => .pointer (some ⟨ad, 0, none⟩)) (fun β w => by as_aux_lemma => kernel_rfl) (fun β => by as_aux_lemma => kernel_rfl) (fun β b => ⟨rfl, .inr rfl, ⟨rfl, .inr rfl, ⟨rfl, .inr rfl, ⟨rfl, .inr rfl, ⟨rfl, .inr rfl, ⟨rfl, .inl rfl, trivial⟩⟩⟩⟩⟩⟩) (by as_aux_lemma => kernel_rfl)
      · exact D_put fit ⟨5, 6, .cells z16 27 (0, 0), .cells (nArr (dg (n7))) 27 (0, 0)⟩ (List.mem_of_getElem? (i := 0) rfl) rfl 117 (fun β => by as_aux_lemma => kernel_rfl) rfl (by as_aux_lemma => kernel_rfl) (fun β w _ hg => P_row rfl rfl (ty := 27) (x := (.tmp 21)) (y := (.tmp 76)) rfl (by as_aux_lemma => kernel_rfl) (by as_aux_lemma => kernel_rfl) (by as_aux_lemma => kernel_rfl) (by as_aux_lemma => kernel_rfl) (by as_aux_lemma => kernel_rfl) hg) (by as_aux_lemma => kernel_rfl)
      clear F H; intro β a v F H
      replace H : Hp [] w [⟨true, (β 5), .cells (nArr (dg (n7))) 27 (0, 0)⟩, ⟨true, aq15, .cells (nArr (dg (n5))) 27 (0, 0)⟩, ⟨true, aq14, .cells (nArr (dg (n4))) 27 (0, 0)⟩, ⟨true, aq13, .cells (nArr (dg (n3))) 27 (0, 0)⟩, ⟨true, aq12, .cells (nArr (dg (n2))) 27 (0, 0)⟩, ⟨true, aq11, .cells (nArr (dg (n1))) 27 (0, 0)⟩, ⟨true, aq10, .cells (nArr (dg (Sb))) 27 (0, 0)⟩, ⟨true, aq6, .cells (nArr (dg (Ss))) 27 (0, 0)⟩, ⟨true, aq7, .cells (nArr (dg (St))) 27 (0, 0)⟩, ⟨true, aq8, .cells (nArr (dg (Sa))) 27 (0, 0)⟩, ⟨true, aq9, .cells (nArr (dg (Sb))) 27 (0, 0)⟩, ⟨true, aq5, .cells (nArr (dg (nu))) 27 (0, 0)⟩, ⟨true, aq4, .cells (kArr c) 23 (0, 0)⟩, ⟨true, aq3, .cells z32 23 (0, 0)⟩] v := H
      replace F : Fm 117 [] [(21, .pointer (some ⟨(β 5), 0, none⟩)), (76, .agg (nArr (dg (n7)))), (75, .agg (nArr (dg (n1)))), (74, .agg (nArr (dg (n6)))), (73, .agg (nArr (dg (Sb)))), (72, .agg (nArr (dg (Sa)))), (20, .pointer (some ⟨aq15, 0, none⟩)), (71, .agg (nArr (dg (n5)))), (70, .agg (nArr (dg (n4)))), (69, .agg (nArr (dg (n3)))), (19, .pointer (some ⟨aq14, 0, none⟩)), (68, .agg (nArr (dg (n4)))), (67, .agg (nArr (dg (n2)))), (66, .agg (nArr (dg (n2)))), (18, .pointer (some ⟨aq13, 0, none⟩)), (65, .agg (nArr (dg (n3)))), (64, .agg (nArr (dg (n1)))), (63, .agg (nArr (dg (n1)))), (17, .pointer (some ⟨aq12, 0, none⟩)), (62, .agg (nArr (dg (n2)))), (61, .agg (nArr (dg (St)))), (60, .agg (nArr (dg (Ss)))), (16, .pointer (some ⟨aq11, 0, none⟩)), (59, .agg (nArr (dg (n1)))), (58, .agg (nArr (dg (St)))), (57, .agg (nArr (dg (Ss)))), (12, .int .i64 ((Bool.toNat bt : Nat) : Int)), (56, .int .i64 ((Bool.toNat bt : Nat) : Int)), (55, .agg (nArr (dg (Sb)))), (54, .agg (nArr (dg (St)))), (53, .agg (nArr (dg (Sb)))), (52, .agg (nArr (dg (Sa)))), (51, .agg (nArr (dg (Ss)))), (15, .pointer (some ⟨aq10, 0, none⟩)), (50, .agg (nArr (dg (Sa)))), (49, .bool true), (48, .int .i64 ((Bool.toNat l : Nat) : Int)), (47, .int .i64 ((Bool.toNat bt : Nat) : Int)), (14, .int .i64 ((Bool.toNat bt : Nat) : Int)), (13, .int .i64 ((m : Nat) : Int)), (4, .pointer (some ⟨aq3, 0, none⟩)), (5, .pointer (some ⟨aq4, 0, none⟩)), (6, .pointer (some ⟨aq5, 0, none⟩)), (8, .pointer (some ⟨aq6, 0, none⟩)), (9, .pointer (some ⟨aq7, 0, none⟩)), (10, .pointer (some ⟨aq8, 0, none⟩)), (11, .pointer (some ⟨aq9, 0, none⟩))] a := F.weak _ (⟨rfl, ⟨rfl, ⟨rfl, ⟨rfl, ⟨rfl, ⟨rfl, ⟨rfl, ⟨rfl, ⟨rfl, ⟨rfl, ⟨rfl, ⟨rfl, ⟨rfl, ⟨rfl, ⟨rfl, ⟨rfl, ⟨rfl, ⟨rfl, ⟨rfl, ⟨rfl, ⟨rfl, ⟨rfl, ⟨rfl, ⟨rfl, ⟨rfl, ⟨rfl, ⟨rfl, ⟨rfl, ⟨rfl, ⟨rfl, ⟨rfl, ⟨rfl, ⟨rfl, ⟨rfl, ⟨rfl, ⟨rfl, ⟨rfl, ⟨rfl, ⟨rfl, ⟨rfl, ⟨rfl, ⟨rfl, ⟨rfl, ⟨rfl, ⟨rfl, ⟨rfl, ⟨rfl, trivial⟩⟩⟩⟩⟩⟩⟩⟩⟩⟩⟩⟩⟩⟩⟩⟩⟩⟩⟩⟩⟩⟩⟩⟩⟩⟩⟩⟩⟩⟩⟩⟩⟩⟩⟩⟩⟩⟩⟩⟩⟩⟩⟩⟩⟩⟩⟩)
      generalize β 5 = aq16 at F H
      refine hK _ _ ?_
      clear hK K
      refine C_seqK (fun K hK => ?_)
      refine D_region F H (fun β => [(77, .agg (nArr (dg (Sa)))), (78, .agg (nArr (dg (Sb)))), (79, .agg (nArr (dg (n8)))), (80, .agg (nArr (dg (n2)))), (81, .agg (nArr (dg (n9)))), (22, .pointer (some ⟨(β 5), 0, none⟩))]) [77, 78, 79, 80, 81, 22] [⟨5, 6, .cells z16 27 (0, 0), .cells (nArr (dg (n9))) 27 (0, 0)⟩] [] [⟨true, aq16, .cells (nArr (dg (n7))) 27 (0, 0)⟩, ⟨true, aq15, .cells (nArr (dg (n5))) 27 (0, 0)⟩, ⟨true, aq14, .cells (nArr (dg (n4))) 27 (0, 0)⟩, ⟨true, aq13, .cells (nArr (dg (n3))) 27 (0, 0)⟩, ⟨true, aq12, .cells (nArr (dg (n2))) 27 (0, 0)⟩, ⟨true, aq11, .cells (nArr (dg (n1))) 27 (0, 0)⟩, ⟨true, aq10, .cells (nArr (dg (Sb))) 27 (0, 0)⟩, ⟨true, aq6, .cells (nArr (dg (Ss))) 27 (0, 0)⟩, ⟨true, aq7, .cells (nArr (dg (St))) 27 (0, 0)⟩, ⟨true, aq8, .cells (nArr (dg (Sa))) 27 (0, 0)⟩, ⟨true, aq9, .cells (nArr (dg (Sb))) 27 (0, 0)⟩, ⟨true, aq5, .cells (nArr (dg (nu))) 27 (0, 0)⟩, ⟨true, aq4, .cells (kArr c) 23 (0, 0)⟩, ⟨true, aq3, .cells z32 23 (0, 0)⟩] [0, 1, 2, 3, 4, 5, 6, 7, 8, 9, 10, 11, 12, 13] (by as_aux_lemma => kernel_rfl) (by as_aux_lemma => kernel_rfl) (by as_aux_lemma => kernel_rfl) (fun β => rfl) (fun fit => ⟨?_, ?_, ?_, ?_, ?_, ?_, ?_, trivial⟩) ?_
      · exact D_val 117 (fun β => by as_aux_lemma => kernel_rfl) (fun β => .agg (nArr (dg (Sa)))) 77 rfl (fun β => by as_aux_lemma => kernel_rfl) (fun β => R_load (own := true) (g := aq8) (all := (nArr (dg (Sa)))) (t := 27) (fr := (0, 0)) 9 (by as_aux_lemma => kernel_rfl) 27 (.tmp 10) rfl 0 (by as_aux_lemma => kernel_rfl) (nArr (dg (Sa))) (part_all _) _ Tryd.underlying27 rfl (by as_aux_lemma => kernel_rfl)) (by as_aux_lemma => kernel_rfl)
      · exact D_val 117 (fun β => by as_aux_lemma => kernel_rfl) (fun β => .agg (nArr (dg (Sb)))) 78 rfl (fun β => by as_aux_lemma => kernel_rfl) (fun β => R_load (own := true) (g := aq9) (all := (nArr (dg (Sb)))) (t := 27) (fr := (0, 0)) 10 (by as_aux_lemma => kernel_rfl) 27 (.tmp 11) rfl 0 (by as_aux_lemma => kernel_rfl) (nArr (dg (Sb))) (part_all _) _ Tryd.underlying27 rfl (by as_aux_lemma => kernel_rfl)) (by as_aux_lemma => kernel_rfl)
      · exact D_call 117 (fun β => by as_aux_lemma => kernel_rfl) (fun β => .agg (nArr (dg (n8)))) 79 rfl (fun β => by as_aux_lemma => kernel_rfl) 34 (fun β => #[.agg (nArr (dg (Sa))), .agg (nArr (dg (Sb)))]) (fun β w => by as_aux_lemma => kernel_rfl) (fun β w hk => Calls.kept (d8 _)) (by as_aux_lemma => kernel_rfl)
      · exact D_val 117 (fun β => by as_aux_lemma => kernel_rfl) (fun β => .agg (nArr (dg (n2)))) 80 rfl (fun β => by as_aux_lemma => kernel_rfl) (fun β => R_load (own := true) (g := aq12) (all := (nArr (dg (n2)))) (t := 27) (fr := (0, 0)) 4 (by as_aux_lemma => kernel_rfl) 27 (.tmp 17) rfl 0 (by as_aux_lemma => kernel_rfl) (nArr (dg (n2))) (part_all _) _ Tryd.underlying27 rfl (by as_aux_lemma => kernel_rfl)) (by as_aux_lemma => kernel_rfl)
      · exact D_call 117 (fun β => by as_aux_lemma => kernel_rfl) (fun β => .agg (nArr (dg (n9)))) 81 rfl (fun β => by as_aux_lemma => kernel_rfl) 35 (fun β => #[.agg (nArr (dg (n8))), .agg (nArr (dg (n2)))]) (fun β w => by as_aux_lemma => kernel_rfl) (fun β w hk => Calls.kept (d9 _)) (by as_aux_lemma => kernel_rfl)
      · exact D_new fit ⟨5, 6, .cells z16 27 (0, 0), .cells (nArr (dg (n9))) 27 (0, 0)⟩ (List.mem_of_getElem? (i := 0) rfl) rfl 117 (fun β => by as_aux_lemma => kernel_rfl) 22 rfl (fun ad => .pointer (some ⟨ad, 0, none⟩)) (fun β w => by as_aux_lemma => kernel_rfl) (fun β => by as_aux_lemma => kernel_rfl) (fun β b => ⟨rfl, .inr rfl, ⟨rfl, .inr rfl, ⟨rfl, .inr rfl, ⟨rfl, .inr rfl, ⟨rfl, .inr rfl, ⟨rfl, .inl rfl, trivial⟩⟩⟩⟩⟩⟩) (by as_aux_lemma => kernel_rfl)
      · exact D_put fit ⟨5, 6, .cells z16 27 (0, 0), .cells (nArr (dg (n9))) 27 (0, 0)⟩ (List.mem_of_getElem? (i := 0) rfl) rfl 117 (fun β => by as_aux_lemma => kernel_rfl) rfl (by as_aux_lemma => kernel_rfl) (fun β w _ hg => P_row rfl rfl (ty := 27) (x := (.tmp 22)) (y := (.tmp 81)) rfl (by as_aux_lemma => kernel_rfl) (by as_aux_lemma => kernel_rfl) (by as_aux_lemma => kernel_rfl) (by as_aux_lemma => kernel_rfl) (by as_aux_lemma => kernel_rfl) hg) (by as_aux_lemma => kernel_rfl)
      clear F H; intro β a v F H
      replace H : Hp [] w [⟨true, (β 5), .cells (nArr (dg (n9))) 27 (0, 0)⟩, ⟨true, aq16, .cells (nArr (dg (n7))) 27 (0, 0)⟩, ⟨true, aq15, .cells (nArr (dg (n5))) 27 (0, 0)⟩, ⟨true, aq14, .cells (nArr (dg (n4))) 27 (0, 0)⟩, ⟨true, aq13, .cells (nArr (dg (n3))) 27 (0, 0)⟩, ⟨true, aq12, .cells (nArr (dg (n2))) 27 (0, 0)⟩, ⟨true, aq11, .cells (nArr (dg (n1))) 27 (0, 0)⟩, ⟨true, aq10, .cells (nArr (dg (Sb))) 27 (0, 0)⟩, ⟨true, aq6, .cells (nArr (dg (Ss))) 27 (0, 0)⟩, ⟨true, aq7, .cells (nArr (dg (St))) 27 (0, 0)⟩, ⟨true, aq8, .cells (nArr (dg (Sa))) 27 (0, 0)⟩, ⟨true, aq9, .cells (nArr (dg (Sb))) 27 (0, 0)⟩, ⟨true, aq5, .cells (nArr (dg (nu))) 27 (0, 0)⟩, ⟨true, aq4, .cells (kArr c) 23 (0, 0)⟩, ⟨true, aq3, .cells z32 23 (0, 0)⟩] v := H
      replace F : Fm 117 [] [(22, .pointer (some ⟨(β 5), 0, none⟩)), (81, .agg (nArr (dg (n9)))), (80, .agg (nArr (dg (n2)))), (79, .agg (nArr (dg (n8)))), (78, .agg (nArr (dg (Sb)))), (77, .agg (nArr (dg (Sa)))), (21, .pointer (some ⟨aq16, 0, none⟩)), (76, .agg (nArr (dg (n7)))), (75, .agg (nArr (dg (n1)))), (74, .agg (nArr (dg (n6)))), (73, .agg (nArr (dg (Sb)))), (72, .agg (nArr (dg (Sa)))), (20, .pointer (some ⟨aq15, 0, none⟩)), (71, .agg (nArr (dg (n5)))), (70, .agg (nArr (dg (n4)))), (69, .agg (nArr (dg (n3)))), (19, .pointer (some ⟨aq14, 0, none⟩)), (68, .agg (nArr (dg (n4)))), (67, .agg (nArr (dg (n2)))), (66, .agg (nArr (dg (n2)))), (18, .pointer (some ⟨aq13, 0, none⟩)), (65, .agg (nArr (dg (n3)))), (64, .agg (nArr (dg (n1)))), (63, .agg (nArr (dg (n1)))), (17, .pointer (some ⟨aq12, 0, none⟩)), (62, .agg (nArr (dg (n2)))), (61, .agg (nArr (dg (St)))), (60, .agg (nArr (dg (Ss)))), (16, .pointer (some ⟨aq11, 0, none⟩)), (59, .agg (nArr (dg (n1)))), (58, .agg (nArr (dg (St)))), (57, .agg (nArr (dg (Ss)))), (12, .int .i64 ((Bool.toNat bt : Nat) : Int)), (56, .int .i64 ((Bool.toNat bt : Nat) : Int)), (55, .agg (nArr (dg (Sb)))), (54, .agg (nArr (dg (St)))), (53, .agg (nArr (dg (Sb)))), (52, .agg (nArr (dg (Sa)))), (51, .agg (nArr (dg (Ss)))), (15, .pointer (some ⟨aq10, 0, none⟩)), (50, .agg (nArr (dg (Sa)))), (49, .bool true), (48, .int .i64 ((Bool.toNat l : Nat) : Int)), (47, .int .i64 ((Bool.toNat bt : Nat) : Int)), (14, .int .i64 ((Bool.toNat bt : Nat) : Int)), (13, .int .i64 ((m : Nat) : Int)), (4, .pointer (some ⟨aq3, 0, none⟩)), (5, .pointer (some ⟨aq4, 0, none⟩)), (6, .pointer (some ⟨aq5, 0, none⟩)), (8, .pointer (some ⟨aq6, 0, none⟩)), (9, .pointer (some ⟨aq7, 0, none⟩)), (10, .pointer (some ⟨aq8, 0, none⟩)), (11, .pointer (some ⟨aq9, 0, none⟩))] a := F.weak _ (⟨rfl, ⟨rfl, ⟨rfl, ⟨rfl, ⟨rfl, ⟨rfl, ⟨rfl, ⟨rfl, ⟨rfl, ⟨rfl, ⟨rfl, ⟨rfl, ⟨rfl, ⟨rfl, ⟨rfl, ⟨rfl, ⟨rfl, ⟨rfl, ⟨rfl, ⟨rfl, ⟨rfl, ⟨rfl, ⟨rfl, ⟨rfl, ⟨rfl, ⟨rfl, ⟨rfl, ⟨rfl, ⟨rfl, ⟨rfl, ⟨rfl, ⟨rfl, ⟨rfl, ⟨rfl, ⟨rfl, ⟨rfl, ⟨rfl, ⟨rfl, ⟨rfl, ⟨rfl, ⟨rfl, ⟨rfl, ⟨rfl, ⟨rfl, ⟨rfl, ⟨rfl, ⟨rfl, ⟨rfl, ⟨rfl, ⟨rfl, ⟨rfl, ⟨rfl, ⟨rfl, trivial⟩⟩⟩⟩⟩⟩⟩⟩⟩⟩⟩⟩⟩⟩⟩⟩⟩⟩⟩⟩⟩⟩⟩⟩⟩⟩⟩⟩⟩⟩⟩⟩⟩⟩⟩⟩⟩⟩⟩⟩⟩⟩⟩⟩⟩⟩⟩⟩⟩⟩⟩⟩⟩)
      generalize β 5 = aq17 at F H
      refine hK _ _ ?_
      clear hK K
      refine C_seqK (fun K hK => ?_)
      refine D_region F H (fun β => [(82, .agg (nArr (dg (n7)))), (83, .agg (nArr (dg (n9)))), (84, .agg (nArr (dg (n10)))), (85, .agg (nArr (dg (n7)))), (86, .agg (nArr (dg (n9)))), (87, .agg (nArr (dg (n10)))), (88, .agg (nArr (dg (n11))))]) [82, 83, 84, 85, 86, 87, 88] [] [⟨aq8, 7, .cells (nArr (dg (Sa))) 27 (0, 0), .cells (nArr (dg (n11))) 27 (0, 0)⟩] [⟨true, aq17, .cells (nArr (dg (n9))) 27 (0, 0)⟩, ⟨true, aq16, .cells (nArr (dg (n7))) 27 (0, 0)⟩, ⟨true, aq15, .cells (nArr (dg (n5))) 27 (0, 0)⟩, ⟨true, aq14, .cells (nArr (dg (n4))) 27 (0, 0)⟩, ⟨true, aq13, .cells (nArr (dg (n3))) 27 (0, 0)⟩, ⟨true, aq12, .cells (nArr (dg (n2))) 27 (0, 0)⟩, ⟨true, aq11, .cells (nArr (dg (n1))) 27 (0, 0)⟩, ⟨true, aq10, .cells (nArr (dg (Sb))) 27 (0, 0)⟩, ⟨true, aq6, .cells (nArr (dg (Ss))) 27 (0, 0)⟩, ⟨true, aq7, .cells (nArr (dg (St))) 27 (0, 0)⟩, ⟨true, aq9, .cells (nArr (dg (Sb))) 27 (0, 0)⟩, ⟨true, aq5, .cells (nArr (dg (nu))) 27 (0, 0)⟩, ⟨true, aq4, .cells (kArr c) 23 (0, 0)⟩, ⟨true, aq3, .cells z32 23 (0, 0)⟩] [10, 0, 1, 2, 3, 4, 5, 6, 7, 8, 9, 11, 12, 13, 14] (by as_aux_lemma => kernel_rfl) (by as_aux_lemma => kernel_rfl) (by as_aux_lemma => kernel_rfl) (fun β => rfl) (fun fit => ⟨?_, ?_, ?_, ?_, ?_, ?_, ?_, ?_, trivial⟩) ?_
      · exact D_val 117 (fun β => by as_aux_lemma => kernel_rfl) (fun β => .agg (nArr (dg (n7)))) 82 rfl (fun β => by as_aux_lemma => kernel_rfl) (fun β => R_load (own := true) (g := aq16) (all := (nArr (dg (n7)))) (t := 27) (fr := (0, 0)) 1 (by as_aux_lemma => kernel_rfl) 27 (.tmp 21) rfl 0 (by as_aux_lemma => kernel_rfl) (nArr (dg (n7))) (part_all _) _ Tryd.underlying27 rfl (by as_aux_lemma => kernel_rfl)) (by as_aux_lemma => kernel_rfl)
      · exact D_val 117 (fun β => by as_aux_lemma => kernel_rfl) (fun β => .agg (nArr (dg (n9)))) 83 rfl (fun β => by as_aux_lemma => kernel_rfl) (fun β => R_load (own := true) (g := aq17) (all := (nArr (dg (n9)))) (t := 27) (fr := (0, 0)) 0 (by as_aux_lemma => kernel_rfl) 27 (.tmp 22) rfl 0 (by as_aux_lemma => kernel_rfl) (nArr (dg (n9))) (part_all _) _ Tryd.underlying27 rfl (by as_aux_lemma => kernel_rfl)) (by as_aux_lemma => kernel_rfl)
      · exact D_call 117 (fun β => by as_aux_lemma => kernel_rfl) (fun β => .agg (nArr (dg (n10)))) 84 rfl (fun β => by as_aux_lemma => kernel_rfl) 34 (fun β => #[.agg (nArr (dg (n7))), .agg (nArr (dg (n9)))]) (fun β w => by as_aux_lemma => kernel_rfl) (fun β w hk => Calls.kept (d10 _)) (by as_aux_lemma => kernel_rfl)
      · exact D_val 117 (fun β => by as_aux_lemma => kernel_rfl) (fun β => .agg (nArr (dg (n7)))) 85 rfl (fun β => by as_aux_lemma => kernel_rfl) (fun β => R_load (own := true) (g := aq16) (all := (nArr (dg (n7)))) (t := 27) (fr := (0, 0)) 1 (by as_aux_lemma => kernel_rfl) 27 (.tmp 21) rfl 0 (by as_aux_lemma => kernel_rfl) (nArr (dg (n7))) (part_all _) _ Tryd.underlying27 rfl (by as_aux_lemma => kernel_rfl)) (by as_aux_lemma => kernel_rfl)
      · exact D_val 117 (fun β => by as_aux_lemma => kernel_rfl) (fun β => .agg (nArr (dg (n9)))) 86 rfl (fun β => by as_aux_lemma => kernel_rfl) (fun β => R_load (own := true) (g := aq17) (all := (nArr (dg (n9)))) (t := 27) (fr := (0, 0)) 0 (by as_aux_lemma => kernel_rfl) 27 (.tmp 22) rfl 0 (by as_aux_lemma => kernel_rfl) (nArr (dg (n9))) (part_all _) _ Tryd.underlying27 rfl (by as_aux_lemma => kernel_rfl)) (by as_aux_lemma => kernel_rfl)
      · exact D_call 117 (fun β => by as_aux_lemma => kernel_rfl) (fun β => .agg (nArr (dg (n10)))) 87 rfl (fun β => by as_aux_lemma => kernel_rfl) 34 (fun β => #[.agg (nArr (dg (n7))), .agg (nArr (dg (n9)))]) (fun β w => by as_aux_lemma => kernel_rfl) (fun β w hk => Calls.kept (d10 _)) (by as_aux_lemma => kernel_rfl)
      · exact D_call 117 (fun β => by as_aux_lemma => kernel_rfl) (fun β => .agg (nArr (dg (n11)))) 88 rfl (fun β => by as_aux_lemma => kernel_rfl) 35 (fun β => #[.agg (nArr (dg (n10))), .agg (nArr (dg (n10)))]) (fun β w => by as_aux_lemma => kernel_rfl) (fun β w hk => Calls.kept (d11 _)) (by as_aux_lemma => kernel_rfl)
      · exact D_putF fit ⟨aq8, 7, .cells (nArr (dg (Sa))) 27 (0, 0), .cells (nArr (dg (n11))) 27 (0, 0)⟩ (List.mem_of_getElem? (i := 0) rfl) rfl 117 (fun β => by as_aux_lemma => kernel_rfl) rfl (fun β w _ hg => P_row rfl rfl (ty := 27) (x := (.tmp 10)) (y := (.tmp 88)) rfl (by as_aux_lemma => kernel_rfl) (by as_aux_lemma => kernel_rfl) (by as_aux_lemma => kernel_rfl) (by as_aux_lemma => kernel_rfl) (by as_aux_lemma => kernel_rfl) hg) (by as_aux_lemma => kernel_rfl)
      clear F H; intro β a v F H
      replace H : Hp [] w [⟨true, aq8, .cells (nArr (dg (n11))) 27 (0, 0)⟩, ⟨true, aq17, .cells (nArr (dg (n9))) 27 (0, 0)⟩, ⟨true, aq16, .cells (nArr (dg (n7))) 27 (0, 0)⟩, ⟨true, aq15, .cells (nArr (dg (n5))) 27 (0, 0)⟩, ⟨true, aq14, .cells (nArr (dg (n4))) 27 (0, 0)⟩, ⟨true, aq13, .cells (nArr (dg (n3))) 27 (0, 0)⟩, ⟨true, aq12, .cells (nArr (dg (n2))) 27 (0, 0)⟩, ⟨true, aq11, .cells (nArr (dg (n1))) 27 (0, 0)⟩, ⟨true, aq10, .cells (nArr (dg (Sb))) 27 (0, 0)⟩, ⟨true, aq6, .cells (nArr (dg (Ss))) 27 (0, 0)⟩, ⟨true, aq7, .cells (nArr (dg (St))) 27 (0, 0)⟩, ⟨true, aq9, .cells (nArr (dg (Sb))) 27 (0, 0)⟩, ⟨true, aq5, .cells (nArr (dg (nu))) 27 (0, 0)⟩, ⟨true, aq4, .cells (kArr c) 23 (0, 0)⟩, ⟨true, aq3, .cells z32 23 (0, 0)⟩] v := H
      replace F : Fm 117 [] [(88, .agg (nArr (dg (n11)))), (87, .agg (nArr (dg (n10)))), (86, .agg (nArr (dg (n9)))), (85, .agg (nArr (dg (n7)))), (84, .agg (nArr (dg (n10)))), (83, .agg (nArr (dg (n9)))), (82, .agg (nArr (dg (n7)))), (22, .pointer (some ⟨aq17, 0, none⟩)), (81, .agg (nArr (dg (n9)))), (80, .agg (nArr (dg (n2)))), (79, .agg (nArr (dg (n8)))), (78, .agg (nArr (dg (Sb)))), (77, .agg (nArr (dg (Sa)))), (21, .pointer (some ⟨aq16, 0, none⟩)), (76, .agg (nArr (dg (n7)))), (75, .agg (nArr (dg (n1)))), (74, .agg (nArr (dg (n6)))), (73, .agg (nArr (dg (Sb)))), (72, .agg (nArr (dg (Sa)))), (20, .pointer (some ⟨aq15, 0, none⟩)), (71, .agg (nArr (dg (n5)))), (70, .agg (nArr (dg (n4)))), (69, .agg (nArr (dg (n3)))), (19, .pointer (some ⟨aq14, 0, none⟩)), (68, .agg (nArr (dg (n4)))), (67, .agg (nArr (dg (n2)))), (66, .agg (nArr (dg (n2)))), (18, .pointer (some ⟨aq13, 0, none⟩)), (65, .agg (nArr (dg (n3)))), (64, .agg (nArr (dg (n1)))), (63, .agg (nArr (dg (n1)))), (17, .pointer (some ⟨aq12, 0, none⟩)), (62, .agg (nArr (dg (n2)))), (61, .agg (nArr (dg (St)))), (60, .agg (nArr (dg (Ss)))), (16, .pointer (some ⟨aq11, 0, none⟩)), (59, .agg (nArr (dg (n1)))), (58, .agg (nArr (dg (St)))), (57, .agg (nArr (dg (Ss)))), (12, .int .i64 ((Bool.toNat bt : Nat) : Int)), (56, .int .i64 ((Bool.toNat bt : Nat) : Int)), (55, .agg (nArr (dg (Sb)))), (54, .agg (nArr (dg (St)))), (53, .agg (nArr (dg (Sb)))), (52, .agg (nArr (dg (Sa)))), (51, .agg (nArr (dg (Ss)))), (15, .pointer (some ⟨aq10, 0, none⟩)), (50, .agg (nArr (dg (Sa)))), (49, .bool true), (48, .int .i64 ((Bool.toNat l : Nat) : Int)), (47, .int .i64 ((Bool.toNat bt : Nat) : Int)), (14, .int .i64 ((Bool.toNat bt : Nat) : Int)), (13, .int .i64 ((m : Nat) : Int)), (4, .pointer (some ⟨aq3, 0, none⟩)), (5, .pointer (some ⟨aq4, 0, none⟩)), (6, .pointer (some ⟨aq5, 0, none⟩)), (8, .pointer (some ⟨aq6, 0, none⟩)), (9, .pointer (some ⟨aq7, 0, none⟩)), (10, .pointer (some ⟨aq8, 0, none⟩)), (11, .pointer (some ⟨aq9, 0, none⟩))] a := F.weak _ (⟨rfl, ⟨rfl, ⟨rfl, ⟨rfl, ⟨rfl, ⟨rfl, ⟨rfl, ⟨rfl, ⟨rfl, ⟨rfl, ⟨rfl, ⟨rfl, ⟨rfl, ⟨rfl, ⟨rfl, ⟨rfl, ⟨rfl, ⟨rfl, ⟨rfl, ⟨rfl, ⟨rfl, ⟨rfl, ⟨rfl, ⟨rfl, ⟨rfl, ⟨rfl, ⟨rfl, ⟨rfl, ⟨rfl, ⟨rfl, ⟨rfl, ⟨rfl, ⟨rfl, ⟨rfl, ⟨rfl, ⟨rfl, ⟨rfl, ⟨rfl, ⟨rfl, ⟨rfl, ⟨rfl, ⟨rfl, ⟨rfl, ⟨rfl, ⟨rfl, ⟨rfl, ⟨rfl, ⟨rfl, ⟨rfl, ⟨rfl, ⟨rfl, ⟨rfl, ⟨rfl, ⟨rfl, ⟨rfl, ⟨rfl, ⟨rfl, ⟨rfl, ⟨rfl, ⟨rfl, trivial⟩⟩⟩⟩⟩⟩⟩⟩⟩⟩⟩⟩⟩⟩⟩⟩⟩⟩⟩⟩⟩⟩⟩⟩⟩⟩⟩⟩⟩⟩⟩⟩⟩⟩⟩⟩⟩⟩⟩⟩⟩⟩⟩⟩⟩⟩⟩⟩⟩⟩⟩⟩⟩⟩⟩⟩⟩⟩⟩⟩)
      refine hK _ _ ?_
      clear hK K
      refine C_seqK (fun K hK => ?_)
      refine D_region F H (fun β => [(89, .agg (nArr (dg (nu)))), (90, .agg (nArr (dg (n7)))), (91, .agg (nArr (dg (n9)))), (92, .agg (nArr (dg (n12)))), (93, .agg (nArr (dg (n7)))), (94, .agg (nArr (dg (n9)))), (95, .agg (nArr (dg (n12)))), (96, .agg (nArr (dg (n13)))), (97, .agg (nArr (dg (n14))))]) [89, 90, 91, 92, 93, 94, 95, 96, 97] [] [⟨aq9, 9, .cells (nArr (dg (Sb))) 27 (0, 0), .cells (nArr (dg (n14))) 27 (0, 0)⟩] [⟨true, aq8, .cells (nArr (dg (n11))) 27 (0, 0)⟩, ⟨true, aq17, .cells (nArr (dg (n9))) 27 (0, 0)⟩, ⟨true, aq16, .cells (nArr (dg (n7))) 27 (0, 0)⟩, ⟨true, aq15, .cells (nArr (dg (n5))) 27 (0, 0)⟩, ⟨true, aq14, .cells (nArr (dg (n4))) 27 (0, 0)⟩, ⟨true, aq13, .cells (nArr (dg (n3))) 27 (0, 0)⟩, ⟨true, aq12, .cells (nArr (dg (n2))) 27 (0, 0)⟩, ⟨true, aq11, .cells (nArr (dg (n1))) 27 (0, 0)⟩, ⟨true, aq10, .cells (nArr (dg (Sb))) 27 (0, 0)⟩, ⟨true, aq6, .cells (nArr (dg (Ss))) 27 (0, 0)⟩, ⟨true, aq7, .cells (nArr (dg (St))) 27 (0, 0)⟩, ⟨true, aq5, .cells (nArr (dg (nu))) 27 (0, 0)⟩, ⟨true, aq4, .cells (kArr c) 23 (0, 0)⟩, ⟨true, aq3, .cells z32 23 (0, 0)⟩] [11, 0, 1, 2, 3, 4, 5, 6, 7, 8, 9, 10, 12, 13, 14] (by as_aux_lemma => kernel_rfl) (by as_aux_lemma => kernel_rfl) (by as_aux_lemma => kernel_rfl) (fun β => rfl) (fun fit => ⟨?_, ?_, ?_, ?_, ?_, ?_, ?_, ?_, ?_, ?_, trivial⟩) ?_
      · exact D_val 117 (fun β => by as_aux_lemma => kernel_rfl) (fun β => .agg (nArr (dg (nu)))) 89 rfl (fun β => by as_aux_lemma => kernel_rfl) (fun β => R_load (own := true) (g := aq5) (all := (nArr (dg (nu)))) (t := 27) (fr := (0, 0)) 11 (by as_aux_lemma => kernel_rfl) 27 (.tmp 6) rfl 0 (by as_aux_lemma => kernel_rfl) (nArr (dg (nu))) (part_all _) _ Tryd.underlying27 rfl (by as_aux_lemma => kernel_rfl)) (by as_aux_lemma => kernel_rfl)
      · exact D_val 117 (fun β => by as_aux_lemma => kernel_rfl) (fun β => .agg (nArr (dg (n7)))) 90 rfl (fun β => by as_aux_lemma => kernel_rfl) (fun β => R_load (own := true) (g := aq16) (all := (nArr (dg (n7)))) (t := 27) (fr := (0, 0)) 2 (by as_aux_lemma => kernel_rfl) 27 (.tmp 21) rfl 0 (by as_aux_lemma => kernel_rfl) (nArr (dg (n7))) (part_all _) _ Tryd.underlying27 rfl (by as_aux_lemma => kernel_rfl)) (by as_aux_lemma => kernel_rfl)
      · exact D_val 117 (fun β => by as_aux_lemma => kernel_rfl) (fun β => .agg (nArr (dg (n9)))) 91 rfl (fun β => by as_aux_lemma => kernel_rfl) (fun β => R_load (own := true) (g := aq17) (all := (nArr (dg (n9)))) (t := 27) (fr := (0, 0)) 1 (by as_aux_lemma => kernel_rfl) 27 (.tmp 22) rfl 0 (by as_aux_lemma => kernel_rfl) (nArr (dg (n9))) (part_all _) _ Tryd.underlying27 rfl (by as_aux_lemma => kernel_rfl)) (by as_aux_lemma => kernel_rfl)
      · exact D_call 117 (fun β => by as_aux_lemma => kernel_rfl) (fun β => .agg (nArr (dg (n12)))) 92 rfl (fun β => by as_aux_lemma => kernel_rfl) 36 (fun β => #[.agg (nArr (dg (n7))), .agg (nArr (dg (n9)))]) (fun β w => by as_aux_lemma => kernel_rfl) (fun β w hk => Calls.kept (d12 _)) (by as_aux_lemma => kernel_rfl)
      · exact D_val 117 (fun β => by as_aux_lemma => kernel_rfl) (fun β => .agg (nArr (dg (n7)))) 93 rfl (fun β => by as_aux_lemma => kernel_rfl) (fun β => R_load (own := true) (g := aq16) (all := (nArr (dg (n7)))) (t := 27) (fr := (0, 0)) 2 (by as_aux_lemma => kernel_rfl) 27 (.tmp 21) rfl 0 (by as_aux_lemma => kernel_rfl) (nArr (dg (n7))) (part_all _) _ Tryd.underlying27 rfl (by as_aux_lemma => kernel_rfl)) (by as_aux_lemma => kernel_rfl)
      · exact D_val 117 (fun β => by as_aux_lemma => kernel_rfl) (fun β => .agg (nArr (dg (n9)))) 94 rfl (fun β => by as_aux_lemma => kernel_rfl) (fun β => R_load (own := true) (g := aq17) (all := (nArr (dg (n9)))) (t := 27) (fr := (0, 0)) 1 (by as_aux_lemma => kernel_rfl) 27 (.tmp 22) rfl 0 (by as_aux_lemma => kernel_rfl) (nArr (dg (n9))) (part_all _) _ Tryd.underlying27 rfl (by as_aux_lemma => kernel_rfl)) (by as_aux_lemma => kernel_rfl)
      · exact D_call 117 (fun β => by as_aux_lemma => kernel_rfl) (fun β => .agg (nArr (dg (n12)))) 95 rfl (fun β => by as_aux_lemma => kernel_rfl) 36 (fun β => #[.agg (nArr (dg (n7))), .agg (nArr (dg (n9)))]) (fun β w => by as_aux_lemma => kernel_rfl) (fun β w hk => Calls.kept (d12 _)) (by as_aux_lemma => kernel_rfl)
      · exact D_call 117 (fun β => by as_aux_lemma => kernel_rfl) (fun β => .agg (nArr (dg (n13)))) 96 rfl (fun β => by as_aux_lemma => kernel_rfl) 35 (fun β => #[.agg (nArr (dg (n12))), .agg (nArr (dg (n12)))]) (fun β w => by as_aux_lemma => kernel_rfl) (fun β w hk => Calls.kept (d13 _)) (by as_aux_lemma => kernel_rfl)
      · exact D_call 117 (fun β => by as_aux_lemma => kernel_rfl) (fun β => .agg (nArr (dg (n14)))) 97 rfl (fun β => by as_aux_lemma => kernel_rfl) 35 (fun β => #[.agg (nArr (dg (nu))), .agg (nArr (dg (n13)))]) (fun β w => by as_aux_lemma => kernel_rfl) (fun β w hk => Calls.kept (d14 _)) (by as_aux_lemma => kernel_rfl)
      · exact D_putF fit ⟨aq9, 9, .cells (nArr (dg (Sb))) 27 (0, 0), .cells (nArr (dg (n14))) 27 (0, 0)⟩ (List.mem_of_getElem? (i := 0) rfl) rfl 117 (fun β => by as_aux_lemma => kernel_rfl) rfl (fun β w _ hg => P_row rfl rfl (ty := 27) (x := (.tmp 11)) (y := (.tmp 97)) rfl (by as_aux_lemma => kernel_rfl) (by as_aux_lemma => kernel_rfl) (by as_aux_lemma => kernel_rfl) (by as_aux_lemma => kernel_rfl) (by as_aux_lemma => kernel_rfl) hg) (by as_aux_lemma => kernel_rfl)
      clear F H; intro β a v F H
      replace H : Hp [] w [⟨true, aq9, .cells (nArr (dg (n14))) 27 (0, 0)⟩, ⟨true, aq8, .cells (nArr (dg (n11))) 27 (0, 0)⟩, ⟨true, aq17, .cells (nArr (dg (n9))) 27 (0, 0)⟩, ⟨true, aq16, .cells (nArr (dg (n7))) 27 (0, 0)⟩, ⟨true, aq15, .cells (nArr (dg (n5))) 27 (0, 0)⟩, ⟨true, aq14, .cells (nArr (dg (n4))) 27 (0, 0)⟩, ⟨true, aq13, .cells (nArr (dg (n3))) 27 (0, 0)⟩, ⟨true, aq12, .cells (nArr (dg (n2))) 27 (0, 0)⟩, ⟨true, aq11, .cells (nArr (dg (n1))) 27 (0, 0)⟩, ⟨true, aq10, .cells (nArr (dg (Sb))) 27 (0, 0)⟩, ⟨true, aq6, .cells (nArr (dg (Ss))) 27 (0, 0)⟩, ⟨true, aq7, .cells (nArr (dg (St))) 27 (0, 0)⟩, ⟨true, aq5, .cells (nArr (dg (nu))) 27 (0, 0)⟩, ⟨true, aq4, .cells (kArr c) 23 (0, 0)⟩, ⟨true, aq3, .cells z32 23 (0, 0)⟩] v := H
      replace F : Fm 117 [] [(97, .agg (nArr (dg (n14)))), (96, .agg (nArr (dg (n13)))), (95, .agg (nArr (dg (n12)))), (94, .agg (nArr (dg (n9)))), (93, .agg (nArr (dg (n7)))), (92, .agg (nArr (dg (n12)))), (91, .agg (nArr (dg (n9)))), (90, .agg (nArr (dg (n7)))), (89, .agg (nArr (dg (nu)))), (88, .agg (nArr (dg (n11)))), (87, .agg (nArr (dg (n10)))), (86, .agg (nArr (dg (n9)))), (85, .agg (nArr (dg (n7)))), (84, .agg (nArr (dg (n10)))), (83, .agg (nArr (dg (n9)))), (82, .agg (nArr (dg (n7)))), (22, .pointer (some ⟨aq17, 0, none⟩)), (81, .agg (nArr (dg (n9)))), (80, .agg (nArr (dg (n2)))), (79, .agg (nArr (dg (n8)))), (78, .agg (nArr (dg (Sb)))), (77, .agg (nArr (dg (Sa)))), (21, .pointer (some ⟨aq16, 0, none⟩)), (76, .agg (nArr (dg (n7)))), (75, .agg (nArr (dg (n1)))), (74, .agg (nArr (dg (n6)))), (73, .agg (nArr (dg (Sb)))), (72, .agg (nArr (dg (Sa)))), (20, .pointer (some ⟨aq15, 0, none⟩)), (71, .agg (nArr (dg (n5)))), (70, .agg (nArr (dg (n4)))), (69, .agg (nArr (dg (n3)))), (19, .pointer (some ⟨aq14, 0, none⟩)), (68, .agg (nArr (dg (n4)))), (67, .agg (nArr (dg (n2)))), (66, .agg (nArr (dg (n2)))), (18, .pointer (some ⟨aq13, 0, none⟩)), (65, .agg (nArr (dg (n3)))), (64, .agg (nArr (dg (n1)))), (63, .agg (nArr (dg (n1)))), (17, .pointer (some ⟨aq12, 0, none⟩)), (62, .agg (nArr (dg (n2)))), (61, .agg (nArr (dg (St)))), (60, .agg (nArr (dg (Ss)))), (16, .pointer (some ⟨aq11, 0, none⟩)), (59, .agg (nArr (dg (n1)))), (58, .agg (nArr (dg (St)))), (57, .agg (nArr (dg (Ss)))), (12, .int .i64 ((Bool.toNat bt : Nat) : Int)), (56, .int .i64 ((Bool.toNat bt : Nat) : Int)), (55, .agg (nArr (dg (Sb)))), (54, .agg (nArr (dg (St)))), (53, .agg (nArr (dg (Sb)))), (52, .agg (nArr (dg (Sa)))), (51, .agg (nArr (dg (Ss)))), (15, .pointer (some ⟨aq10, 0, none⟩)), (50, .agg (nArr (dg (Sa)))), (49, .bool true), (48, .int .i64 ((Bool.toNat l : Nat) : Int)), (47, .int .i64 ((Bool.toNat bt : Nat) : Int)), (14, .int .i64 ((Bool.toNat bt : Nat) : Int)), (13, .int .i64 ((m : Nat) : Int)), (4, .pointer (some ⟨aq3, 0, none⟩)), (5, .pointer (some ⟨aq4, 0, none⟩)), (6, .pointer (some ⟨aq5, 0, none⟩)), (8, .pointer (some ⟨aq6, 0, none⟩)), (9, .pointer (some ⟨aq7, 0, none⟩)), (10, .pointer (some ⟨aq8, 0, none⟩)), (11, .pointer (some ⟨aq9, 0, none⟩))] a := F.weak _ (⟨rfl, ⟨rfl, ⟨rfl, ⟨rfl, ⟨rfl, ⟨rfl, ⟨rfl, ⟨rfl, ⟨rfl, ⟨rfl, ⟨rfl, ⟨rfl, ⟨rfl, ⟨rfl, ⟨rfl, ⟨rfl, ⟨rfl, ⟨rfl, ⟨rfl, ⟨rfl, ⟨rfl, ⟨rfl, ⟨rfl, ⟨rfl, ⟨rfl, ⟨rfl, ⟨rfl, ⟨rfl, ⟨rfl, ⟨rfl, ⟨rfl, ⟨rfl, ⟨rfl, ⟨rfl, ⟨rfl, ⟨rfl, ⟨rfl, ⟨rfl, ⟨rfl, ⟨rfl, ⟨rfl, ⟨rfl, ⟨rfl, ⟨rfl, ⟨rfl, ⟨rfl, ⟨rfl, ⟨rfl, ⟨rfl, ⟨rfl, ⟨rfl, ⟨rfl, ⟨rfl, ⟨rfl, ⟨rfl, ⟨rfl, ⟨rfl, ⟨rfl, ⟨rfl, ⟨rfl, ⟨rfl, ⟨rfl, ⟨rfl, ⟨rfl, ⟨rfl, ⟨rfl, ⟨rfl, ⟨rfl, ⟨rfl, trivial⟩⟩⟩⟩⟩⟩⟩⟩⟩⟩⟩⟩⟩⟩⟩⟩⟩⟩⟩⟩⟩⟩⟩⟩⟩⟩⟩⟩⟩⟩⟩⟩⟩⟩⟩⟩⟩⟩⟩⟩⟩⟩⟩⟩⟩⟩⟩⟩⟩⟩⟩⟩⟩⟩⟩⟩⟩⟩⟩⟩⟩⟩⟩⟩⟩⟩⟩⟩⟩)
      refine hK _ _ ?_
      clear hK K
      refine C_seqK (fun K hK => ?_)
      refine C_region ?_
      refine T_val F H (by as_aux_lemma => kernel_rfl) (.agg (nArr (dg (n3)))) (R_load (own := true) (g := aq13) (all := (nArr (dg (n3)))) (t := 27) (fr := (0, 0)) 6 (by as_aux_lemma => kernel_rfl) 27 (.tmp 18) rfl 0 (by as_aux_lemma => kernel_rfl) (nArr (dg (n3))) (part_all _) _ Tryd.underlying27 rfl (by as_aux_lemma => kernel_rfl)) ?_
      clear F; intro a F
      refine T_val F H (by as_aux_lemma => kernel_rfl) (.agg (nArr (dg (n4)))) (R_load (own := true) (g := aq14) (all := (nArr (dg (n4)))) (t := 27) (fr := (0, 0)) 5 (by as_aux_lemma => kernel_rfl) 27 (.tmp 19) rfl 0 (by as_aux_lemma => kernel_rfl) (nArr (dg (n4))) (part_all _) _ Tryd.underlying27 rfl (by as_aux_lemma => kernel_rfl)) ?_
      clear F; intro a F
      refine T_call F H (by as_aux_lemma => kernel_rfl) 35 #[.agg (nArr (dg (n3))), .agg (nArr (dg (n4)))] (.agg (nArr (dg (n15)))) (fun w => by as_aux_lemma => kernel_rfl) (Calls.kept (d15 _)) ?_
      clear F H; intro a v F H
      refine T_set F H (by as_aux_lemma => kernel_rfl) rfl 10 rfl (nArr (dg (n15))) (S_row 10 rfl 27 (.tmp 8) (.tmp 100) rfl (by as_aux_lemma => kernel_rfl) (nArr (dg (n15))) (by as_aux_lemma => kernel_rfl) (by as_aux_lemma => kernel_rfl) (by as_aux_lemma => kernel_rfl) (by as_aux_lemma => kernel_rfl)) [⟨true, aq9, .cells (nArr (dg (n14))) 27 (0, 0)⟩, ⟨true, aq8, .cells (nArr (dg (n11))) 27 (0, 0)⟩, ⟨true, aq17, .cells (nArr (dg (n9))) 27 (0, 0)⟩, ⟨true, aq16, .cells (nArr (dg (n7))) 27 (0, 0)⟩, ⟨true, aq15, .cells (nArr (dg (n5))) 27 (0, 0)⟩, ⟨true, aq14, .cells (nArr (dg (n4))) 27 (0, 0)⟩, ⟨true, aq13, .cells (nArr (dg (n3))) 27 (0, 0)⟩, ⟨true, aq12, .cells (nArr (dg (n2))) 27 (0, 0)⟩, ⟨true, aq11, .cells (nArr (dg (n1))) 27 (0, 0)⟩, ⟨true, aq10, .cells (nArr (dg (Sb))) 27 (0, 0)⟩, ⟨true, aq6, .cells (nArr (dg (n15))) 27 (0, 0)⟩, ⟨true, aq7, .cells (nArr (dg (St))) 27 (0, 0)⟩, ⟨true, aq5, .cells (nArr (dg (nu))) 27 (0, 0)⟩, ⟨true, aq4, .cells (kArr c) 23 (0, 0)⟩, ⟨true, aq3, .cells z32 23 (0, 0)⟩] rfl ?_
      clear F H; intro a v F H
      refine T_end (hK _ _ ?_)
      clear hK K
      refine D_region F H (fun β => [(101, .agg (nArr (dg (n5)))), (102, .agg (nArr (dg (n3)))), (103, .agg (nArr (dg (121665)))), (104, .agg (nArr (dg (n5)))), (105, .agg (nArr (dg (n16)))), (106, .agg (nArr (dg (n17)))), (107, .agg (nArr (dg (n18))))]) [101, 102, 103, 104, 105, 106, 107] [] [⟨aq7, 7, .cells (nArr (dg (St))) 27 (0, 0), .cells (nArr (dg (n18))) 27 (0, 0)⟩] [⟨true, aq9, .cells (nArr (dg (n14))) 27 (0, 0)⟩, ⟨true, aq8, .cells (nArr (dg (n11))) 27 (0, 0)⟩, ⟨true, aq17, .cells (nArr (dg (n9))) 27 (0, 0)⟩, ⟨true, aq16, .cells (nArr (dg (n7))) 27 (0, 0)⟩, ⟨true, aq15, .cells (nArr (dg (n5))) 27 (0, 0)⟩, ⟨true, aq14, .cells (nArr (dg (n4))) 27 (0, 0)⟩, ⟨true, aq13, .cells (nArr (dg (n3))) 27 (0, 0)⟩, ⟨true, aq12, .cells (nArr (dg (n2))) 27 (0, 0)⟩, ⟨true, aq11, .cells (nArr (dg (n1))) 27 (0, 0)⟩, ⟨true, aq10, .cells (nArr (dg (Sb))) 27 (0, 0)⟩, ⟨true, aq6, .cells (nArr (dg (n15))) 27 (0, 0)⟩, ⟨true, aq5, .cells (nArr (dg (nu))) 27 (0, 0)⟩, ⟨true, aq4, .cells (kArr c) 23 (0, 0)⟩, ⟨true, aq3, .cells z32 23 (0, 0)⟩] [11, 0, 1, 2, 3, 4, 5, 6, 7, 8, 9, 10, 12, 13, 14] (by as_aux_lemma => kernel_rfl) (by as_aux_lemma => kernel_rfl) (by as_aux_lemma => kernel_rfl) (fun β => rfl) (fun fit => ⟨?_, ?_, ?_, ?_, ?_, ?_, ?_, ?_, trivial⟩) ?_
      · exact D_val 117 (fun β => by as_aux_lemma => kernel_rfl) (fun β => .agg (nArr (dg (n5)))) 101 rfl (fun β => by as_aux_lemma => kernel_rfl) (fun β => R_load (own := true) (g := aq15) (all := (nArr (dg (n5)))) (t := 27) (fr := (0, 0)) 4 (by as_aux_lemma => kernel_rfl) 27 (.tmp 20) rfl 0 (by as_aux_lemma => kernel_rfl) (nArr (dg (n5))) (part_all _) _ Tryd.underlying27 rfl (by as_aux_lemma => kernel_rfl)) (by as_aux_lemma => kernel_rfl)
      · exact D_val 117 (fun β => by as_aux_lemma => kernel_rfl) (fun β => .agg (nArr (dg (n3)))) 102 rfl (fun β => by as_aux_lemma => kernel_rfl) (fun β => R_load (own := true) (g := aq13) (all := (nArr (dg (n3)))) (t := 27) (fr := (0, 0)) 6 (by as_aux_lemma => kernel_rfl) 27 (.tmp 18) rfl 0 (by as_aux_lemma => kernel_rfl) (nArr (dg (n3))) (part_all _) _ Tryd.underlying27 rfl (by as_aux_lemma => kernel_rfl)) (by as_aux_lemma => kernel_rfl)
      · exact D_call 117 (fun β => by as_aux_lemma => kernel_rfl) (fun β => .agg (nArr (dg (121665)))) 103 rfl (fun β => by as_aux_lemma => kernel_rfl) 31 (fun β => #[.int .u64 121665]) (fun β w => by as_aux_lemma => kernel_rfl) (fun β w hk => Calls.kept (sk _)) (by as_aux_lemma => kernel_rfl)
      · exact D_val 117 (fun β => by as_aux_lemma => kernel_rfl) (fun β => .agg (nArr (dg (n5)))) 104 rfl (fun β => by as_aux_lemma => kernel_rfl) (fun β => R_load (own := true) (g := aq15) (all := (nArr (dg (n5)))) (t := 27) (fr := (0, 0)) 4 (by as_aux_lemma => kernel_rfl) 27 (.tmp 20) rfl 0 (by as_aux_lemma => kernel_rfl) (nArr (dg (n5))) (part_all _) _ Tryd.underlying27 rfl (by as_aux_lemma => kernel_rfl)) (by as_aux_lemma => kernel_rfl)
      · exact D_call 117 (fun β => by as_aux_lemma => kernel_rfl) (fun β => .agg (nArr (dg (n16)))) 105 rfl (fun β => by as_aux_lemma => kernel_rfl) 35 (fun β => #[.agg (nArr (dg (121665))), .agg (nArr (dg (n5)))]) (fun β w => by as_aux_lemma => kernel_rfl) (fun β w hk => Calls.kept (d16 _)) (by as_aux_lemma => kernel_rfl)
      · exact D_call 117 (fun β => by as_aux_lemma => kernel_rfl) (fun β => .agg (nArr (dg (n17)))) 106 rfl (fun β => by as_aux_lemma => kernel_rfl) 34 (fun β => #[.agg (nArr (dg (n3))), .agg (nArr (dg (n16)))]) (fun β w => by as_aux_lemma => kernel_rfl) (fun β w hk => Calls.kept (d17 _)) (by as_aux_lemma => kernel_rfl)
      · exact D_call 117 (fun β => by as_aux_lemma => kernel_rfl) (fun β => .agg (nArr (dg (n18)))) 107 rfl (fun β => by as_aux_lemma => kernel_rfl) 35 (fun β => #[.agg (nArr (dg (n5))), .agg (nArr (dg (n17)))]) (fun β w => by as_aux_lemma => kernel_rfl) (fun β w hk => Calls.kept (d18 _)) (by as_aux_lemma => kernel_rfl)
      · exact D_putF fit ⟨aq7, 7, .cells (nArr (dg (St))) 27 (0, 0), .cells (nArr (dg (n18))) 27 (0, 0)⟩ (List.mem_of_getElem? (i := 0) rfl) rfl 117 (fun β => by as_aux_lemma => kernel_rfl) rfl (fun β w _ hg => P_row rfl rfl (ty := 27) (x := (.tmp 9)) (y := (.tmp 107)) rfl (by as_aux_lemma => kernel_rfl) (by as_aux_lemma => kernel_rfl) (by as_aux_lemma => kernel_rfl) (by as_aux_lemma => kernel_rfl) (by as_aux_lemma => kernel_rfl) hg) (by as_aux_lemma => kernel_rfl)
      clear F H; intro β a v F H
      replace H : Hp [] w [⟨true, aq7, .cells (nArr (dg (n18))) 27 (0, 0)⟩, ⟨true, aq9, .cells (nArr (dg (n14))) 27 (0, 0)⟩, ⟨true, aq8, .cells (nArr (dg (n11))) 27 (0, 0)⟩, ⟨true, aq17, .cells (nArr (dg (n9))) 27 (0, 0)⟩, ⟨true, aq16, .cells (nArr (dg (n7))) 27 (0, 0)⟩, ⟨true, aq15, .cells (nArr (dg (n5))) 27 (0, 0)⟩, ⟨true, aq14, .cells (nArr (dg (n4))) 27 (0, 0)⟩, ⟨true, aq13, .cells (nArr (dg (n3))) 27 (0, 0)⟩, ⟨true, aq12, .cells (nArr (dg (n2))) 27 (0, 0)⟩, ⟨true, aq11, .cells (nArr (dg (n1))) 27 (0, 0)⟩, ⟨true, aq10, .cells (nArr (dg (Sb))) 27 (0, 0)⟩, ⟨true, aq6, .cells (nArr (dg (n15))) 27 (0, 0)⟩, ⟨true, aq5, .cells (nArr (dg (nu))) 27 (0, 0)⟩, ⟨true, aq4, .cells (kArr c) 23 (0, 0)⟩, ⟨true, aq3, .cells z32 23 (0, 0)⟩] v := H
      replace F : Fm 117 [] [(107, .agg (nArr (dg (n18)))), (106, .agg (nArr (dg (n17)))), (105, .agg (nArr (dg (n16)))), (104, .agg (nArr (dg (n5)))), (103, .agg (nArr (dg (121665)))), (102, .agg (nArr (dg (n3)))), (101, .agg (nArr (dg (n5)))), (100, .agg (nArr (dg (n15)))), (99, .agg (nArr (dg (n4)))), (98, .agg (nArr (dg (n3)))), (97, .agg (nArr (dg (n14)))), (96, .agg (nArr (dg (n13)))), (95, .agg (nArr (dg (n12)))), (94, .agg (nArr (dg (n9)))), (93, .agg (nArr (dg (n7)))), (92, .agg (nArr (dg (n12)))), (91, .agg (nArr (dg (n9)))), (90, .agg (nArr (dg (n7)))), (89, .agg (nArr (dg (nu)))), (88, .agg (nArr (dg (n11)))), (87, .agg (nArr (dg (n10)))), (86, .agg (nArr (dg (n9)))), (85, .agg (nArr (dg (n7)))), (84, .agg (nArr (dg (n10)))), (83, .agg (nArr (dg (n9)))), (82, .agg (nArr (dg (n7)))), (22, .pointer (some ⟨aq17, 0, none⟩)), (81, .agg (nArr (dg (n9)))), (80, .agg (nArr (dg (n2)))), (79, .agg (nArr (dg (n8)))), (78, .agg (nArr (dg (Sb)))), (77, .agg (nArr (dg (Sa)))), (21, .pointer (some ⟨aq16, 0, none⟩)), (76, .agg (nArr (dg (n7)))), (75, .agg (nArr (dg (n1)))), (74, .agg (nArr (dg (n6)))), (73, .agg (nArr (dg (Sb)))), (72, .agg (nArr (dg (Sa)))), (20, .pointer (some ⟨aq15, 0, none⟩)), (71, .agg (nArr (dg (n5)))), (70, .agg (nArr (dg (n4)))), (69, .agg (nArr (dg (n3)))), (19, .pointer (some ⟨aq14, 0, none⟩)), (68, .agg (nArr (dg (n4)))), (67, .agg (nArr (dg (n2)))), (66, .agg (nArr (dg (n2)))), (18, .pointer (some ⟨aq13, 0, none⟩)), (65, .agg (nArr (dg (n3)))), (64, .agg (nArr (dg (n1)))), (63, .agg (nArr (dg (n1)))), (17, .pointer (some ⟨aq12, 0, none⟩)), (62, .agg (nArr (dg (n2)))), (61, .agg (nArr (dg (St)))), (60, .agg (nArr (dg (Ss)))), (16, .pointer (some ⟨aq11, 0, none⟩)), (59, .agg (nArr (dg (n1)))), (58, .agg (nArr (dg (St)))), (57, .agg (nArr (dg (Ss)))), (12, .int .i64 ((Bool.toNat bt : Nat) : Int)), (56, .int .i64 ((Bool.toNat bt : Nat) : Int)), (55, .agg (nArr (dg (Sb)))), (54, .agg (nArr (dg (St)))), (53, .agg (nArr (dg (Sb)))), (52, .agg (nArr (dg (Sa)))), (51, .agg (nArr (dg (Ss)))), (15, .pointer (some ⟨aq10, 0, none⟩)), (50, .agg (nArr (dg (Sa)))), (49, .bool true), (48, .int .i64 ((Bool.toNat l : Nat) : Int)), (47, .int .i64 ((Bool.toNat bt : Nat) : Int)), (14, .int .i64 ((Bool.toNat bt : Nat) : Int)), (13, .int .i64 ((m : Nat) : Int)), (4, .pointer (some ⟨aq3, 0, none⟩)), (5, .pointer (some ⟨aq4, 0, none⟩)), (6, .pointer (some ⟨aq5, 0, none⟩)), (8, .pointer (some ⟨aq6, 0, none⟩)), (9, .pointer (some ⟨aq7, 0, none⟩)), (10, .pointer (some ⟨aq8, 0, none⟩)), (11, .pointer (some ⟨aq9, 0, none⟩))] a := F.weak _ (⟨rfl, ⟨rfl, ⟨rfl, ⟨rfl, ⟨rfl, ⟨rfl, ⟨rfl, ⟨rfl, ⟨rfl, ⟨rfl, ⟨rfl, ⟨rfl, ⟨rfl, ⟨rfl, ⟨rfl, ⟨rfl, ⟨rfl, ⟨rfl, ⟨rfl, ⟨rfl, ⟨rfl, ⟨rfl, ⟨rfl, ⟨rfl, ⟨rfl, ⟨rfl, ⟨rfl, ⟨rfl, ⟨rfl, ⟨rfl, ⟨rfl, ⟨rfl, ⟨rfl, ⟨rfl, ⟨rfl, ⟨rfl, ⟨rfl, ⟨rfl, ⟨rfl, ⟨rfl, ⟨rfl, ⟨rfl, ⟨rfl, ⟨rfl, ⟨rfl, ⟨rfl, ⟨rfl, ⟨rfl, ⟨rfl, ⟨rfl, ⟨rfl, ⟨rfl, ⟨rfl, ⟨rfl, ⟨rfl, ⟨rfl, ⟨rfl, ⟨rfl, ⟨rfl, ⟨rfl, ⟨rfl, ⟨rfl, ⟨rfl, ⟨rfl, ⟨rfl, ⟨rfl, ⟨rfl, ⟨rfl, ⟨rfl, ⟨rfl, ⟨rfl, ⟨rfl, ⟨rfl, ⟨rfl, ⟨rfl, ⟨rfl, ⟨rfl, ⟨rfl, ⟨rfl, trivial⟩⟩⟩⟩⟩⟩⟩⟩⟩⟩⟩⟩⟩⟩⟩⟩⟩⟩⟩⟩⟩⟩⟩⟩⟩⟩⟩⟩⟩⟩⟩⟩⟩⟩⟩⟩⟩⟩⟩⟩⟩⟩⟩⟩⟩⟩⟩⟩⟩⟩⟩⟩⟩⟩⟩⟩⟩⟩⟩⟩⟩⟩⟩⟩⟩⟩⟩⟩⟩⟩⟩⟩⟩⟩⟩⟩⟩⟩⟩)
      refine ?_
      refine hK2 _ _ ?_
      clear hK2 K2
      replace F : Fm 117 [] [(12, .int .i64 ((Bool.toNat bt : Nat) : Int)), (13, .int .i64 ((m : Nat) : Int)), (4, .pointer (some ⟨aq3, 0, none⟩)), (5, .pointer (some ⟨aq4, 0, none⟩)), (6, .pointer (some ⟨aq5, 0, none⟩)), (8, .pointer (some ⟨aq6, 0, none⟩)), (9, .pointer (some ⟨aq7, 0, none⟩)), (10, .pointer (some ⟨aq8, 0, none⟩)), (11, .pointer (some ⟨aq9, 0, none⟩))] a := F.weak _ (⟨rfl, ⟨rfl, ⟨rfl, ⟨rfl, ⟨rfl, ⟨rfl, ⟨rfl, ⟨rfl, ⟨rfl, trivial⟩⟩⟩⟩⟩⟩⟩⟩⟩)
      refine C_region ?_
      refine T_val F H (by as_aux_lemma => kernel_rfl) (.int .i64 ((m : Nat) : Int)) (fun _ _ => by as_aux_lemma => kernel_rfl) ?_
      clear F; intro a F
      refine T_val F H (by as_aux_lemma => kernel_rfl) (.int .i64 (cntI m)) (fun w _ => R_bin (x := (.tmp 36)) (y := (.const (.int .i64 1))) rfl (k := .i64) (a := ((m : Nat) : Int)) (b := 1) (by as_aux_lemma => kernel_rfl) (by as_aux_lemma => kernel_rfl) (i_cnt m (by omega)) w) ?_
      clear F; intro a F
      refine T_val F H (by as_aux_lemma => kernel_rfl) (.int .i64 (cntI m)) (fun _ _ => by as_aux_lemma => kernel_rfl) ?_
      clear F; intro a F
      refine wpList_nil ?_
      replace F : Fm 117 [] [(13, .int .i64 (cntI m)), (12, .int .i64 ((Bool.toNat bt : Nat) : Int)), (4, .pointer (some ⟨aq3, 0, none⟩)), (5, .pointer (some ⟨aq4, 0, none⟩)), (6, .pointer (some ⟨aq5, 0, none⟩)), (8, .pointer (some ⟨aq6, 0, none⟩)), (9, .pointer (some ⟨aq7, 0, none⟩)), (10, .pointer (some ⟨aq8, 0, none⟩)), (11, .pointer (some ⟨aq9, 0, none⟩))] a := F.weak _ (⟨rfl, ⟨rfl, ⟨rfl, ⟨rfl, ⟨rfl, ⟨rfl, ⟨rfl, ⟨rfl, ⟨rfl, trivial⟩⟩⟩⟩⟩⟩⟩⟩⟩)
      replace H : Hp [] w [⟨true, aq6, .cells (nArr (dg (n15))) 27 (0, 0)⟩, ⟨true, aq7, .cells (nArr (dg (n18))) 27 (0, 0)⟩, ⟨true, aq8, .cells (nArr (dg (n11))) 27 (0, 0)⟩, ⟨true, aq9, .cells (nArr (dg (n14))) 27 (0, 0)⟩, ⟨true, aq5, .cells (nArr (dg (nu))) 27 (0, 0)⟩, ⟨true, aq4, .cells (kArr c) 23 (0, 0)⟩, ⟨true, aq3, .cells z32 23 (0, 0)⟩] v := H.pick [11, 0, 2, 1, 12, 13, 14] (by as_aux_lemma => kernel_rfl) _ rfl
      exact ⟨m, Nat.lt_succ_self m, by omega, by rw [hst]; exact F, by rw [hst]; exact H⟩

set_option maxRecDepth 100000 in
set_option maxHeartbeats 4000000 in
theorem rmult_false_false (f : Nat → Nat) (hf : ∀ b, b < 32 → f b < 256) (g : Nat → Nat) (hg : ∀ b, b < 32 → g b < 256) (hw : decide (kVal g < pr) = false) (w : World) : Calls Tryd.prog 42 #[.agg (kArr f), .agg (kArr g)] w fun e w' => e = .returned (.tuple #[.agg (kArr (zeroF)), .int .i64 30]) ∧ Below w.heap.size w w' := by
  skip
  have dof := fun w => rof_any g hg w
  rw [hw] at dof
  unfold numV at dof
  generalize kVal g % two255 % pr = nu at dof
  refine C_enter Tryd.func42 rfl 27 Tryd.ntmps42 (Nat.le_of_ble_eq_true rfl) (fun a F => ?_)
  have H := Hp.start [] w
  replace F : Fm 27 [] [(0, .agg (kArr f)), (1, .agg (kArr g))] a := F.weak _ (⟨rfl, ⟨rfl, trivial⟩⟩)
  refine C_seqK (fun K hK => ?_)
  refine C_region ?_
  refine T_new F H (by as_aux_lemma => kernel_rfl) (fun ad => .pointer (some ⟨ad, 0, none⟩)) (.cells (kArr f) 23 (0, 0)) (fun w => by as_aux_lemma => kernel_rfl) ?_
  clear F H; intro aq1 a v F H
  refine T_new F H (by as_aux_lemma => kernel_rfl) (fun ad => .pointer (some ⟨ad, 0, none⟩)) (.cells (kArr g) 23 (0, 0)) (fun w => by as_aux_lemma => kernel_rfl) ?_
  clear F H; intro aq2 a v F H
  refine T_new F H (by as_aux_lemma => kernel_rfl) (fun ad => .pointer (some ⟨ad, 0, none⟩)) (.cells z32 23 (0, 0)) (fun w => by as_aux_lemma => kernel_rfl) ?_
  clear F H; intro aq3 a v F H
  refine T_val F H (by as_aux_lemma => kernel_rfl) (.int .i64 0) (fun _ _ => by as_aux_lemma => kernel_rfl) ?_
  clear F; intro a F
  refine T_end (hK _ _ ?_)
  clear hK K
  refine C_seqK (fun K hK => ?_)
  refine C_region ?_
  refine T_val F H (by as_aux_lemma => kernel_rfl) (.agg (kArr zeroF)) (fun _ _ => by as_aux_lemma => kernel_rfl) ?_
  clear F; intro a F
  refine T_new F H (by as_aux_lemma => kernel_rfl) (fun ad => .pointer (some ⟨ad, 0, none⟩)) (.cells z32 23 (0, 0)) (fun w => by as_aux_lemma => kernel_rfl) ?_
  clear F H; intro aq4 a v F H
  refine T_set F H (by as_aux_lemma => kernel_rfl) rfl 0 rfl (kArr zeroF) (S_row 0 rfl 23 (.tmp 6) (.tmp 10) rfl (by as_aux_lemma => kernel_rfl) (kArr zeroF) (by as_aux_lemma => kernel_rfl) (by as_aux_lemma => kernel_rfl) (by as_aux_lemma => kernel_rfl) (by as_aux_lemma => kernel_rfl)) [⟨true, aq4, .cells (kArr zeroF) 23 (0, 0)⟩, ⟨true, aq3, .cells z32 23 (0, 0)⟩, ⟨true, aq2, .cells (kArr g) 23 (0, 0)⟩, ⟨true, aq1, .cells (kArr f) 23 (0, 0)⟩] rfl ?_
  clear F H; intro a v F H
  refine T_end (hK _ _ ?_)
  clear hK K
  refine C_seqK (fun K hK => ?_)
  refine C_region ?_
  refine T_val F H (by as_aux_lemma => kernel_rfl) (.agg (kArr g)) (R_load (own := true) (g := aq2) (all := (kArr g)) (t := 23) (fr := (0, 0)) 2 (by as_aux_lemma => kernel_rfl) 23 (.tmp 3) rfl 0 (by as_aux_lemma => kernel_rfl) (kArr g) (part_all _) _ Tryd.underlying23 rfl (by as_aux_lemma => kernel_rfl)) ?_
  clear F; intro a F
  refine T_call F H (by as_aux_lemma => kernel_rfl) 18 #[.agg (kArr g)] (.tuple #[.agg (nArr (dg (nu))), .bool false]) (fun w => by as_aux_lemma => kernel_rfl) (Calls.kept (dof _)) ?_
  clear F H; intro a v F H
  refine T_val F H (by as_aux_lemma => kernel_rfl) (.tuple #[.agg (nArr (dg (nu))), .bool false]) (fun _ _ => by as_aux_lemma => kernel_rfl) ?_
  clear F; intro a F
  refine T_val F H (by as_aux_lemma => kernel_rfl) (.agg (nArr (dg (nu)))) (fun _ _ => by as_aux_lemma => kernel_rfl) ?_
  clear F; intro a F
  refine T_val F H (by as_aux_lemma => kernel_rfl) (.bool false) (fun _ _ => by as_aux_lemma => kernel_rfl) ?_
  clear F; intro a F
  refine T_new F H (by as_aux_lemma => kernel_rfl) (fun ad => .pointer (some ⟨ad, 0, none⟩)) (.cells z16 27 (0, 0)) (fun w => by as_aux_lemma => kernel_rfl) ?_
  clear F H; intro aq5 a v F H
  refine T_set F H (by as_aux_lemma => kernel_rfl) rfl 0 rfl (nArr (dg (nu))) (S_row 0 rfl 27 (.tmp 7) (.tmp 14) rfl (by as_aux_lemma => kernel_rfl) (nArr (dg (nu))) (by as_aux_lemma => kernel_rfl) (by as_aux_lemma => kernel_rfl) (by as_aux_lemma => kernel_rfl) (by as_aux_lemma => kernel_rfl)) [⟨true, aq5, .cells (nArr (dg (nu))) 27 (0, 0)⟩, ⟨true, aq4, .cells (kArr zeroF) 23 (0, 0)⟩, ⟨true, aq3, .cells z32 23 (0, 0)⟩, ⟨true, aq2, .cells (kArr g) 23 (0, 0)⟩, ⟨true, aq1, .cells (kArr f) 23 (0, 0)⟩] rfl ?_
  clear F H; intro a v F H
  refine T_val F H (by as_aux_lemma => kernel_rfl) (.bool false) (fun _ _ => by as_aux_lemma => kernel_rfl) ?_
  clear F; intro a F
  refine T_end (hK _ _ ?_)
  clear hK K
  refine C_seqK (fun K hK => ?_)
  refine C_seqK (fun K hK => ?_)
  refine C_region ?_
  refine T_val F H (by as_aux_lemma => kernel_rfl) (.bool false) (fun _ _ => by as_aux_lemma => kernel_rfl) ?_
  clear F; intro a F
  refine T_val F H (by as_aux_lemma => kernel_rfl) (.bool true) (fun _ _ => by as_aux_lemma => kernel_rfl) ?_
  clear F; intro a F
  refine T_end (hK _ _ ?_)
  clear hK K
  refine C_if F true rfl rfl ?_
  refine C_seqK (fun K hK => ?_)
  refine C_region ?_
  refine T_val F H (by as_aux_lemma => kernel_rfl) (.agg (kArr zeroF)) (R_load (own := true) (g := aq4) (all := (kArr zeroF)) (t := 23) (fr := (0, 0)) 1 (by as_aux_lemma => kernel_rfl) 23 (.tmp 6) rfl 0 (by as_aux_lemma => kernel_rfl) (kArr zeroF) (part_all _) _ Tryd.underlying23 rfl (by as_aux_lemma => kernel_rfl)) ?_
  clear F; intro a F
  refine T_set F H (by as_aux_lemma => kernel_rfl) rfl 2 rfl (kArr zeroF) (S_row 2 rfl 23 (.tmp 4) (.tmp 18) rfl (by as_aux_lemma => kernel_rfl) (kArr zeroF) (by as_aux_lemma => kernel_rfl) (by as_aux_lemma => kernel_rfl) (by as_aux_lemma => kernel_rfl) (by as_aux_lemma => kernel_rfl)) [⟨true, aq5, .cells (nArr (dg (nu))) 27 (0, 0)⟩, ⟨true, aq4, .cells (kArr zeroF) 23 (0, 0)⟩, ⟨true, aq3, .cells (kArr zeroF) 23 (0, 0)⟩, ⟨true, aq2, .cells (kArr g) 23 (0, 0)⟩, ⟨true, aq1, .cells (kArr f) 23 (0, 0)⟩] rfl ?_
  clear F H; intro a v F H
  refine T_val F H (by as_aux_lemma => kernel_rfl) (.int .i64 30) (fun _ _ => by as_aux_lemma => kernel_rfl) ?_
  clear F; intro a F
  refine T_end (hK _ _ ?_)
  clear hK K
  refine wp_ret ?_
  repeat (first | with_reducible refine then_ret ?_ | with_reducible refine inB_ret ?_)
  exact C_ret F H (rs := [.cell 4 23, .tmp 5]) rfl (vs := [.agg (kArr zeroF), .int .i64 30]) (.row 2 rfl rfl _ Tryd.underlying23 rfl (by as_aux_lemma => kernel_rfl) (.tmp rfl .nil)) (.tuple #[.agg (kArr zeroF), .int .i64 30]) rfl ⟨rfl, H.kept.below⟩

set_option maxRecDepth 100000 in
set_option maxHeartbeats 4000000 in
theorem rmult_true_true (f : Nat → Nat) (hf : ∀ b, b < 32 → f b < 256) (g : Nat → Nat) (hg : ∀ b, b < 32 → g b < 256) (hw : decide (kVal g < pr) = true) (hz0 : decide (sharedN f g = 0) = true) (w : World) : Calls Tryd.prog 42 #[.agg (kArr f), .agg (kArr g)] w fun e w' => e = .returned (.tuple #[.agg (kArr (zeroF)), .int .i64 30]) ∧ Below w.heap.size w w' := by
  have hx := rawN_lt (clampF f) (kVal g % two255 % pr)
  have dof := fun w => rof_any g hg w
  rw [hw] at dof
  unfold numV at dof
  obtain ⟨nu, hnu⟩ : ∃ nu, nu = kVal g % two255 % pr := ⟨_, rfl⟩
  rw [← hnu] at dof
  have dr := fun w => rraw_any f hf g hg w
  obtain ⟨RF, hRF⟩ : ∃ RF, RF = byteOf (rawN (clampF f) (kVal g % two255 % pr)) := ⟨_, rfl⟩
  have hz : true = true ↔ ∀ i, i < 32 → RF i = zeroF i := by rw [hRF]; exact zero_iff hx _ hz0.symm
  rw [← hRF] at dr
  
  refine C_enter Tryd.func42 rfl 27 Tryd.ntmps42 (Nat.le_of_ble_eq_true rfl) (fun a F => ?_)
  have H := Hp.start [] w
  replace F : Fm 27 [] [(0, .agg (kArr f)), (1, .agg (kArr g))] a := F.weak _ (⟨rfl, ⟨rfl, trivial⟩⟩)
  refine C_seqK (fun K hK => ?_)
  refine C_region ?_
  refine T_new F H (by as_aux_lemma => kernel_rfl) (fun ad => .pointer (some ⟨ad, 0, none⟩)) (.cells (kArr f) 23 (0, 0)) (fun w => by as_aux_lemma => kernel_rfl) ?_
  clear F H; intro aq1 a v F H
  refine T_new F H (by as_aux_lemma => kernel_rfl) (fun ad => .pointer (some ⟨ad, 0, none⟩)) (.cells (kArr g) 23 (0, 0)) (fun w => by as_aux_lemma => kernel_rfl) ?_
  clear F H; intro aq2 a v F H
  refine T_new F H (by as_aux_lemma => kernel_rfl) (fun ad => .pointer (some ⟨ad, 0, none⟩)) (.cells z32 23 (0, 0)) (fun w => by as_aux_lemma => kernel_rfl) ?_
  clear F H; intro aq3 a v F H
  refine T_val F H (by as_aux_lemma => kernel_rfl) (.int .i64 0) (fun _ _ => by as_aux_lemma => kernel_rfl) ?_
  clear F; intro a F
  refine T_end (hK _ _ ?_)
  clear hK K
  refine C_seqK (fun K hK => ?_)
  refine C_region ?_
  refine T_val F H (by as_aux_lemma => kernel_rfl) (.agg (kArr zeroF)) (fun _ _ => by as_aux_lemma => kernel_rfl) ?_
  clear F; intro a F
  refine T_new F H (by as_aux_lemma => kernel_rfl) (fun ad => .pointer (some ⟨ad, 0, none⟩)) (.cells z32 23 (0, 0)) (fun w => by as_aux_lemma => kernel_rfl) ?_
  clear F H; intro aq4 a v F H
  refine T_set F H (by as_aux_lemma => kernel_rfl) rfl 0 rfl (kArr zeroF) (S_row 0 rfl 23 (.tmp 6) (.tmp 10) rfl (by as_aux_lemma => kernel_rfl) (kArr zeroF) (by as_aux_lemma => kernel_rfl) (by as_aux_lemma => kernel_rfl) (by as_aux_lemma => kernel_rfl) (by as_aux_lemma => kernel_rfl)) [⟨true, aq4, .cells (kArr zeroF) 23 (0, 0)⟩, ⟨true, aq3, .cells z32 23 (0, 0)⟩, ⟨true, aq2, .cells (kArr g) 23 (0, 0)⟩, ⟨true, aq1, .cells (kArr f) 23 (0, 0)⟩] rfl ?_
  clear F H; intro a v F H
  refine T_end (hK _ _ ?_)
  clear hK K
  refine C_seqK (fun K hK => ?_)
  refine C_region ?_
  refine T_val F H (by as_aux_lemma => kernel_rfl) (.agg (kArr g)) (R_load (own := true) (g := aq2) (all := (kArr g)) (t := 23) (fr := (0, 0)) 2 (by as_aux_lemma => kernel_rfl) 23 (.tmp 3) rfl 0 (by as_aux_lemma => kernel_rfl) (kArr g) (part_all _) _ Tryd.underlying23 rfl (by as_aux_lemma => kernel_rfl)) ?_
  clear F; intro a F
  refine T_call F H (by as_aux_lemma => kernel_rfl) 18 #[.agg (kArr g)] (.tuple #[.agg (nArr (dg (nu))), .bool true]) (fun w => by as_aux_lemma => kernel_rfl) (Calls.kept (dof _)) ?_
  clear F H; intro a v F H
  refine T_val F H (by as_aux_lemma => kernel_rfl) (.tuple #[.agg (nArr (dg (nu))), .bool true]) (fun _ _ => by as_aux_lemma => kernel_rfl) ?_
  clear F; intro a F
  refine T_val F H (by as_aux_lemma => kernel_rfl) (.agg (nArr (dg (nu)))) (fun _ _ => by as_aux_lemma => kernel_rfl) ?_
  clear F; intro a F
  refine T_val F H (by as_aux_lemma => kernel_rfl) (.bool true) (fun _ _ => by as_aux_lemma => kernel_rfl) ?_
  clear F; intro a F
  refine T_new F H (by as_aux_lemma => kernel_rfl) (fun ad => .pointer (some ⟨ad, 0, none⟩)) (.cells z16 27 (0, 0)) (fun w => by as_aux_lemma => kernel_rfl) ?_
  clear F H; intro aq5 a v F H
  refine T_set F H (by as_aux_lemma => kernel_rfl) rfl 0 rfl (nArr (dg (nu))) (S_row 0 rfl 27 (.tmp 7) (.tmp 14) rfl (by as_aux_lemma => kernel_rfl) (nArr (dg (nu))) (by as_aux_lemma => kernel_rfl) (by as_aux_lemma => kernel_rfl) (by as_aux_lemma => kernel_rfl) (by as_aux_lemma => kernel_rfl)) [⟨true, aq5, .cells (nArr (dg (nu))) 27 (0, 0)⟩, ⟨true, aq4, .cells (kArr zeroF) 23 (0, 0)⟩, ⟨true, aq3, .cells z32 23 (0, 0)⟩, ⟨true, aq2, .cells (kArr g) 23 (0, 0)⟩, ⟨true, aq1, .cells (kArr f) 23 (0, 0)⟩] rfl ?_
  clear F H; intro a v F H
  refine T_val F H (by as_aux_lemma => kernel_rfl) (.bool true) (fun _ _ => by as_aux_lemma => kernel_rfl) ?_
  clear F; intro a F
  refine T_end (hK _ _ ?_)
  clear hK K
  refine C_seqK (fun K hK => ?_)
  refine C_seqK (fun K hK => ?_)
  refine C_region ?_
  refine T_val F H (by as_aux_lemma => kernel_rfl) (.bool true) (fun _ _ => by as_aux_lemma => kernel_rfl) ?_
  clear F; intro a F
  refine T_val F H (by as_aux_lemma => kernel_rfl) (.bool false) (fun _ _ => by as_aux_lemma => kernel_rfl) ?_
  clear F; intro a F
  refine T_end (hK _ _ ?_)
  clear hK K
  refine C_if F false rfl rfl ?_
  refine wp_skip ?_
  refine hK _ _ ?_
  clear hK K
  refine C_seqK (fun K hK => ?_)
  refine C_region ?_
  refine T_val F H (by as_aux_lemma => kernel_rfl) (.agg (kArr f)) (R_load (own := true) (g := aq1) (all := (kArr f)) (t := 23) (fr := (0, 0)) 4 (by as_aux_lemma => kernel_rfl) 23 (.tmp 2) rfl 0 (by as_aux_lemma => kernel_rfl) (kArr f) (part_all _) _ Tryd.underlying23 rfl (by as_aux_lemma => kernel_rfl)) ?_
  clear F; intro a F
  refine T_val F H (by as_aux_lemma => kernel_rfl) (.agg (kArr g)) (R_load (own := true) (g := aq2) (all := (kArr g)) (t := 23) (fr := (0, 0)) 3 (by as_aux_lemma => kernel_rfl) 23 (.tmp 3) rfl 0 (by as_aux_lemma => kernel_rfl) (kArr g) (part_all _) _ Tryd.underlying23 rfl (by as_aux_lemma => kernel_rfl)) ?_
  clear F; intro a F
  refine T_call F H (by as_aux_lemma => kernel_rfl) 44 #[.agg (kArr f), .agg (kArr g)] (.agg (kArr RF)) (fun w => by as_aux_lemma => kernel_rfl) (Calls.kept (dr _)) ?_
  clear F H; intro a v F H
  refine T_new F H (by as_aux_lemma => kernel_rfl) (fun ad => .pointer (some ⟨ad, 0, none⟩)) (.cells z32 23 (0, 0)) (fun w => by as_aux_lemma => kernel_rfl) ?_
  clear F H; intro aq6 a v F H
  refine T_set F H (by as_aux_lemma => kernel_rfl) rfl 0 rfl (kArr RF) (S_row 0 rfl 23 (.tmp 9) (.tmp 21) rfl (by as_aux_lemma => kernel_rfl) (kArr RF) (by as_aux_lemma => kernel_rfl) (by as_aux_lemma => kernel_rfl) (by as_aux_lemma => kernel_rfl) (by as_aux_lemma => kernel_rfl)) [⟨true, aq6, .cells (kArr RF) 23 (0, 0)⟩, ⟨true, aq5, .cells (nArr (dg (nu))) 27 (0, 0)⟩, ⟨true, aq4, .cells (kArr zeroF) 23 (0, 0)⟩, ⟨true, aq3, .cells z32 23 (0, 0)⟩, ⟨true, aq2, .cells (kArr g) 23 (0, 0)⟩, ⟨true, aq1, .cells (kArr f) 23 (0, 0)⟩] rfl ?_
  clear F H; intro a v F H
  refine T_end (hK _ _ ?_)
  clear hK K
  refine C_seqK (fun K hK => ?_)
  refine C_seqK (fun K hK => ?_)
  refine C_region ?_
  refine T_val F H (by as_aux_lemma => kernel_rfl) (.agg (kArr RF)) (R_load (own := true) (g := aq6) (all := (kArr RF)) (t := 23) (fr := (0, 0)) 0 (by as_aux_lemma => kernel_rfl) 23 (.tmp 9) rfl 0 (by as_aux_lemma => kernel_rfl) (kArr RF) (part_all _) _ Tryd.underlying23 rfl (by as_aux_lemma => kernel_rfl)) ?_
  clear F; intro a F
  refine T_val F H (by as_aux_lemma => kernel_rfl) (.agg (kArr zeroF)) (R_load (own := true) (g := aq4) (all := (kArr zeroF)) (t := 23) (fr := (0, 0)) 2 (by as_aux_lemma => kernel_rfl) 23 (.tmp 6) rfl 0 (by as_aux_lemma => kernel_rfl) (kArr zeroF) (part_all _) _ Tryd.underlying23 rfl (by as_aux_lemma => kernel_rfl)) ?_
  clear F; intro a F
  refine T_val F H (by as_aux_lemma => kernel_rfl) (.bool true) (fun w _ => R_eqk (x := (.tmp 22)) (y := (.tmp 23)) rfl RF zeroF (by as_aux_lemma => kernel_rfl) (by as_aux_lemma => kernel_rfl) true hz w) ?_
  clear F; intro a F
  refine T_end (hK _ _ ?_)
  clear hK K
  refine C_if F true rfl rfl ?_
  refine C_seqK (fun K hK => ?_)
  refine C_region ?_
  refine T_val F H (by as_aux_lemma => kernel_rfl) (.agg (kArr zeroF)) (R_load (own := true) (g := aq4) (all := (kArr zeroF)) (t := 23) (fr := (0, 0)) 2 (by as_aux_lemma => kernel_rfl) 23 (.tmp 6) rfl 0 (by as_aux_lemma => kernel_rfl) (kArr zeroF) (part_all _) _ Tryd.underlying23 rfl (by as_aux_lemma => kernel_rfl)) ?_
  clear F; intro a F
  refine T_set F H (by as_aux_lemma => kernel_rfl) rfl 3 rfl (kArr zeroF) (S_row 3 rfl 23 (.tmp 4) (.tmp 25) rfl (by as_aux_lemma => kernel_rfl) (kArr zeroF) (by as_aux_lemma => kernel_rfl) (by as_aux_lemma => kernel_rfl) (by as_aux_lemma => kernel_rfl) (by as_aux_lemma => kernel_rfl)) [⟨true, aq6, .cells (kArr RF) 23 (0, 0)⟩, ⟨true, aq5, .cells (nArr (dg (nu))) 27 (0, 0)⟩, ⟨true, aq4, .cells (kArr zeroF) 23 (0, 0)⟩, ⟨true, aq3, .cells (kArr zeroF) 23 (0, 0)⟩, ⟨true, aq2, .cells (kArr g) 23 (0, 0)⟩, ⟨true, aq1, .cells (kArr f) 23 (0, 0)⟩] rfl ?_
  clear F H; intro a v F H
  refine T_val F H (by as_aux_lemma => kernel_rfl) (.int .i64 30) (fun _ _ => by as_aux_lemma => kernel_rfl) ?_
  clear F; intro a F
  refine T_end (hK _ _ ?_)
  clear hK K
  refine wp_ret ?_
  repeat (first | with_reducible refine then_ret ?_ | with_reducible refine inB_ret ?_)
  exact C_ret F H (rs := [.cell 4 23, .tmp 5]) rfl (vs := [.agg (kArr zeroF), .int .i64 30]) (.row 3 rfl rfl _ Tryd.underlying23 rfl (by as_aux_lemma => kernel_rfl) (.tmp rfl .nil)) (.tuple #[.agg (kArr zeroF), .int .i64 30]) rfl ⟨rfl, H.kept.below⟩

set_option maxRecDepth 100000 in
set_option maxHeartbeats 4000000 in
theorem rmult_true_false (f : Nat → Nat) (hf : ∀ b, b < 32 → f b < 256) (g : Nat → Nat) (hg : ∀ b, b < 32 → g b < 256) (hw : decide (kVal g < pr) = true) (hz0 : decide (sharedN f g = 0) = false) (w : World) : Calls Tryd.prog 42 #[.agg (kArr f), .agg (kArr g)] w fun e w' => e = .returned (.tuple #[.agg (kArr (byteOf (rawN (clampF f) (kVal g % two255 % pr)))), .int .i64 0]) ∧ Below w.heap.size w w' := by
  have hx := rawN_lt (clampF f) (kVal g % two255 % pr)
  have dof := fun w => rof_any g hg w
  rw [hw] at dof
  unfold numV at dof
  obtain ⟨nu, hnu⟩ : ∃ nu, nu = kVal g % two255 % pr := ⟨_, rfl⟩
  rw [← hnu] at dof
  have dr := fun w => rraw_any f hf g hg w
  obtain ⟨RF, hRF⟩ : ∃ RF, RF = byteOf (rawN (clampF f) (kVal g % two255 % pr)) := ⟨_, rfl⟩
  have hz : false = true ↔ ∀ i, i < 32 → RF i = zeroF i := by rw [hRF]; exact zero_iff hx _ hz0.symm
  rw [← hRF] at dr
  rw [← hRF]
  refine C_enter Tryd.func42 rfl 27 Tryd.ntmps42 (Nat.le_of_ble_eq_true rfl) (fun a F => ?_)
  have H := Hp.start [] w
  replace F : Fm 27 [] [(0, .agg (kArr f)), (1, .agg (kArr g))] a := F.weak _ (⟨rfl, ⟨rfl, trivial⟩⟩)
  refine C_seqK (fun K hK => ?_)
  refine C_region ?_
  refine T_new F H (by as_aux_lemma => kernel_rfl) (fun ad => .pointer (some ⟨ad, 0, none⟩)) (.cells (kArr f) 23 (0, 0)) (fun w => by as_aux_lemma => kernel_rfl) ?_
  clear F H; intro aq1 a v F H
  refine T_new F H (by as_aux_lemma => kernel_rfl) (fun ad => .pointer (some ⟨ad, 0, none⟩)) (.cells (kArr g) 23 (0, 0)) (fun w => by as_aux_lemma => kernel_rfl) ?_
  clear F H; intro aq2 a v F H
  refine T_new F H (by as_aux_lemma => kernel_rfl) (fun ad => .pointer (some ⟨ad, 0, none⟩)) (.cells z32 23 (0, 0)) (fun w => by as_aux_lemma => kernel_rfl) ?_
  clear F H; intro aq3 a v F H
  refine T_val F H (by as_aux_lemma => kernel_rfl) (.int .i64 0) (fun _ _ => by as_aux_lemma => kernel_rfl) ?_
  clear F; intro a F
  refine T_end (hK _ _ ?_)
  clear hK K
  refine C_seqK (fun K hK => ?_)
  refine C_region ?_
  refine T_val F H (by as_aux_lemma => kernel_rfl) (.agg (kArr zeroF)) (fun _ _ => by as_aux_lemma => kernel_rfl) ?_
  clear F; intro a F
  refine T_new F H (by as_aux_lemma => kernel_rfl) (fun ad => .pointer (some ⟨ad, 0, none⟩)) (.cells z32 23 (0, 0)) (fun w => by as_aux_lemma => kernel_rfl) ?_
  clear F H; intro aq4 a v F H
  refine T_set F H (by as_aux_lemma => kernel_rfl) rfl 0 rfl (kArr zeroF) (S_row 0 rfl 23 (.tmp 6) (.tmp 10) rfl (by as_aux_lemma => kernel_rfl) (kArr zeroF) (by as_aux_lemma => kernel_rfl) (by as_aux_lemma => kernel_rfl) (by as_aux_lemma => kernel_rfl) (by as_aux_lemma => kernel_rfl)) [⟨true, aq4, .cells (kArr zeroF) 23 (0, 0)⟩, ⟨true, aq3, .cells z32 23 (0, 0)⟩, ⟨true, aq2, .cells (kArr g) 23 (0, 0)⟩, ⟨true, aq1, .cells (kArr f) 23 (0, 0)⟩] rfl ?_
  clear F H; intro a v F H
  refine T_end (hK _ _ ?_)
  clear hK K
  refine C_seqK (fun K hK => ?_)
  refine C_region ?_
  refine T_val F H (by as_aux_lemma => kernel_rfl) (.agg (kArr g)) (R_load (own := true) (g := aq2) (all := (kArr g)) (t := 23) (fr := (0, 0)) 2 (by as_aux_lemma => kernel_rfl) 23 (.tmp 3) rfl 0 (by as_aux_lemma => kernel_rfl) (kArr g) (part_all _) _ Tryd.underlying23 rfl (by as_aux_lemma => kernel_rfl)) ?_
  clear F; intro a F
  refine T_call F H (by as_aux_lemma => kernel_rfl) 18 #[.agg (kArr g)] (.tuple #[.agg (nArr (dg (nu))), .bool true]) (fun w => by as_aux_lemma => kernel_rfl) (Calls.kept (dof _)) ?_
  clear F H; intro a v F H
  refine T_val F H (by as_aux_lemma => kernel_rfl) (.tuple #[.agg (nArr (dg (nu))), .bool true]) (fun _ _ => by as_aux_lemma => kernel_rfl) ?_
  clear F; intro a F
  refine T_val F H (by as_aux_lemma => kernel_rfl) (.agg (nArr (dg (nu)))) (fun _ _ => by as_aux_lemma => kernel_rfl) ?_
  clear F; intro a F
  refine T_val F H (by as_aux_lemma => kernel_rfl) (.bool true) (fun _ _ => by as_aux_lemma => kernel_rfl) ?_
  clear F; intro a F
  refine T_new F H (by as_aux_lemma => kernel_rfl) (fun ad => .pointer (some ⟨ad, 0, none⟩)) (.cells z16 27 (0, 0)) (fun w => by as_aux_lemma => kernel_rfl) ?_
  clear F H; intro aq5 a v F H
  refine T_set F H (by as_aux_lemma => kernel_rfl) rfl 0 rfl (nArr (dg (nu))) (S_row 0 rfl 27 (.tmp 7) (.tmp 14) rfl (by as_aux_lemma => kernel_rfl) (nArr (dg (nu))) (by as_aux_lemma => kernel_rfl) (by as_aux_lemma => kernel_rfl) (by as_aux_lemma => kernel_rfl) (by as_aux_lemma => kernel_rfl)) [⟨true, aq5, .cells (nArr (dg (nu))) 27 (0, 0)⟩, ⟨true, aq4, .cells (kArr zeroF) 23 (0, 0)⟩, ⟨true, aq3, .cells z32 23 (0, 0)⟩, ⟨true, aq2, .cells (kArr g) 23 (0, 0)⟩, ⟨true, aq1, .cells (kArr f) 23 (0, 0)⟩] rfl ?_
  clear F H; intro a v F H
  refine T_val F H (by as_aux_lemma => kernel_rfl) (.bool true) (fun _ _ => by as_aux_lemma => kernel_rfl) ?_
  clear F; intro a F
  refine T_end (hK _ _ ?_)
  clear hK K
  refine C_seqK (fun K hK => ?_)
  refine C_seqK (fun K hK => ?_)
  refine C_region ?_
  refine T_val F H (by as_aux_lemma => kernel_rfl) (.bool true) (fun _ _ => by as_aux_lemma => kernel_rfl) ?_
  clear F; intro a F
  refine T_val F H (by as_aux_lemma => kernel_rfl) (.bool false) (fun _ _ => by as_aux_lemma => kernel_rfl) ?_
  clear F; intro a F
  refine T_end (hK _ _ ?_)
  clear hK K
  refine C_if F false rfl rfl ?_
  refine wp_skip ?_
  refine hK _ _ ?_
  clear hK K
  refine C_seqK (fun K hK => ?_)
  refine C_region ?_
  refine T_val F H (by as_aux_lemma => kernel_rfl) (.agg (kArr f)) (R_load (own := true) (g := aq1) (all := (kArr f)) (t := 23) (fr := (0, 0)) 4 (by as_aux_lemma => kernel_rfl) 23 (.tmp 2) rfl 0 (by as_aux_lemma => kernel_rfl) (kArr f) (part_all _) _ Tryd.underlying23 rfl (by as_aux_lemma => kernel_rfl)) ?_
  clear F; intro a F
  refine T_val F H (by as_aux_lemma => kernel_rfl) (.agg (kArr g)) (R_load (own := true) (g := aq2) (all := (kArr g)) (t := 23) (fr := (0, 0)) 3 (by as_aux_lemma => kernel_rfl) 23 (.tmp 3) rfl 0 (by as_aux_lemma => kernel_rfl) (kArr g) (part_all _) _ Tryd.underlying23 rfl (by as_aux_lemma => kernel_rfl)) ?_
  clear F; intro a F
  refine T_call F H (by as_aux_lemma => kernel_rfl) 44 #[.agg (kArr f), .agg (kArr g)] (.agg (kArr RF)) (fun w => by as_aux_lemma => kernel_rfl) (Calls.kept (dr _)) ?_
  clear F H; intro a v F H
  refine T_new F H (by as_aux_lemma => kernel_rfl) (fun ad => .pointer (some ⟨ad, 0, none⟩)) (.cells z32 23 (0, 0)) (fun w => by as_aux_lemma => kernel_rfl) ?_
  clear F H; intro aq6 a v F H
  refine T_set F H (by as_aux_lemma => kernel_rfl) rfl 0 rfl (kArr RF) (S_row 0 rfl 23 (.tmp 9) (.tmp 21) rfl (by as_aux_lemma => kernel_rfl) (kArr RF) (by as_aux_lemma => kernel_rfl) (by as_aux_lemma => kernel_rfl) (by as_aux_lemma => kernel_rfl) (by as_aux_lemma => kernel_rfl)) [⟨true, aq6, .cells (kArr RF) 23 (0, 0)⟩, ⟨true, aq5, .cells (nArr (dg (nu))) 27 (0, 0)⟩, ⟨true, aq4, .cells (kArr zeroF) 23 (0, 0)⟩, ⟨true, aq3, .cells z32 23 (0, 0)⟩, ⟨true, aq2, .cells (kArr g) 23 (0, 0)⟩, ⟨true, aq1, .cells (kArr f) 23 (0, 0)⟩] rfl ?_
  clear F H; intro a v F H
  refine T_end (hK _ _ ?_)
  clear hK K
  refine C_seqK (fun K hK => ?_)
  refine C_seqK (fun K hK => ?_)
  refine C_region ?_
  refine T_val F H (by as_aux_lemma => kernel_rfl) (.agg (kArr RF)) (R_load (own := true) (g := aq6) (all := (kArr RF)) (t := 23) (fr := (0, 0)) 0 (by as_aux_lemma => kernel_rfl) 23 (.tmp 9) rfl 0 (by as_aux_lemma => kernel_rfl) (kArr RF) (part_all _) _ Tryd.underlying23 rfl (by as_aux_lemma => kernel_rfl)) ?_
  clear F; intro a F
  refine T_val F H (by as_aux_lemma => kernel_rfl) (.agg (kArr zeroF)) (R_load (own := true) (g := aq4) (all := (kArr zeroF)) (t := 23) (fr := (0, 0)) 2 (by as_aux_lemma => kernel_rfl) 23 (.tmp 6) rfl 0 (by as_aux_lemma => kernel_rfl) (kArr zeroF) (part_all _) _ Tryd.underlying23 rfl (by as_aux_lemma => kernel_rfl)) ?_
  clear F; intro a F
  refine T_val F H (by as_aux_lemma => kernel_rfl) (.bool false) (fun w _ => R_eqk (x := (.tmp 22)) (y := (.tmp 23)) rfl RF zeroF (by as_aux_lemma => kernel_rfl) (by as_aux_lemma => kernel_rfl) false hz w) ?_
  clear F; intro a F
  refine T_end (hK _ _ ?_)
  clear hK K
  refine C_if F false rfl rfl ?_
  refine wp_skip ?_
  refine hK _ _ ?_
  clear hK K
  refine C_seqK (fun K hK => ?_)
  refine C_region ?_
  refine T_val F H (by as_aux_lemma => kernel_rfl) (.agg (kArr RF)) (R_load (own := true) (g := aq6) (all := (kArr RF)) (t := 23) (fr := (0, 0)) 0 (by as_aux_lemma => kernel_rfl) 23 (.tmp 9) rfl 0 (by as_aux_lemma => kernel_rfl) (kArr RF) (part_all _) _ Tryd.underlying23 rfl (by as_aux_lemma => kernel_rfl)) ?_
  clear F; intro a F
  refine T_set F H (by as_aux_lemma => kernel_rfl) rfl 3 rfl (kArr RF) (S_row 3 rfl 23 (.tmp 4) (.tmp 26) rfl (by as_aux_lemma => kernel_rfl) (kArr RF) (by as_aux_lemma => kernel_rfl) (by as_aux_lemma => kernel_rfl) (by as_aux_lemma => kernel_rfl) (by as_aux_lemma => kernel_rfl)) [⟨true, aq6, .cells (kArr RF) 23 (0, 0)⟩, ⟨true, aq5, .cells (nArr (dg (nu))) 27 (0, 0)⟩, ⟨true, aq4, .cells (kArr zeroF) 23 (0, 0)⟩, ⟨true, aq3, .cells (kArr RF) 23 (0, 0)⟩, ⟨true, aq2, .cells (kArr g) 23 (0, 0)⟩, ⟨true, aq1, .cells (kArr f) 23 (0, 0)⟩] rfl ?_
  clear F H; intro a v F H
  refine T_val F H (by as_aux_lemma => kernel_rfl) (.int .i64 0) (fun _ _ => by as_aux_lemma => kernel_rfl) ?_
  clear F; intro a F
  refine T_end (hK _ _ ?_)
  clear hK K
  refine wp_ret ?_
  exact C_ret F H (rs := [.cell 4 23, .tmp 5]) rfl (vs := [.agg (kArr RF), .int .i64 0]) (.row 3 rfl rfl _ Tryd.underlying23 rfl (by as_aux_lemma => kernel_rfl) (.tmp rfl .nil)) (.tuple #[.agg (kArr RF), .int .i64 0]) rfl ⟨rfl, H.kept.below⟩

theorem rmult_any (f : Nat → Nat) (hf : ∀ b, b < 32 → f b < 256) (g : Nat → Nat) (hg : ∀ b, b < 32 → g b < 256) (w : World) : Calls Tryd.prog 42 #[.agg (kArr f), .agg (kArr g)] w fun e w' => e = .returned (.tuple #[.agg (kArr (multK f g)), .int .i64 (multE f g)]) ∧ Below w.heap.size w w' := by
  cases hw : decide (kVal g < pr) with
  | false =>
    have h1 : multOK f g = false := by unfold multOK; rw [hw]; rfl
    have h2 : multK f g = zeroF := by unfold multK; rw [h1]; rfl
    have h3 : multE f g = 30 := by unfold multE; rw [h1]; rfl
    rw [h2, h3]; exact rmult_false_false f hf g hg hw w
  | true =>
    cases hz : decide (sharedN f g = 0) with
    | true =>
      have h1 : multOK f g = false := by unfold multOK; rw [hw, hz]; rfl
      have h2 : multK f g = zeroF := by unfold multK; rw [h1]; rfl
      have h3 : multE f g = 30 := by unfold multE; rw [h1]; rfl
      rw [h2, h3]; exact rmult_true_true f hf g hg hw hz w
    | false =>
      have h1 : multOK f g = true := by unfold multOK; rw [hw, hz]; rfl
      have h2 : multK f g = byteOf (sharedN f g) := by unfold multK; rw [h1]; rfl
      have h3 : multE f g = 0 := by unfold multE; rw [h1]; rfl
      rw [h2, h3]; exact rmult_true_false f hf g hg hw hz w

set_option maxRecDepth 100000 in
set_option maxHeartbeats 4000000 in
theorem rpublic_any (f : Nat → Nat) (hf : ∀ b, b < 32 → f b < 256) (w : World) : Calls Tryd.prog 49 #[.agg (kArr f)] w fun e w' => e = .returned (.agg (kArr (byteOf (sharedN f nineF)))) ∧ Below w.heap.size w w' := by
  have dr := fun w => rraw_any f hf nineF nineF_lt w
  obtain ⟨RF, hRF⟩ : ∃ RF, RF = byteOf (rawN (clampF f) (kVal nineF % two255 % pr)) := ⟨_, rfl⟩
  rw [← hRF] at dr
  refine C_enter Tryd.func49 rfl 6 Tryd.ntmps49 (Nat.le_of_ble_eq_true rfl) (fun a F => ?_)
  have H := Hp.start [] w
  replace F : Fm 6 [] [(0, .agg (kArr f))] a := F.weak _ (⟨rfl, trivial⟩)
  refine C_seqK (fun K hK => ?_)
  refine C_region ?_
  refine T_new F H (by as_aux_lemma => kernel_rfl) (fun ad => .pointer (some ⟨ad, 0, none⟩)) (.cells (kArr f) 23 (0, 0)) (fun w => by as_aux_lemma => kernel_rfl) ?_
  clear F H; intro aq1 a v F H
  refine T_new F H (by as_aux_lemma => kernel_rfl) (fun ad => .pointer (some ⟨ad, 0, none⟩)) (.cells z32 23 (0, 0)) (fun w => by as_aux_lemma => kernel_rfl) ?_
  clear F H; intro aq2 a v F H
  refine T_end (hK _ _ ?_)
  clear hK K
  refine C_seqK (fun K hK => ?_)
  refine C_region ?_
  refine T_val F H (by as_aux_lemma => kernel_rfl) (.agg (kArr f)) (R_load (own := true) (g := aq1) (all := (kArr f)) (t := 23) (fr := (0, 0)) 1 (by as_aux_lemma => kernel_rfl) 23 (.tmp 1) rfl 0 (by as_aux_lemma => kernel_rfl) (kArr f) (part_all _) _ Tryd.underlying23 rfl (by as_aux_lemma => kernel_rfl)) ?_
  clear F; intro a F
  refine T_val F H (by as_aux_lemma => kernel_rfl) (.agg (kArr nineF)) (fun _ _ => by as_aux_lemma => kernel_rfl) ?_
  clear F; intro a F
  refine T_call F H (by as_aux_lemma => kernel_rfl) 44 #[.agg (kArr f), .agg (kArr nineF)] (.agg (kArr RF)) (fun w => by as_aux_lemma => kernel_rfl) (Calls.kept (dr _)) ?_
  clear F H; intro a v F H
  refine T_set F H (by as_aux_lemma => kernel_rfl) rfl 0 rfl (kArr RF) (S_row 0 rfl 23 (.tmp 2) (.tmp 5) rfl (by as_aux_lemma => kernel_rfl) (kArr RF) (by as_aux_lemma => kernel_rfl) (by as_aux_lemma => kernel_rfl) (by as_aux_lemma => kernel_rfl) (by as_aux_lemma => kernel_rfl)) [⟨true, aq2, .cells (kArr RF) 23 (0, 0)⟩, ⟨true, aq1, .cells (kArr f) 23 (0, 0)⟩] rfl ?_
  clear F H; intro a v F H
  refine T_end (hK _ _ ?_)
  clear hK K
  refine wp_ret ?_
  exact C_ret F H (rs := [.cell 2 23]) rfl (vs := [.agg (kArr RF)]) (.row 0 rfl rfl _ Tryd.underlying23 rfl (by as_aux_lemma => kernel_rfl) .nil) (.agg (kArr RF)) rfl ⟨congrArg Ending.returned (congrArg Value.agg (congrArg kArr hRF)), H.kept.below⟩

end Go.Proofs.YtdmioipdmdmkhaaDoor
