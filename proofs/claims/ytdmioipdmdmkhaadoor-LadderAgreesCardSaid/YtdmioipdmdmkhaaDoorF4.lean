/- The ladder: Mult, Public; OfHigh; by rules. -/
import Derived.Test.YtdmioipdmdmkhaaDoorF3
import Derived.Test.YtdmioipdmdmkhaaDoorH4
import Derived.Test.YtdmioipdmdmkhaaDoorE3
set_option linter.unusedVariables false
set_option linter.unusedSimpArgs false
namespace Go.Proofs.YtdmioipdmdmkhaaDoor
open Go.RowKit
/-- A key of nothing. -/
abbrev z32 : Array Value := #[.int .u8 0, .int .u8 0, .int .u8 0, .int .u8 0, .int .u8 0, .int .u8 0, .int .u8 0, .int .u8 0, .int .u8 0, .int .u8 0, .int .u8 0, .int .u8 0, .int .u8 0, .int .u8 0, .int .u8 0, .int .u8 0, .int .u8 0, .int .u8 0, .int .u8 0, .int .u8 0, .int .u8 0, .int .u8 0, .int .u8 0, .int .u8 0, .int .u8 0, .int .u8 0, .int .u8 0, .int .u8 0, .int .u8 0, .int .u8 0, .int .u8 0, .int .u8 0]
abbrev z16 : Array Value := #[.int .u64 0, .int .u64 0, .int .u64 0, .int .u64 0, .int .u64 0, .int .u64 0, .int .u64 0, .int .u64 0, .int .u64 0, .int .u64 0, .int .u64 0, .int .u64 0, .int .u64 0, .int .u64 0, .int .u64 0, .int .u64 0]
def zeroF : Nat → Nat := fun _ => 0
def nineF : Nat → Nat := fun i => if i = 0 then 9 else 0
theorem zeroF_lt : ∀ b, b < 32 → zeroF b < 256 := fun _ _ => by unfold zeroF; omega
theorem nineF_lt : ∀ b, b < 32 → nineF b < 256 := fun b _ => by unfold nineF; split <;> omega
def sharedN (f g : Nat → Nat) : Nat := rawN (clampF f) (kVal g % two255 % pr)
def multOK (f g : Nat → Nat) : Bool := decide (kVal g < pr) && !(decide (sharedN f g = 0))
def multK (f g : Nat → Nat) : Nat → Nat := if multOK f g then byteOf (sharedN f g) else zeroF
def multE (f g : Nat → Nat) : Int := if multOK f g then 0 else 30
theorem rawN_lt (c : Nat → Nat) (u : Nat) : rawN c u < pr := Nat.mod_lt _ pr_pos
theorem zero_iff {x : Nat} (hx : x < pr) (b : Bool) (hb : b = decide (x = 0)) : b = true ↔ ∀ i, i < 32 → byteOf x i = zeroF i := by
  subst hb
  rw [decide_eq_true_eq]
  constructor
  · rintro rfl i _; unfold byteOf zeroF; rw [Nat.zero_div]
  · intro h
    refine byteOf_inj hx pr_pos fun i hi => ?_
    rw [h i hi]; unfold byteOf zeroF; rw [Nat.zero_div]

set_option maxRecDepth 100000 in
set_option maxHeartbeats 4000000 in
theorem mult_false_false (f : Nat → Nat) (hf : ∀ b, b < 32 → f b < 256) (g : Nat → Nat) (hg : ∀ b, b < 32 → g b < 256) (hw : decide (kVal g < pr) = false) (w : World) (h4 : Four w) : Calls Tryd.prog 41 #[.agg (kArr f), .agg (kArr g)] w fun e w' => e = .returned (.tuple #[.agg (kArr (zeroF)), .int .i64 30]) ∧ Below w.heap.size w w' := by
  skip
  have h4p := h4.pos
  have dof := fof_any g hg
  rw [hw] at dof
  obtain ⟨u0, u1, u2, u3, u4, hu⟩ : ∃ a b c d e, ofL g = ⟨a, b, c, d, e⟩ := ⟨_, _, _, _, _, rfl⟩
  rw [hu] at dof
  unfold Det L5.v limbsV at dof
  dsimp only at dof
  have dr := fun w h => raw_any f hf g hg w h
  obtain ⟨RF, hRF⟩ : ∃ RF, RF = byteOf (rawN (clampF f) (kVal g % two255 % pr)) := ⟨_, rfl⟩
  rw [← hRF] at dr
  refine C_enter Tryd.func41 rfl 26 Tryd.ntmps41 (Nat.le_of_ble_eq_true rfl) (fun a F => ?_)
  have H := Hp.start [] w
  replace F : Fm 26 [] [(0, .agg (kArr f)), (1, .agg (kArr g))] a := F.weak _ (⟨rfl, ⟨rfl, trivial⟩⟩)
  refine C_seqK (fun K hK => ?_)
  refine C_region ?_
  refine T_new F H (by as_aux_lemma => kernel_rfl) (fun ad => .pointer (some ⟨ad, 0, none⟩)) (.cells (kArr f) 23 (0, 0)) (fun w => by as_aux_lemma => kernel_rfl) ?_
  clear F H; intro aq1 a v F H
  refine T_new F H (by as_aux_lemma => kernel_rfl) (fun ad => .pointer (some ⟨ad, 0, none⟩)) (.cells (kArr g) 23 (0, 0)) (fun w => by as_aux_lemma => kernel_rfl) ?_
  clear F H; intro aq2 a v F H
  refine T_new F H (by as_aux_lemma => kernel_rfl) (fun ad => .pointer (some ⟨ad, 0, none⟩)) (.cells z32 23 (0, 0)) (fun w => by as_aux_lemma => kernel_rfl) ?_
  clear F H; intro aq3 a v F H
  refine T_val F H (by as_aux_lemma => kernel_rfl) (.int .i64 0) (fun _ _ => by as_aux_lemma => kernel_rfl) ?_
  clear F; intro a F
  refine T_end (hK _ _ ?_)
  clear hK K
  refine C_seqK (fun K hK => ?_)
  refine C_region ?_
  refine T_val F H (by as_aux_lemma => kernel_rfl) (.agg (kArr g)) (R_load (own := true) (g := aq2) (all := (kArr g)) (t := 23) (fr := (0, 0)) 1 (by as_aux_lemma => kernel_rfl) 23 (.tmp 3) rfl 0 (by as_aux_lemma => kernel_rfl) (kArr g) (part_all _) _ Tryd.underlying23 rfl (by as_aux_lemma => kernel_rfl)) ?_
  clear F; intro a F
  refine T_call F H (by as_aux_lemma => kernel_rfl) 26 #[.agg (kArr g)] (.tuple #[.agg (c5 u0 u1 u2 u3 u4), .bool false]) (fun w => by as_aux_lemma => kernel_rfl) (Calls.kept (dof _)) ?_
  clear F H; intro a v F H
  refine T_val F H (by as_aux_lemma => kernel_rfl) (.tuple #[.agg (c5 u0 u1 u2 u3 u4), .bool false]) (fun _ _ => by as_aux_lemma => kernel_rfl) ?_
  clear F; intro a F
  refine T_val F H (by as_aux_lemma => kernel_rfl) (.agg (c5 u0 u1 u2 u3 u4)) (fun _ _ => by as_aux_lemma => kernel_rfl) ?_
  clear F; intro a F
  refine T_val F H (by as_aux_lemma => kernel_rfl) (.bool false) (fun _ _ => by as_aux_lemma => kernel_rfl) ?_
  clear F; intro a F
  refine T_new F H (by as_aux_lemma => kernel_rfl) (fun ad => .pointer (some ⟨ad, 0, none⟩)) (.cells #[.int .u64 0, .int .u64 0, .int .u64 0, .int .u64 0, .int .u64 0] 33 (0, 0)) (fun w => by as_aux_lemma => kernel_rfl) ?_
  clear F H; intro aq4 a v F H
  refine T_set F H (by as_aux_lemma => kernel_rfl) rfl 0 rfl (c5 u0 u1 u2 u3 u4) (S_row 0 rfl 33 (.tmp 6) (.tmp 12) rfl (by as_aux_lemma => kernel_rfl) (c5 u0 u1 u2 u3 u4) (by as_aux_lemma => kernel_rfl) (by as_aux_lemma => kernel_rfl) (by as_aux_lemma => kernel_rfl) (by as_aux_lemma => kernel_rfl)) [⟨true, aq4, .cells (c5 u0 u1 u2 u3 u4) 33 (0, 0)⟩, ⟨true, aq3, .cells z32 23 (0, 0)⟩, ⟨true, aq2, .cells (kArr g) 23 (0, 0)⟩, ⟨true, aq1, .cells (kArr f) 23 (0, 0)⟩] rfl ?_
  clear F H; intro a v F H
  refine T_val F H (by as_aux_lemma => kernel_rfl) (.bool false) (fun _ _ => by as_aux_lemma => kernel_rfl) ?_
  clear F; intro a F
  refine T_end (hK _ _ ?_)
  clear hK K
  refine C_seqK (fun K hK => ?_)
  refine C_region ?_
  refine T_val F H (by as_aux_lemma => kernel_rfl) (.agg (kArr f)) (R_load (own := true) (g := aq1) (all := (kArr f)) (t := 23) (fr := (0, 0)) 3 (by as_aux_lemma => kernel_rfl) 23 (.tmp 2) rfl 0 (by as_aux_lemma => kernel_rfl) (kArr f) (part_all _) _ Tryd.underlying23 rfl (by as_aux_lemma => kernel_rfl)) ?_
  clear F; intro a F
  refine T_val F H (by as_aux_lemma => kernel_rfl) (.agg (kArr g)) (R_load (own := true) (g := aq2) (all := (kArr g)) (t := 23) (fr := (0, 0)) 2 (by as_aux_lemma => kernel_rfl) 23 (.tmp 3) rfl 0 (by as_aux_lemma => kernel_rfl) (kArr g) (part_all _) _ Tryd.underlying23 rfl (by as_aux_lemma => kernel_rfl)) ?_
  clear F; intro a F
  refine T_call F H (by as_aux_lemma => kernel_rfl) 40 #[.agg (kArr f), .agg (kArr g)] (.agg (kArr RF)) (fun w => by as_aux_lemma => kernel_rfl) (Calls.kept (dr _ (h4.below h4p H.kept.below))) ?_
  clear F H; intro a v F H
  refine T_new F H (by as_aux_lemma => kernel_rfl) (fun ad => .pointer (some ⟨ad, 0, none⟩)) (.cells z32 23 (0, 0)) (fun w => by as_aux_lemma => kernel_rfl) ?_
  clear F H; intro aq5 a v F H
  refine T_set F H (by as_aux_lemma => kernel_rfl) rfl 0 rfl (kArr RF) (S_row 0 rfl 23 (.tmp 8) (.tmp 16) rfl (by as_aux_lemma => kernel_rfl) (kArr RF) (by as_aux_lemma => kernel_rfl) (by as_aux_lemma => kernel_rfl) (by as_aux_lemma => kernel_rfl) (by as_aux_lemma => kernel_rfl)) [⟨true, aq5, .cells (kArr RF) 23 (0, 0)⟩, ⟨true, aq4, .cells (c5 u0 u1 u2 u3 u4) 33 (0, 0)⟩, ⟨true, aq3, .cells z32 23 (0, 0)⟩, ⟨true, aq2, .cells (kArr g) 23 (0, 0)⟩, ⟨true, aq1, .cells (kArr f) 23 (0, 0)⟩] rfl ?_
  clear F H; intro a v F H
  refine T_end (hK _ _ ?_)
  clear hK K
  refine C_seqK (fun K hK => ?_)
  refine C_seqK (fun K hK => ?_)
  refine C_region ?_
  refine T_val F H (by as_aux_lemma => kernel_rfl) (.bool false) (fun _ _ => by as_aux_lemma => kernel_rfl) ?_
  clear F; intro a F
  refine T_val F H (by as_aux_lemma => kernel_rfl) (.bool true) (fun _ _ => by as_aux_lemma => kernel_rfl) ?_
  clear F; intro a F
  refine T_val F H (by as_aux_lemma => kernel_rfl) (.bool true) (fun _ _ => by as_aux_lemma => kernel_rfl) ?_
  clear F; intro a F
  refine T_skip F (by as_aux_lemma => kernel_rfl) (by as_aux_lemma => kernel_rfl) ?_
  clear F; intro a F
  refine T_skip F (by as_aux_lemma => kernel_rfl) (by as_aux_lemma => kernel_rfl) ?_
  clear F; intro a F
  refine T_skip F (by as_aux_lemma => kernel_rfl) (by as_aux_lemma => kernel_rfl) ?_
  clear F; intro a F
  refine T_val F H (by as_aux_lemma => kernel_rfl) (.bool true) (fun _ _ => by as_aux_lemma => kernel_rfl) ?_
  clear F; intro a F
  refine T_end (hK _ _ ?_)
  clear hK K
  refine C_if F true rfl rfl ?_
  refine C_seqK (fun K hK => ?_)
  refine C_region ?_
  refine T_val F H (by as_aux_lemma => kernel_rfl) (.agg (kArr zeroF)) (fun _ _ => by as_aux_lemma => kernel_rfl) ?_
  clear F; intro a F
  refine T_set F H (by as_aux_lemma => kernel_rfl) rfl 2 rfl (kArr zeroF) (S_row 2 rfl 23 (.tmp 4) (.tmp 24) rfl (by as_aux_lemma => kernel_rfl) (kArr zeroF) (by as_aux_lemma => kernel_rfl) (by as_aux_lemma => kernel_rfl) (by as_aux_lemma => kernel_rfl) (by as_aux_lemma => kernel_rfl)) [⟨true, aq5, .cells (kArr RF) 23 (0, 0)⟩, ⟨true, aq4, .cells (c5 u0 u1 u2 u3 u4) 33 (0, 0)⟩, ⟨true, aq3, .cells (kArr zeroF) 23 (0, 0)⟩, ⟨true, aq2, .cells (kArr g) 23 (0, 0)⟩, ⟨true, aq1, .cells (kArr f) 23 (0, 0)⟩] rfl ?_
  clear F H; intro a v F H
  refine T_val F H (by as_aux_lemma => kernel_rfl) (.int .i64 30) (fun _ _ => by as_aux_lemma => kernel_rfl) ?_
  clear F; intro a F
  refine T_end (hK _ _ ?_)
  clear hK K
  refine wp_ret ?_
  repeat (first | with_reducible refine then_ret ?_ | with_reducible refine inB_ret ?_)
  exact C_ret F H (rs := [.cell 4 23, .tmp 5]) rfl (vs := [.agg (kArr zeroF), .int .i64 30]) (.row 2 rfl rfl _ Tryd.underlying23 rfl (by as_aux_lemma => kernel_rfl) (.tmp rfl .nil)) (.tuple #[.agg (kArr zeroF), .int .i64 30]) rfl ⟨rfl, H.kept.below⟩

set_option maxRecDepth 100000 in
set_option maxHeartbeats 4000000 in
theorem mult_true_true (f : Nat → Nat) (hf : ∀ b, b < 32 → f b < 256) (g : Nat → Nat) (hg : ∀ b, b < 32 → g b < 256) (hw : decide (kVal g < pr) = true) (hz0 : decide (sharedN f g = 0) = true) (w : World) (h4 : Four w) : Calls Tryd.prog 41 #[.agg (kArr f), .agg (kArr g)] w fun e w' => e = .returned (.tuple #[.agg (kArr (zeroF)), .int .i64 30]) ∧ Below w.heap.size w w' := by
  have hx := rawN_lt (clampF f) (kVal g % two255 % pr)
  have h4p := h4.pos
  have dof := fof_any g hg
  rw [hw] at dof
  obtain ⟨u0, u1, u2, u3, u4, hu⟩ : ∃ a b c d e, ofL g = ⟨a, b, c, d, e⟩ := ⟨_, _, _, _, _, rfl⟩
  rw [hu] at dof
  unfold Det L5.v limbsV at dof
  dsimp only at dof
  have dr := fun w h => raw_any f hf g hg w h
  obtain ⟨RF, hRF⟩ : ∃ RF, RF = byteOf (rawN (clampF f) (kVal g % two255 % pr)) := ⟨_, rfl⟩
  have hz : true = true ↔ ∀ i, i < 32 → RF i = zeroF i := by rw [hRF]; exact zero_iff hx _ hz0.symm
  rw [← hRF] at dr
  
  refine C_enter Tryd.func41 rfl 26 Tryd.ntmps41 (Nat.le_of_ble_eq_true rfl) (fun a F => ?_)
  have H := Hp.start [] w
  replace F : Fm 26 [] [(0, .agg (kArr f)), (1, .agg (kArr g))] a := F.weak _ (⟨rfl, ⟨rfl, trivial⟩⟩)
  refine C_seqK (fun K hK => ?_)
  refine C_region ?_
  refine T_new F H (by as_aux_lemma => kernel_rfl) (fun ad => .pointer (some ⟨ad, 0, none⟩)) (.cells (kArr f) 23 (0, 0)) (fun w => by as_aux_lemma => kernel_rfl) ?_
  clear F H; intro aq1 a v F H
  refine T_new F H (by as_aux_lemma => kernel_rfl) (fun ad => .pointer (some ⟨ad, 0, none⟩)) (.cells (kArr g) 23 (0, 0)) (fun w => by as_aux_lemma => kernel_rfl) ?_
  clear F H; intro aq2 a v F H
  refine T_new F H (by as_aux_lemma => kernel_rfl) (fun ad => .pointer (some ⟨ad, 0, none⟩)) (.cells z32 23 (0, 0)) (fun w => by as_aux_lemma => kernel_rfl) ?_
  clear F H; intro aq3 a v F H
  refine T_val F H (by as_aux_lemma => kernel_rfl) (.int .i64 0) (fun _ _ => by as_aux_lemma => kernel_rfl) ?_
  clear F; intro a F
  refine T_end (hK _ _ ?_)
  clear hK K
  refine C_seqK (fun K hK => ?_)
  refine C_region ?_
  refine T_val F H (by as_aux_lemma => kernel_rfl) (.agg (kArr g)) (R_load (own := true) (g := aq2) (all := (kArr g)) (t := 23) (fr := (0, 0)) 1 (by as_aux_lemma => kernel_rfl) 23 (.tmp 3) rfl 0 (by as_aux_lemma => kernel_rfl) (kArr g) (part_all _) _ Tryd.underlying23 rfl (by as_aux_lemma => kernel_rfl)) ?_
  clear F; intro a F
  refine T_call F H (by as_aux_lemma => kernel_rfl) 26 #[.agg (kArr g)] (.tuple #[.agg (c5 u0 u1 u2 u3 u4), .bool true]) (fun w => by as_aux_lemma => kernel_rfl) (Calls.kept (dof _)) ?_
  clear F H; intro a v F H
  refine T_val F H (by as_aux_lemma => kernel_rfl) (.tuple #[.agg (c5 u0 u1 u2 u3 u4), .bool true]) (fun _ _ => by as_aux_lemma => kernel_rfl) ?_
  clear F; intro a F
  refine T_val F H (by as_aux_lemma => kernel_rfl) (.agg (c5 u0 u1 u2 u3 u4)) (fun _ _ => by as_aux_lemma => kernel_rfl) ?_
  clear F; intro a F
  refine T_val F H (by as_aux_lemma => kernel_rfl) (.bool true) (fun _ _ => by as_aux_lemma => kernel_rfl) ?_
  clear F; intro a F
  refine T_new F H (by as_aux_lemma => kernel_rfl) (fun ad => .pointer (some ⟨ad, 0, none⟩)) (.cells #[.int .u64 0, .int .u64 0, .int .u64 0, .int .u64 0, .int .u64 0] 33 (0, 0)) (fun w => by as_aux_lemma => kernel_rfl) ?_
  clear F H; intro aq4 a v F H
  refine T_set F H (by as_aux_lemma => kernel_rfl) rfl 0 rfl (c5 u0 u1 u2 u3 u4) (S_row 0 rfl 33 (.tmp 6) (.tmp 12) rfl (by as_aux_lemma => kernel_rfl) (c5 u0 u1 u2 u3 u4) (by as_aux_lemma => kernel_rfl) (by as_aux_lemma => kernel_rfl) (by as_aux_lemma => kernel_rfl) (by as_aux_lemma => kernel_rfl)) [⟨true, aq4, .cells (c5 u0 u1 u2 u3 u4) 33 (0, 0)⟩, ⟨true, aq3, .cells z32 23 (0, 0)⟩, ⟨true, aq2, .cells (kArr g) 23 (0, 0)⟩, ⟨true, aq1, .cells (kArr f) 23 (0, 0)⟩] rfl ?_
  clear F H; intro a v F H
  refine T_val F H (by as_aux_lemma => kernel_rfl) (.bool true) (fun _ _ => by as_aux_lemma => kernel_rfl) ?_
  clear F; intro a F
  refine T_end (hK _ _ ?_)
  clear hK K
  refine C_seqK (fun K hK => ?_)
  refine C_region ?_
  refine T_val F H (by as_aux_lemma => kernel_rfl) (.agg (kArr f)) (R_load (own := true) (g := aq1) (all := (kArr f)) (t := 23) (fr := (0, 0)) 3 (by as_aux_lemma => kernel_rfl) 23 (.tmp 2) rfl 0 (by as_aux_lemma => kernel_rfl) (kArr f) (part_all _) _ Tryd.underlying23 rfl (by as_aux_lemma => kernel_rfl)) ?_
  clear F; intro a F
  refine T_val F H (by as_aux_lemma => kernel_rfl) (.agg (kArr g)) (R_load (own := true) (g := aq2) (all := (kArr g)) (t := 23) (fr := (0, 0)) 2 (by as_aux_lemma => kernel_rfl) 23 (.tmp 3) rfl 0 (by as_aux_lemma => kernel_rfl) (kArr g) (part_all _) _ Tryd.underlying23 rfl (by as_aux_lemma => kernel_rfl)) ?_
  clear F; intro a F
  refine T_call F H (by as_aux_lemma => kernel_rfl) 40 #[.agg (kArr f), .agg (kArr g)] (.agg (kArr RF)) (fun w => by as_aux_lemma => kernel_rfl) (Calls.kept (dr _ (h4.below h4p H.kept.below))) ?_
  clear F H; intro a v F H
  refine T_new F H (by as_aux_lemma => kernel_rfl) (fun ad => .pointer (some ⟨ad, 0, none⟩)) (.cells z32 23 (0, 0)) (fun w => by as_aux_lemma => kernel_rfl) ?_
  clear F H; intro aq5 a v F H
  refine T_set F H (by as_aux_lemma => kernel_rfl) rfl 0 rfl (kArr RF) (S_row 0 rfl 23 (.tmp 8) (.tmp 16) rfl (by as_aux_lemma => kernel_rfl) (kArr RF) (by as_aux_lemma => kernel_rfl) (by as_aux_lemma => kernel_rfl) (by as_aux_lemma => kernel_rfl) (by as_aux_lemma => kernel_rfl)) [⟨true, aq5, .cells (kArr RF) 23 (0, 0)⟩, ⟨true, aq4, .cells (c5 u0 u1 u2 u3 u4) 33 (0, 0)⟩, ⟨true, aq3, .cells z32 23 (0, 0)⟩, ⟨true, aq2, .cells (kArr g) 23 (0, 0)⟩, ⟨true, aq1, .cells (kArr f) 23 (0, 0)⟩] rfl ?_
  clear F H; intro a v F H
  refine T_end (hK _ _ ?_)
  clear hK K
  refine C_seqK (fun K hK => ?_)
  refine C_seqK (fun K hK => ?_)
  refine C_region ?_
  refine T_val F H (by as_aux_lemma => kernel_rfl) (.bool true) (fun _ _ => by as_aux_lemma => kernel_rfl) ?_
  clear F; intro a F
  refine T_val F H (by as_aux_lemma => kernel_rfl) (.bool false) (fun _ _ => by as_aux_lemma => kernel_rfl) ?_
  clear F; intro a F
  refine T_val F H (by as_aux_lemma => kernel_rfl) (.bool false) (fun _ _ => by as_aux_lemma => kernel_rfl) ?_
  clear F; intro a F
  refine T_val F H (by as_aux_lemma => kernel_rfl) (.agg (kArr RF)) (R_load (own := true) (g := aq5) (all := (kArr RF)) (t := 23) (fr := (0, 0)) 0 (by as_aux_lemma => kernel_rfl) 23 (.tmp 8) rfl 0 (by as_aux_lemma => kernel_rfl) (kArr RF) (part_all _) _ Tryd.underlying23 rfl (by as_aux_lemma => kernel_rfl)) ?_
  clear F; intro a F
  refine T_val F H (by as_aux_lemma => kernel_rfl) (.agg (kArr zeroF)) (fun _ _ => by as_aux_lemma => kernel_rfl) ?_
  clear F; intro a F
  refine T_val F H (by as_aux_lemma => kernel_rfl) (.bool true) (fun w _ => R_eqk (x := (.tmp 20)) (y := (.tmp 21)) rfl RF zeroF (by as_aux_lemma => kernel_rfl) (by as_aux_lemma => kernel_rfl) true hz w) ?_
  clear F; intro a F
  refine T_val F H (by as_aux_lemma => kernel_rfl) (.bool true) (fun _ _ => by as_aux_lemma => kernel_rfl) ?_
  clear F; intro a F
  refine T_end (hK _ _ ?_)
  clear hK K
  refine C_if F true rfl rfl ?_
  refine C_seqK (fun K hK => ?_)
  refine C_region ?_
  refine T_val F H (by as_aux_lemma => kernel_rfl) (.agg (kArr zeroF)) (fun _ _ => by as_aux_lemma => kernel_rfl) ?_
  clear F; intro a F
  refine T_set F H (by as_aux_lemma => kernel_rfl) rfl 2 rfl (kArr zeroF) (S_row 2 rfl 23 (.tmp 4) (.tmp 24) rfl (by as_aux_lemma => kernel_rfl) (kArr zeroF) (by as_aux_lemma => kernel_rfl) (by as_aux_lemma => kernel_rfl) (by as_aux_lemma => kernel_rfl) (by as_aux_lemma => kernel_rfl)) [⟨true, aq5, .cells (kArr RF) 23 (0, 0)⟩, ⟨true, aq4, .cells (c5 u0 u1 u2 u3 u4) 33 (0, 0)⟩, ⟨true, aq3, .cells (kArr zeroF) 23 (0, 0)⟩, ⟨true, aq2, .cells (kArr g) 23 (0, 0)⟩, ⟨true, aq1, .cells (kArr f) 23 (0, 0)⟩] rfl ?_
  clear F H; intro a v F H
  refine T_val F H (by as_aux_lemma => kernel_rfl) (.int .i64 30) (fun _ _ => by as_aux_lemma => kernel_rfl) ?_
  clear F; intro a F
  refine T_end (hK _ _ ?_)
  clear hK K
  refine wp_ret ?_
  repeat (first | with_reducible refine then_ret ?_ | with_reducible refine inB_ret ?_)
  exact C_ret F H (rs := [.cell 4 23, .tmp 5]) rfl (vs := [.agg (kArr zeroF), .int .i64 30]) (.row 2 rfl rfl _ Tryd.underlying23 rfl (by as_aux_lemma => kernel_rfl) (.tmp rfl .nil)) (.tuple #[.agg (kArr zeroF), .int .i64 30]) rfl ⟨rfl, H.kept.below⟩

set_option maxRecDepth 100000 in
set_option maxHeartbeats 4000000 in
theorem mult_true_false (f : Nat → Nat) (hf : ∀ b, b < 32 → f b < 256) (g : Nat → Nat) (hg : ∀ b, b < 32 → g b < 256) (hw : decide (kVal g < pr) = true) (hz0 : decide (sharedN f g = 0) = false) (w : World) (h4 : Four w) : Calls Tryd.prog 41 #[.agg (kArr f), .agg (kArr g)] w fun e w' => e = .returned (.tuple #[.agg (kArr (byteOf (rawN (clampF f) (kVal g % two255 % pr)))), .int .i64 0]) ∧ Below w.heap.size w w' := by
  have hx := rawN_lt (clampF f) (kVal g % two255 % pr)
  have h4p := h4.pos
  have dof := fof_any g hg
  rw [hw] at dof
  obtain ⟨u0, u1, u2, u3, u4, hu⟩ : ∃ a b c d e, ofL g = ⟨a, b, c, d, e⟩ := ⟨_, _, _, _, _, rfl⟩
  rw [hu] at dof
  unfold Det L5.v limbsV at dof
  dsimp only at dof
  have dr := fun w h => raw_any f hf g hg w h
  obtain ⟨RF, hRF⟩ : ∃ RF, RF = byteOf (rawN (clampF f) (kVal g % two255 % pr)) := ⟨_, rfl⟩
  have hz : false = true ↔ ∀ i, i < 32 → RF i = zeroF i := by rw [hRF]; exact zero_iff hx _ hz0.symm
  rw [← hRF] at dr
  rw [← hRF]
  refine C_enter Tryd.func41 rfl 26 Tryd.ntmps41 (Nat.le_of_ble_eq_true rfl) (fun a F => ?_)
  have H := Hp.start [] w
  replace F : Fm 26 [] [(0, .agg (kArr f)), (1, .agg (kArr g))] a := F.weak _ (⟨rfl, ⟨rfl, trivial⟩⟩)
  refine C_seqK (fun K hK => ?_)
  refine C_region ?_
  refine T_new F H (by as_aux_lemma => kernel_rfl) (fun ad => .pointer (some ⟨ad, 0, none⟩)) (.cells (kArr f) 23 (0, 0)) (fun w => by as_aux_lemma => kernel_rfl) ?_
  clear F H; intro aq1 a v F H
  refine T_new F H (by as_aux_lemma => kernel_rfl) (fun ad => .pointer (some ⟨ad, 0, none⟩)) (.cells (kArr g) 23 (0, 0)) (fun w => by as_aux_lemma => kernel_rfl) ?_
  clear F H; intro aq2 a v F H
  refine T_new F H (by as_aux_lemma => kernel_rfl) (fun ad => .pointer (some ⟨ad, 0, none⟩)) (.cells z32 23 (0, 0)) (fun w => by as_aux_lemma => kernel_rfl) ?_
  clear F H; intro aq3 a v F H
  refine T_val F H (by as_aux_lemma => kernel_rfl) (.int .i64 0) (fun _ _ => by as_aux_lemma => kernel_rfl) ?_
  clear F; intro a F
  refine T_end (hK _ _ ?_)
  clear hK K
  refine C_seqK (fun K hK => ?_)
  refine C_region ?_
  refine T_val F H (by as_aux_lemma => kernel_rfl) (.agg (kArr g)) (R_load (own := true) (g := aq2) (all := (kArr g)) (t := 23) (fr := (0, 0)) 1 (by as_aux_lemma => kernel_rfl) 23 (.tmp 3) rfl 0 (by as_aux_lemma => kernel_rfl) (kArr g) (part_all _) _ Tryd.underlying23 rfl (by as_aux_lemma => kernel_rfl)) ?_
  clear F; intro a F
  refine T_call F H (by as_aux_lemma => kernel_rfl) 26 #[.agg (kArr g)] (.tuple #[.agg (c5 u0 u1 u2 u3 u4), .bool true]) (fun w => by as_aux_lemma => kernel_rfl) (Calls.kept (dof _)) ?_
  clear F H; intro a v F H
  refine T_val F H (by as_aux_lemma => kernel_rfl) (.tuple #[.agg (c5 u0 u1 u2 u3 u4), .bool true]) (fun _ _ => by as_aux_lemma => kernel_rfl) ?_
  clear F; intro a F
  refine T_val F H (by as_aux_lemma => kernel_rfl) (.agg (c5 u0 u1 u2 u3 u4)) (fun _ _ => by as_aux_lemma => kernel_rfl) ?_
  clear F; intro a F
  refine T_val F H (by as_aux_lemma => kernel_rfl) (.bool true) (fun _ _ => by as_aux_lemma => kernel_rfl) ?_
  clear F; intro a F
  refine T_new F H (by as_aux_lemma => kernel_rfl) (fun ad => .pointer (some ⟨ad, 0, none⟩)) (.cells #[.int .u64 0, .int .u64 0, .int .u64 0, .int .u64 0, .int .u64 0] 33 (0, 0)) (fun w => by as_aux_lemma => kernel_rfl) ?_
  clear F H; intro aq4 a v F H
  refine T_set F H (by as_aux_lemma => kernel_rfl) rfl 0 rfl (c5 u0 u1 u2 u3 u4) (S_row 0 rfl 33 (.tmp 6) (.tmp 12) rfl (by as_aux_lemma => kernel_rfl) (c5 u0 u1 u2 u3 u4) (by as_aux_lemma => kernel_rfl) (by as_aux_lemma => kernel_rfl) (by as_aux_lemma => kernel_rfl) (by as_aux_lemma => kernel_rfl)) [⟨true, aq4, .cells (c5 u0 u1 u2 u3 u4) 33 (0, 0)⟩, ⟨true, aq3, .cells z32 23 (0, 0)⟩, ⟨true, aq2, .cells (kArr g) 23 (0, 0)⟩, ⟨true, aq1, .cells (kArr f) 23 (0, 0)⟩] rfl ?_
  clear F H; intro a v F H
  refine T_val F H (by as_aux_lemma => kernel_rfl) (.bool true) (fun _ _ => by as_aux_lemma => kernel_rfl) ?_
  clear F; intro a F
  refine T_end (hK _ _ ?_)
  clear hK K
  refine C_seqK (fun K hK => ?_)
  refine C_region ?_
  refine T_val F H (by as_aux_lemma => kernel_rfl) (.agg (kArr f)) (R_load (own := true) (g := aq1) (all := (kArr f)) (t := 23) (fr := (0, 0)) 3 (by as_aux_lemma => kernel_rfl) 23 (.tmp 2) rfl 0 (by as_aux_lemma => kernel_rfl) (kArr f) (part_all _) _ Tryd.underlying23 rfl (by as_aux_lemma => kernel_rfl)) ?_
  clear F; intro a F
  refine T_val F H (by as_aux_lemma => kernel_rfl) (.agg (kArr g)) (R_load (own := true) (g := aq2) (all := (kArr g)) (t := 23) (fr := (0, 0)) 2 (by as_aux_lemma => kernel_rfl) 23 (.tmp 3) rfl 0 (by as_aux_lemma => kernel_rfl) (kArr g) (part_all _) _ Tryd.underlying23 rfl (by as_aux_lemma => kernel_rfl)) ?_
  clear F; intro a F
  refine T_call F H (by as_aux_lemma => kernel_rfl) 40 #[.agg (kArr f), .agg (kArr g)] (.agg (kArr RF)) (fun w => by as_aux_lemma => kernel_rfl) (Calls.kept (dr _ (h4.below h4p H.kept.below))) ?_
  clear F H; intro a v F H
  refine T_new F H (by as_aux_lemma => kernel_rfl) (fun ad => .pointer (some ⟨ad, 0, none⟩)) (.cells z32 23 (0, 0)) (fun w => by as_aux_lemma => kernel_rfl) ?_
  clear F H; intro aq5 a v F H
  refine T_set F H (by as_aux_lemma => kernel_rfl) rfl 0 rfl (kArr RF) (S_row 0 rfl 23 (.tmp 8) (.tmp 16) rfl (by as_aux_lemma => kernel_rfl) (kArr RF) (by as_aux_lemma => kernel_rfl) (by as_aux_lemma => kernel_rfl) (by as_aux_lemma => kernel_rfl) (by as_aux_lemma => kernel_rfl)) [⟨true, aq5, .cells (kArr RF) 23 (0, 0)⟩, ⟨true, aq4, .cells (c5 u0 u1 u2 u3 u4) 33 (0, 0)⟩, ⟨true, aq3, .cells z32 23 (0, 0)⟩, ⟨true, aq2, .cells (kArr g) 23 (0, 0)⟩, ⟨true, aq1, .cells (kArr f) 23 (0, 0)⟩] rfl ?_
  clear F H; intro a v F H
  refine T_end (hK _ _ ?_)
  clear hK K
  refine C_seqK (fun K hK => ?_)
  refine C_seqK (fun K hK => ?_)
  refine C_region ?_
  refine T_val F H (by as_aux_lemma => kernel_rfl) (.bool true) (fun _ _ => by as_aux_lemma => kernel_rfl) ?_
  clear F; intro a F
  refine T_val F H (by as_aux_lemma => kernel_rfl) (.bool false) (fun _ _ => by as_aux_lemma => kernel_rfl) ?_
  clear F; intro a F
  refine T_val F H (by as_aux_lemma => kernel_rfl) (.bool false) (fun _ _ => by as_aux_lemma => kernel_rfl) ?_
  clear F; intro a F
  refine T_val F H (by as_aux_lemma => kernel_rfl) (.agg (kArr RF)) (R_load (own := true) (g := aq5) (all := (kArr RF)) (t := 23) (fr := (0, 0)) 0 (by as_aux_lemma => kernel_rfl) 23 (.tmp 8) rfl 0 (by as_aux_lemma => kernel_rfl) (kArr RF) (part_all _) _ Tryd.underlying23 rfl (by as_aux_lemma => kernel_rfl)) ?_
  clear F; intro a F
  refine T_val F H (by as_aux_lemma => kernel_rfl) (.agg (kArr zeroF)) (fun _ _ => by as_aux_lemma => kernel_rfl) ?_
  clear F; intro a F
  refine T_val F H (by as_aux_lemma => kernel_rfl) (.bool false) (fun w _ => R_eqk (x := (.tmp 20)) (y := (.tmp 21)) rfl RF zeroF (by as_aux_lemma => kernel_rfl) (by as_aux_lemma => kernel_rfl) false hz w) ?_
  clear F; intro a F
  refine T_val F H (by as_aux_lemma => kernel_rfl) (.bool false) (fun _ _ => by as_aux_lemma => kernel_rfl) ?_
  clear F; intro a F
  refine T_end (hK _ _ ?_)
  clear hK K
  refine C_if F false rfl rfl ?_
  refine wp_skip ?_
  refine hK _ _ ?_
  clear hK K
  refine C_seqK (fun K hK => ?_)
  refine C_region ?_
  refine T_val F H (by as_aux_lemma => kernel_rfl) (.agg (kArr RF)) (R_load (own := true) (g := aq5) (all := (kArr RF)) (t := 23) (fr := (0, 0)) 0 (by as_aux_lemma => kernel_rfl) 23 (.tmp 8) rfl 0 (by as_aux_lemma => kernel_rfl) (kArr RF) (part_all _) _ Tryd.underlying23 rfl (by as_aux_lemma => kernel_rfl)) ?_
  clear F; intro a F
  refine T_set F H (by as_aux_lemma => kernel_rfl) rfl 2 rfl (kArr RF) (S_row 2 rfl 23 (.tmp 4) (.tmp 25) rfl (by as_aux_lemma => kernel_rfl) (kArr RF) (by as_aux_lemma => kernel_rfl) (by as_aux_lemma => kernel_rfl) (by as_aux_lemma => kernel_rfl) (by as_aux_lemma => kernel_rfl)) [⟨true, aq5, .cells (kArr RF) 23 (0, 0)⟩, ⟨true, aq4, .cells (c5 u0 u1 u2 u3 u4) 33 (0, 0)⟩, ⟨true, aq3, .cells (kArr RF) 23 (0, 0)⟩, ⟨true, aq2, .cells (kArr g) 23 (0, 0)⟩, ⟨true, aq1, .cells (kArr f) 23 (0, 0)⟩] rfl ?_
  clear F H; intro a v F H
  refine T_val F H (by as_aux_lemma => kernel_rfl) (.int .i64 0) (fun _ _ => by as_aux_lemma => kernel_rfl) ?_
  clear F; intro a F
  refine T_end (hK _ _ ?_)
  clear hK K
  refine wp_ret ?_
  exact C_ret F H (rs := [.cell 4 23, .tmp 5]) rfl (vs := [.agg (kArr RF), .int .i64 0]) (.row 2 rfl rfl _ Tryd.underlying23 rfl (by as_aux_lemma => kernel_rfl) (.tmp rfl .nil)) (.tuple #[.agg (kArr RF), .int .i64 0]) rfl ⟨rfl, H.kept.below⟩

theorem mult_any (f : Nat → Nat) (hf : ∀ b, b < 32 → f b < 256) (g : Nat → Nat) (hg : ∀ b, b < 32 → g b < 256) (w : World) (h4 : Four w) : Calls Tryd.prog 41 #[.agg (kArr f), .agg (kArr g)] w fun e w' => e = .returned (.tuple #[.agg (kArr (multK f g)), .int .i64 (multE f g)]) ∧ Below w.heap.size w w' := by
  cases hw : decide (kVal g < pr) with
  | false =>
    have h1 : multOK f g = false := by unfold multOK; rw [hw]; rfl
    have h2 : multK f g = zeroF := by unfold multK; rw [h1]; rfl
    have h3 : multE f g = 30 := by unfold multE; rw [h1]; rfl
    rw [h2, h3]; exact mult_false_false f hf g hg hw w h4
  | true =>
    cases hz : decide (sharedN f g = 0) with
    | true =>
      have h1 : multOK f g = false := by unfold multOK; rw [hw, hz]; rfl
      have h2 : multK f g = zeroF := by unfold multK; rw [h1]; rfl
      have h3 : multE f g = 30 := by unfold multE; rw [h1]; rfl
      rw [h2, h3]; exact mult_true_true f hf g hg hw hz w h4
    | false =>
      have h1 : multOK f g = true := by unfold multOK; rw [hw, hz]; rfl
      have h2 : multK f g = byteOf (sharedN f g) := by unfold multK; rw [h1]; rfl
      have h3 : multE f g = 0 := by unfold multE; rw [h1]; rfl
      rw [h2, h3]; exact mult_true_false f hf g hg hw hz w h4

set_option maxRecDepth 100000 in
set_option maxHeartbeats 4000000 in
theorem public_any (f : Nat → Nat) (hf : ∀ b, b < 32 → f b < 256) (w : World) (h4 : Four w) : Calls Tryd.prog 50 #[.agg (kArr f)] w fun e w' => e = .returned (.agg (kArr (byteOf (sharedN f nineF)))) ∧ Below w.heap.size w w' := by
  have h4p := h4.pos
  have dr := fun w h => raw_any f hf nineF nineF_lt w h
  obtain ⟨RF, hRF⟩ : ∃ RF, RF = byteOf (rawN (clampF f) (kVal nineF % two255 % pr)) := ⟨_, rfl⟩
  rw [← hRF] at dr
  refine C_enter Tryd.func50 rfl 6 Tryd.ntmps50 (Nat.le_of_ble_eq_true rfl) (fun a F => ?_)
  have H := Hp.start [] w
  replace F : Fm 6 [] [(0, .agg (kArr f))] a := F.weak _ (⟨rfl, trivial⟩)
  refine C_seqK (fun K hK => ?_)
  refine C_region ?_
  refine T_new F H (by as_aux_lemma => kernel_rfl) (fun ad => .pointer (some ⟨ad, 0, none⟩)) (.cells (kArr f) 23 (0, 0)) (fun w => by as_aux_lemma => kernel_rfl) ?_
  clear F H; intro aq1 a v F H
  refine T_new F H (by as_aux_lemma => kernel_rfl) (fun ad => .pointer (some ⟨ad, 0, none⟩)) (.cells z32 23 (0, 0)) (fun w => by as_aux_lemma => kernel_rfl) ?_
  clear F H; intro aq2 a v F H
  refine T_end (hK _ _ ?_)
  clear hK K
  refine C_seqK (fun K hK => ?_)
  refine C_region ?_
  refine T_val F H (by as_aux_lemma => kernel_rfl) (.agg (kArr f)) (R_load (own := true) (g := aq1) (all := (kArr f)) (t := 23) (fr := (0, 0)) 1 (by as_aux_lemma => kernel_rfl) 23 (.tmp 1) rfl 0 (by as_aux_lemma => kernel_rfl) (kArr f) (part_all _) _ Tryd.underlying23 rfl (by as_aux_lemma => kernel_rfl)) ?_
  clear F; intro a F
  refine T_val F H (by as_aux_lemma => kernel_rfl) (.agg (kArr nineF)) (fun _ _ => by as_aux_lemma => kernel_rfl) ?_
  clear F; intro a F
  refine T_call F H (by as_aux_lemma => kernel_rfl) 40 #[.agg (kArr f), .agg (kArr nineF)] (.agg (kArr RF)) (fun w => by as_aux_lemma => kernel_rfl) (Calls.kept (dr _ (h4.below h4p H.kept.below))) ?_
  clear F H; intro a v F H
  refine T_set F H (by as_aux_lemma => kernel_rfl) rfl 0 rfl (kArr RF) (S_row 0 rfl 23 (.tmp 2) (.tmp 5) rfl (by as_aux_lemma => kernel_rfl) (kArr RF) (by as_aux_lemma => kernel_rfl) (by as_aux_lemma => kernel_rfl) (by as_aux_lemma => kernel_rfl) (by as_aux_lemma => kernel_rfl)) [⟨true, aq2, .cells (kArr RF) 23 (0, 0)⟩, ⟨true, aq1, .cells (kArr f) 23 (0, 0)⟩] rfl ?_
  clear F H; intro a v F H
  refine T_end (hK _ _ ?_)
  clear hK K
  refine wp_ret ?_
  exact C_ret F H (rs := [.cell 2 23]) rfl (vs := [.agg (kArr RF)]) (.row 0 rfl rfl _ Tryd.underlying23 rfl (by as_aux_lemma => kernel_rfl) .nil) (.agg (kArr RF)) rfl ⟨congrArg Ending.returned (congrArg Value.agg (congrArg kArr hRF)), H.kept.below⟩

/-- The number that octets make, the highest one first. -/
def hiN (f : Nat → Nat) (off : Nat) : Nat → Nat
  | 0 => 0
  | k + 1 => hiN f off k * 256 + f (off + k)
theorem hiN_lt {f : Nat → Nat} (hf : ∀ b, b < 32 → f b < 256) {off : Nat} : ∀ {k : Nat}, off + k ≤ 32 → hiN f off k < 256 ^ k
  | 0, _ => by show 0 < 1; omega
  | k + 1, h => by
    have h1 := hiN_lt hf (off := off) (k := k) (by omega)
    have h2 := hf (off + k) (by omega)
    have h3 : 256 ^ (k + 1) = 256 ^ k * 256 := Nat.pow_succ _ _
    rw [h3]
    show hiN f off k * 256 + f (off + k) < _
    omega
set_option maxRecDepth 100000 in
set_option maxHeartbeats 4000000 in
theorem ofHigh_any (f : Nat → Nat) (hf : ∀ b, b < 32 → f b < 256) (ad off len cp : Nat) (hl : len ≤ 8) (ho : off + len ≤ 32) (w : World) (hblk : w.heap[ad]? = some (.cells (kArr f) 23 (0, 0))) : Calls Tryd.prog 60 #[.slice (some ⟨ad, off, none⟩) len cp] w fun e w' => e = .returned (.int .u64 ((hiN f off len : Nat) : Int)) ∧ Below w.heap.size w w' := by
  have H := Hp.start1 [] hblk
  refine C_enter Tryd.func60 rfl 24 Tryd.ntmps60 (Nat.le_of_ble_eq_true rfl) (fun a F => ?_)
  skip
  replace F : Fm 24 [] [(0, .slice (some ⟨ad, off, none⟩) len cp)] a := F.weak _ (⟨rfl, trivial⟩)
  refine C_seqK (fun K hK => ?_)
  refine C_region ?_
  refine T_val F H (by as_aux_lemma => kernel_rfl) (.int .u64 0) (fun _ _ => by as_aux_lemma => kernel_rfl) ?_
  clear F; intro a F
  refine T_end (hK _ _ ?_)
  clear hK K
  refine C_seqK (fun K hK => ?_)
  refine C_region ?_
  refine T_val F H (by as_aux_lemma => kernel_rfl) (.int .u64 0) (fun _ _ => by as_aux_lemma => kernel_rfl) ?_
  clear F; intro a F
  refine T_end (hK _ _ ?_)
  clear hK K
  refine C_seqK (fun K hK => ?_)
  refine C_seqK (fun K hK => ?_)
  refine C_region ?_
  refine T_val F H (by as_aux_lemma => kernel_rfl) (.int .i64 0) (fun _ _ => by as_aux_lemma => kernel_rfl) ?_
  clear F; intro a F
  refine T_end (hK _ _ ?_)
  clear hK K
  replace F : Fm 24 [] [(4, .int .i64 0), (3, .int .u64 0), (0, .slice (some ⟨ad, off, none⟩) len cp), (2, .int .u64 0)] a := F.weak _ (⟨rfl, ⟨rfl, ⟨rfl, ⟨rfl, trivial⟩⟩⟩⟩)
  refine wp_block ?_
  refine C_loop (fun m a v => ∃ k, k + m = len ∧ Fm 24 [] [(4, .int .i64 ((k : Nat) : Int)), (3, .int .u64 ((hiN f off (k) : Nat) : Int)), (0, .slice (some ⟨ad, off, none⟩) len cp), (2, .int .u64 0)] a ∧ Hp [] w [⟨false, ad, .cells (kArr f) 23 (0, 0)⟩] v) len ⟨0, Nat.zero_add _, F, H⟩ ?_
  clear F H
  intro m a v ⟨k, hk, F, H⟩
  refine C_seqK (fun K1 hK1 => ?_)
  rcases m with _ | m
  · refine C_seqK (fun K hK => ?_)
    refine C_region ?_
    refine T_val F H (by as_aux_lemma => kernel_rfl) (.int .i64 ((k : Nat) : Int)) (fun _ _ => by as_aux_lemma => kernel_rfl) ?_
    clear F; intro a F
    refine T_val F H (by as_aux_lemma => kernel_rfl) (.slice (some ⟨ad, off, none⟩) len cp) (fun _ _ => by as_aux_lemma => kernel_rfl) ?_
    clear F; intro a F
    refine T_val F H (by as_aux_lemma => kernel_rfl) (.int .i64 ((len : Nat) : Int)) (fun _ _ => by as_aux_lemma => kernel_rfl) ?_
    clear F; intro a F
    refine T_val F H (by as_aux_lemma => kernel_rfl) (.bool false) (fun w _ => R_bin (x := (.tmp 5)) (y := (.tmp 7)) rfl (k := .i64) (a := ((k : Nat) : Int)) (b := ((len : Nat) : Int)) (by as_aux_lemma => kernel_rfl) (by as_aux_lemma => kernel_rfl) (i_nlt (by omega)) w) ?_
    clear F; intro a F
    refine T_val F H (by as_aux_lemma => kernel_rfl) (.bool false) (fun _ _ => by as_aux_lemma => kernel_rfl) ?_
    clear F; intro a F
    refine T_skip F (by as_aux_lemma => kernel_rfl) (by as_aux_lemma => kernel_rfl) ?_
    clear F; intro a F
    refine T_skip F (by as_aux_lemma => kernel_rfl) (by as_aux_lemma => kernel_rfl) ?_
    clear F; intro a F
    refine T_val F H (by as_aux_lemma => kernel_rfl) (.bool false) (fun _ _ => by as_aux_lemma => kernel_rfl) ?_
    clear F; intro a F
    refine T_end (hK _ _ ?_)
    clear hK K
    refine C_if F false rfl rfl ?_
    refine wp_exit ?_
    refine hK _ _ ?_
    clear hK1 K1 hK K
    obtain rfl : k = len := by omega
    refine C_seqK (fun K hK => ?_)
    refine C_region ?_
    refine T_val F H (by as_aux_lemma => kernel_rfl) (.int .u64 ((hiN f off k : Nat) : Int)) (fun _ _ => by as_aux_lemma => kernel_rfl) ?_
    clear F; intro a F
    refine T_val F H (by as_aux_lemma => kernel_rfl) (.int .u64 ((hiN f off k : Nat) : Int)) (fun _ _ => by as_aux_lemma => kernel_rfl) ?_
    clear F; intro a F
    refine T_end (hK _ _ ?_)
    clear hK K
    refine wp_ret ?_
    exact C_ret F H (rs := [.tmp 2]) rfl (vs := [.int .u64 ((hiN f off k : Nat) : Int)]) (.tmp rfl .nil) (.int .u64 ((hiN f off k : Nat) : Int)) rfl ⟨rfl, H.kept.below⟩
  · refine C_seqK (fun K hK => ?_)
    refine C_region ?_
    refine T_val F H (by as_aux_lemma => kernel_rfl) (.int .i64 ((k : Nat) : Int)) (fun _ _ => by as_aux_lemma => kernel_rfl) ?_
    clear F; intro a F
    refine T_val F H (by as_aux_lemma => kernel_rfl) (.slice (some ⟨ad, off, none⟩) len cp) (fun _ _ => by as_aux_lemma => kernel_rfl) ?_
    clear F; intro a F
    refine T_val F H (by as_aux_lemma => kernel_rfl) (.int .i64 ((len : Nat) : Int)) (fun _ _ => by as_aux_lemma => kernel_rfl) ?_
    clear F; intro a F
    refine T_val F H (by as_aux_lemma => kernel_rfl) (.bool true) (fun w _ => R_bin (x := (.tmp 5)) (y := (.tmp 7)) rfl (k := .i64) (a := ((k : Nat) : Int)) (b := ((len : Nat) : Int)) (by as_aux_lemma => kernel_rfl) (by as_aux_lemma => kernel_rfl) (i_lt (by omega)) w) ?_
    clear F; intro a F
    refine T_val F H (by as_aux_lemma => kernel_rfl) (.bool true) (fun _ _ => by as_aux_lemma => kernel_rfl) ?_
    clear F; intro a F
    refine T_val F H (by as_aux_lemma => kernel_rfl) (.int .i64 ((k : Nat) : Int)) (fun _ _ => by as_aux_lemma => kernel_rfl) ?_
    clear F; intro a F
    refine T_val F H (by as_aux_lemma => kernel_rfl) (.bool true) (fun w _ => R_bin (x := (.tmp 10)) (y := (.const (.int .i64 8))) rfl (k := .i64) (a := ((k : Nat) : Int)) (b := 8) (by as_aux_lemma => kernel_rfl) (by as_aux_lemma => kernel_rfl) (i_lt (by omega)) w) ?_
    clear F; intro a F
    refine T_val F H (by as_aux_lemma => kernel_rfl) (.bool true) (fun _ _ => by as_aux_lemma => kernel_rfl) ?_
    clear F; intro a F
    refine T_end (hK _ _ ?_)
    clear hK K
    refine C_if F true rfl rfl ?_
    refine wp_skip ?_
    refine hK1 _ _ ?_
    clear hK1 K1
    replace F : Fm 24 [] [(4, .int .i64 ((k : Nat) : Int)), (3, .int .u64 ((hiN f off k : Nat) : Int)), (0, .slice (some ⟨ad, off, none⟩) len cp), (2, .int .u64 0)] a := F.weak _ (⟨rfl, ⟨rfl, ⟨rfl, ⟨rfl, trivial⟩⟩⟩⟩)
    have hb := hf (off + k) (by omega)
    have hp := hiN_lt hf (off := off) (k := k) (by omega)
    have hq := hiN_lt hf (off := off) (k := k + 1) (by omega)
    have hr : 256 ^ (k + 1) ≤ 256 ^ 8 := Nat.pow_le_pow_right (by omega) (by omega)
    have h8 : 256 ^ 8 = 18446744073709551616 := by decide
    rw [h8] at hr
    have hs : hiN f off (k + 1) = hiN f off k * 256 + f (off + k) := rfl
    clear h8
    refine C_seqK (fun K2 hK2 => ?_)
    refine wp_block ?_
    refine C_region ?_
    refine T_val F H (by as_aux_lemma => kernel_rfl) (.int .u64 ((hiN f off k : Nat) : Int)) (fun _ _ => by as_aux_lemma => kernel_rfl) ?_
    clear F; intro a F
    refine T_val F H (by as_aux_lemma => kernel_rfl) (.int .u64 ((hiN f off k * 256 : Nat) : Int)) (fun w _ => R_bin (x := (.tmp 15)) (y := (.const (.int .u64 256))) rfl (k := .u64) (a := ((hiN f off k : Nat) : Int)) (b := 256) (by as_aux_lemma => kernel_rfl) (by as_aux_lemma => kernel_rfl) (i_mulu64 (a := hiN f off k) (b := 256) (by omega)) w) ?_
    clear F; intro a F
    refine T_val F H (by as_aux_lemma => kernel_rfl) (.slice (some ⟨ad, off, none⟩) len cp) (fun _ _ => by as_aux_lemma => kernel_rfl) ?_
    clear F; intro a F
    refine T_val F H (by as_aux_lemma => kernel_rfl) (.int .i64 ((k : Nat) : Int)) (fun _ _ => by as_aux_lemma => kernel_rfl) ?_
    clear F; intro a F
    refine T_val F H (by as_aux_lemma => kernel_rfl) (.pointer (some ⟨ad, (off + k * 1), none⟩)) (fun w _ => R_indexS (k := .i64) (g := ad) (off := off) (len := len) (cap := cp) (x := (.tmp 17)) (y := (.tmp 18)) rfl Tryd.underlying69 (by as_aux_lemma => kernel_rfl) k (by as_aux_lemma => kernel_rfl) (by omega) (sz := 1) (by as_aux_lemma => kernel_rfl) w) ?_
    clear F; intro a F
    refine T_val F H (by as_aux_lemma => kernel_rfl) (.int .u8 ((f (off + k) : Nat) : Int)) (R_cell 0 rfl 5 (.tmp 19) rfl (off + k * 1) (by as_aux_lemma => kernel_rfl) (.int .u8 ((f (off + k) : Nat) : Int)) ((congrArg (fun q => (kArr f)[q]?) (show off + k * 1 = off + k by omega)).trans (kArr_get f (by omega))) _ Tryd.underlying5 rfl) ?_
    clear F; intro a F
    refine T_val F H (by as_aux_lemma => kernel_rfl) (.int .u64 ((f (off + k) : Nat) : Int)) (fun w _ => R_conv (x := (.tmp 20)) rfl (k0 := .u8) (by as_aux_lemma => kernel_rfl) (by as_aux_lemma => kernel_rfl) (k := .u8) (a := ((f (off + k) : Nat) : Int)) (by as_aux_lemma => kernel_rfl) (wru64 (a := f (off + k)) (by omega)) w) ?_
    clear F; intro a F
    refine T_val F H (by as_aux_lemma => kernel_rfl) (.int .u64 ((hiN f off (k + 1) : Nat) : Int)) (fun w _ => R_bin (x := (.tmp 16)) (y := (.tmp 21)) rfl (k := .u64) (a := ((hiN f off k * 256 : Nat) : Int)) (b := ((f (off + k) : Nat) : Int)) (by as_aux_lemma => kernel_rfl) (by as_aux_lemma => kernel_rfl) (i_addu64 (a := hiN f off k * 256) (b := f (off + k)) (by omega)) w) ?_
    clear F; intro a F
    refine T_val F H (by as_aux_lemma => kernel_rfl) (.int .u64 ((hiN f off (k + 1) : Nat) : Int)) (fun _ _ => by as_aux_lemma => kernel_rfl) ?_
    clear F; intro a F
    refine wpList_nil ?_
    refine hK2 _ _ ?_
    clear hK2 K2
    refine C_region ?_
    refine T_val F H (by as_aux_lemma => kernel_rfl) (.int .i64 ((k : Nat) : Int)) (fun _ _ => by as_aux_lemma => kernel_rfl) ?_
    clear F; intro a F
    refine T_val F H (by as_aux_lemma => kernel_rfl) (.int .i64 ((k + 1 : Nat) : Int)) (fun w _ => R_bin (x := (.tmp 13)) (y := (.const (.int .i64 1))) rfl (k := .i64) (a := ((k : Nat) : Int)) (b := 1) (by as_aux_lemma => kernel_rfl) (by as_aux_lemma => kernel_rfl) (i_addn64 (a := k) (b := 1) (by omega)) w) ?_
    clear F; intro a F
    refine T_val F H (by as_aux_lemma => kernel_rfl) (.int .i64 ((k + 1 : Nat) : Int)) (fun _ _ => by as_aux_lemma => kernel_rfl) ?_
    clear F; intro a F
    refine wpList_nil ?_
    replace F : Fm 24 [] [(4, .int .i64 ((k + 1 : Nat) : Int)), (3, .int .u64 ((hiN f off (k + 1) : Nat) : Int)), (0, .slice (some ⟨ad, off, none⟩) len cp), (2, .int .u64 0)] a := F.weak _ (⟨rfl, ⟨rfl, ⟨rfl, ⟨rfl, trivial⟩⟩⟩⟩)
    exact ⟨m, Nat.lt_succ_self m, k + 1, by omega, F, H⟩

end Go.Proofs.YtdmioipdmdmkhaaDoor
