/- The ladder: Clamp and Raw, by rules. -/
import Derived.Test.YtdmioipdmdmkhaaDoorF2
import Derived.Test.YtdmioipdmdmkhaaDoorH3
import Derived.Test.YtdmioipdmdmkhaaDoorE3
set_option linter.unusedVariables false
set_option linter.unusedSimpArgs false
namespace Go.Proofs.YtdmioipdmdmkhaaDoor
open Go.RowKit
/-- What Clamp makes of a secret. -/
def clampF (f : Nat → Nat) : Nat → Nat := fun i => if i = 0 then f 0 &&& 248 else if i = 31 then f 31 &&& 127 ||| 64 else f i
theorem clampF_at (f : Nat → Nat) (i : Nat) : upd (upd f 0 ((f 0) &&& (248))) 31 (((upd f 0 ((f 0) &&& (248))) 31 &&& (127)) ||| (64)) i = clampF f i := by
  unfold upd clampF
  by_cases h0 : i = 0
  · subst h0; simp
  · by_cases h1 : i = 31
    · subst h1; simp
    · simp [h0, h1]
theorem clampF_lt {f : Nat → Nat} (hf : ∀ b, b < 32 → f b < 256) : ∀ b, b < 32 → clampF f b < 256 := by
  intro b hb
  unfold clampF
  have h0 := hf 0 (by omega)
  split
  · exact Nat.lt_of_le_of_lt Nat.and_le_left h0
  · split
    · exact Nat.or_lt_two_pow (n := 8) (Nat.lt_of_le_of_lt Nat.and_le_right (by omega)) (by omega)
    · exact hf b hb
set_option maxRecDepth 100000 in
set_option maxHeartbeats 4000000 in
theorem clamp_any (f : Nat → Nat) (hf : ∀ b, b < 32 → f b < 256) (w : World) : Calls Tryd.prog 39 #[.agg (kArr f)] w fun e w' => e = .returned (.agg (kArr (clampF f))) ∧ Below w.heap.size w w' := by
  refine C_enter Tryd.func39 rfl 13 Tryd.ntmps39 (Nat.le_of_ble_eq_true rfl) (fun a F => ?_)
  have H := Hp.start [] w
  replace F : Fm 13 [] [(0, .agg (kArr f))] a := F.weak _ (⟨rfl, trivial⟩)
  refine C_seqK (fun K hK => ?_)
  refine C_region ?_
  refine T_new F H (by as_aux_lemma => kernel_rfl) (fun ad => .pointer (some ⟨ad, 0, none⟩)) (.cells (kArr f) 23 (0, 0)) (fun w => by as_aux_lemma => kernel_rfl) ?_
  clear F H; intro aq1 a v F H
  refine T_new F H (by as_aux_lemma => kernel_rfl) (fun ad => .pointer (some ⟨ad, 0, none⟩)) (.cells #[.int .u8 0, .int .u8 0, .int .u8 0, .int .u8 0, .int .u8 0, .int .u8 0, .int .u8 0, .int .u8 0, .int .u8 0, .int .u8 0, .int .u8 0, .int .u8 0, .int .u8 0, .int .u8 0, .int .u8 0, .int .u8 0, .int .u8 0, .int .u8 0, .int .u8 0, .int .u8 0, .int .u8 0, .int .u8 0, .int .u8 0, .int .u8 0, .int .u8 0, .int .u8 0, .int .u8 0, .int .u8 0, .int .u8 0, .int .u8 0, .int .u8 0, .int .u8 0] 23 (0, 0)) (fun w => by as_aux_lemma => kernel_rfl) ?_
  clear F H; intro aq2 a v F H
  refine T_end (hK _ _ ?_)
  clear hK K
  refine C_seqK (fun K hK => ?_)
  refine C_region ?_
  refine T_val F H (by as_aux_lemma => kernel_rfl) (.pointer (some ⟨aq1, 0, none⟩)) (fun _ _ => by as_aux_lemma => kernel_rfl) ?_
  clear F; intro a F
  refine T_val F H (by as_aux_lemma => kernel_rfl) (.int .u8 ((f 0 : Nat) : Int)) (R_cell 1 rfl 5 (.tmp 3) rfl 0 (by as_aux_lemma => kernel_rfl) (.int .u8 ((f 0 : Nat) : Int)) (by as_aux_lemma => kernel_rfl) _ Tryd.underlying5 rfl) ?_
  clear F; intro a F
  refine T_val F H (by as_aux_lemma => kernel_rfl) (.int .u8 (((f 0) &&& (248) : Nat) : Int)) (fun w _ => R_bin (x := (.tmp 4)) (y := (.const (.int .u8 248))) rfl (k := .u8) (a := ((f 0 : Nat) : Int)) (b := 248) (by as_aux_lemma => kernel_rfl) (by as_aux_lemma => kernel_rfl) (i_and8 (a := f 0) (b := 248) (hf 0 (by omega)) (by omega)) w) ?_
  clear F; intro a F
  refine T_val F H (by as_aux_lemma => kernel_rfl) (.pointer (some ⟨aq1, 0, none⟩)) (fun _ _ => by as_aux_lemma => kernel_rfl) ?_
  clear F; intro a F
  refine T_set F H (by as_aux_lemma => kernel_rfl) rfl 1 rfl _ (S_cell 1 rfl 5 (.tmp 6) (.tmp 5) rfl 0 (by as_aux_lemma => kernel_rfl) (.int .u8 (((f 0) &&& (248) : Nat) : Int)) (by as_aux_lemma => kernel_rfl) rfl (Nat.le_of_ble_eq_true rfl) _ Tryd.underlying5 rfl (by as_aux_lemma => kernel_rfl)) [⟨true, aq2, .cells #[.int .u8 0, .int .u8 0, .int .u8 0, .int .u8 0, .int .u8 0, .int .u8 0, .int .u8 0, .int .u8 0, .int .u8 0, .int .u8 0, .int .u8 0, .int .u8 0, .int .u8 0, .int .u8 0, .int .u8 0, .int .u8 0, .int .u8 0, .int .u8 0, .int .u8 0, .int .u8 0, .int .u8 0, .int .u8 0, .int .u8 0, .int .u8 0, .int .u8 0, .int .u8 0, .int .u8 0, .int .u8 0, .int .u8 0, .int .u8 0, .int .u8 0, .int .u8 0] 23 (0, 0)⟩, ⟨true, aq1, .cells (kArr (upd f 0 ((f 0) &&& (248)))) 23 (0, 0)⟩] (by as_aux_lemma => kernel_rfl) ?_
  clear F H; intro a v F H
  refine T_end (hK _ _ ?_)
  clear hK K
  refine C_seqK (fun K hK => ?_)
  refine C_region ?_
  refine T_val F H (by as_aux_lemma => kernel_rfl) (.pointer (some ⟨aq1, 31, none⟩)) (fun _ _ => by as_aux_lemma => kernel_rfl) ?_
  clear F; intro a F
  refine T_val F H (by as_aux_lemma => kernel_rfl) (.int .u8 (((upd f 0 ((f 0) &&& (248))) 31 : Nat) : Int)) (R_cell 1 rfl 5 (.tmp 7) rfl 31 (by as_aux_lemma => kernel_rfl) (.int .u8 (((upd f 0 ((f 0) &&& (248))) 31 : Nat) : Int)) (by as_aux_lemma => kernel_rfl) _ Tryd.underlying5 rfl) ?_
  clear F; intro a F
  refine T_val F H (by as_aux_lemma => kernel_rfl) (.int .u8 ((((upd f 0 ((f 0) &&& (248))) 31) &&& (127) : Nat) : Int)) (fun w _ => R_bin (x := (.tmp 8)) (y := (.const (.int .u8 127))) rfl (k := .u8) (a := (((upd f 0 ((f 0) &&& (248))) 31 : Nat) : Int)) (b := 127) (by as_aux_lemma => kernel_rfl) (by as_aux_lemma => kernel_rfl) (i_and8 (a := (upd f 0 ((f 0) &&& (248))) 31) (b := 127) (hf 31 (by omega)) (by omega)) w) ?_
  clear F; intro a F
  refine T_val F H (by as_aux_lemma => kernel_rfl) (.int .u8 (((((upd f 0 ((f 0) &&& (248))) 31) &&& (127)) ||| (64) : Nat) : Int)) (fun w _ => R_bin (x := (.tmp 9)) (y := (.const (.int .u8 64))) rfl (k := .u8) (a := ((((upd f 0 ((f 0) &&& (248))) 31) &&& (127) : Nat) : Int)) (b := 64) (by as_aux_lemma => kernel_rfl) (by as_aux_lemma => kernel_rfl) (i_or8 (a := ((upd f 0 ((f 0) &&& (248))) 31) &&& (127)) (b := 64) (Nat.lt_of_le_of_lt Nat.and_le_right (by omega)) (by omega)) w) ?_
  clear F; intro a F
  refine T_val F H (by as_aux_lemma => kernel_rfl) (.pointer (some ⟨aq1, 31, none⟩)) (fun _ _ => by as_aux_lemma => kernel_rfl) ?_
  clear F; intro a F
  refine T_set F H (by as_aux_lemma => kernel_rfl) rfl 1 rfl _ (S_cell 1 rfl 5 (.tmp 11) (.tmp 10) rfl 31 (by as_aux_lemma => kernel_rfl) (.int .u8 (((((upd f 0 ((f 0) &&& (248))) 31) &&& (127)) ||| (64) : Nat) : Int)) (by as_aux_lemma => kernel_rfl) rfl (Nat.le_of_ble_eq_true rfl) _ Tryd.underlying5 rfl (by as_aux_lemma => kernel_rfl)) [⟨true, aq2, .cells #[.int .u8 0, .int .u8 0, .int .u8 0, .int .u8 0, .int .u8 0, .int .u8 0, .int .u8 0, .int .u8 0, .int .u8 0, .int .u8 0, .int .u8 0, .int .u8 0, .int .u8 0, .int .u8 0, .int .u8 0, .int .u8 0, .int .u8 0, .int .u8 0, .int .u8 0, .int .u8 0, .int .u8 0, .int .u8 0, .int .u8 0, .int .u8 0, .int .u8 0, .int .u8 0, .int .u8 0, .int .u8 0, .int .u8 0, .int .u8 0, .int .u8 0, .int .u8 0] 23 (0, 0)⟩, ⟨true, aq1, .cells (kArr (upd (upd f 0 ((f 0) &&& (248))) 31 ((((upd f 0 ((f 0) &&& (248))) 31) &&& (127)) ||| (64)))) 23 (0, 0)⟩] (by as_aux_lemma => kernel_rfl) ?_
  clear F H; intro a v F H
  refine T_end (hK _ _ ?_)
  clear hK K
  refine C_seqK (fun K hK => ?_)
  refine C_region ?_
  refine T_val F H (by as_aux_lemma => kernel_rfl) (.agg (kArr (upd (upd f 0 ((f 0) &&& (248))) 31 ((((upd f 0 ((f 0) &&& (248))) 31) &&& (127)) ||| (64))))) (R_load 1 rfl 23 (.tmp 1) rfl 0 (by as_aux_lemma => kernel_rfl) (kArr (upd (upd f 0 ((f 0) &&& (248))) 31 ((((upd f 0 ((f 0) &&& (248))) 31) &&& (127)) ||| (64)))) (part_all _) _ Tryd.underlying23 rfl (by as_aux_lemma => kernel_rfl)) ?_
  clear F; intro a F
  refine T_set F H (by as_aux_lemma => kernel_rfl) rfl 0 rfl (kArr (upd (upd f 0 ((f 0) &&& (248))) 31 ((((upd f 0 ((f 0) &&& (248))) 31) &&& (127)) ||| (64)))) (S_row 0 rfl 23 (.tmp 2) (.tmp 12) rfl (by as_aux_lemma => kernel_rfl) (kArr (upd (upd f 0 ((f 0) &&& (248))) 31 ((((upd f 0 ((f 0) &&& (248))) 31) &&& (127)) ||| (64)))) (by as_aux_lemma => kernel_rfl) (by as_aux_lemma => kernel_rfl) (by as_aux_lemma => kernel_rfl) (by as_aux_lemma => kernel_rfl)) [⟨true, aq2, .cells (kArr (upd (upd f 0 ((f 0) &&& (248))) 31 ((((upd f 0 ((f 0) &&& (248))) 31) &&& (127)) ||| (64)))) 23 (0, 0)⟩, ⟨true, aq1, .cells (kArr (upd (upd f 0 ((f 0) &&& (248))) 31 ((((upd f 0 ((f 0) &&& (248))) 31) &&& (127)) ||| (64)))) 23 (0, 0)⟩] rfl ?_
  clear F H; intro a v F H
  refine T_end (hK _ _ ?_)
  clear hK K
  refine wp_ret ?_
  exact C_ret F H (rs := [.cell 2 23]) rfl (vs := [.agg (kArr (upd (upd f 0 ((f 0) &&& (248))) 31 ((((upd f 0 ((f 0) &&& (248))) 31) &&& (127)) ||| (64))))]) (.row 0 rfl rfl _ Tryd.underlying23 rfl (by as_aux_lemma => kernel_rfl) .nil) (.agg (kArr (upd (upd f 0 ((f 0) &&& (248))) 31 ((((upd f 0 ((f 0) &&& (248))) 31) &&& (127)) ||| (64))))) rfl ⟨congrArg Ending.returned (congrArg Value.agg (kArr_congr fun i hi => clampF_at f i)), H.kept.below⟩

theorem swapped_any (tb : Bool) {a0 a1 a2 a3 a4 b0 b1 b2 b3 b4 c0 c1 c2 c3 c4 d0 d1 d2 d3 d4 na nb nc nd : Nat} (ea : El (limbsV a0 a1 a2 a3 a4) na) (eb : El (limbsV b0 b1 b2 b3 b4) nb) (ec : El (limbsV c0 c1 c2 c3 c4) nc) (ed : El (limbsV d0 d1 d2 d3 d4) nd) :
    ∃ p0 p1 p2 p3 p4 q0 q1 q2 q3 q4 r0 r1 r2 r3 r4 s0 s1 s2 s3 s4 : Nat, El (limbsV p0 p1 p2 p3 p4) (if tb then nc else na) ∧ El (limbsV q0 q1 q2 q3 q4) (if tb then nd else nb) ∧ El (limbsV r0 r1 r2 r3 r4) (if tb then na else nc) ∧ El (limbsV s0 s1 s2 s3 s4) (if tb then nb else nd) ∧ ∀ w,
      Calls Tryd.prog 61 #[.bool tb, .agg ((c5 a0 a1 a2 a3 a4) ++ (c5 b0 b1 b2 b3 b4)), .agg ((c5 c0 c1 c2 c3 c4) ++ (c5 d0 d1 d2 d3 d4))] w fun e w' => e = .returned (.tuple #[.agg ((c5 p0 p1 p2 p3 p4) ++ (c5 q0 q1 q2 q3 q4)), .agg ((c5 r0 r1 r2 r3 r4) ++ (c5 s0 s1 s2 s3 s4))]) ∧ Below w.heap.size w w' := by
  cases tb
  · exact ⟨_, _, _, _, _, _, _, _, _, _, _, _, _, _, _, _, _, _, _, _, ea, eb, ec, ed, fun w => swapped_false ea eb ec ed w⟩
  · exact ⟨_, _, _, _, _, _, _, _, _, _, _, _, _, _, _, _, _, _, _, _, ec, ed, ea, eb, fun w => swapped_true ea eb ec ed w⟩
/-! ### The ladder's numbers -/
def ladBit (c : Nat → Nat) (i : Nat) : Bool := (c (i / 8) >>> (i % 8) &&& 1) == 1
structure LS where
  a : Nat
  b : Nat
  s : Nat
  t : Nat
  l : Bool
def ladSw (d : Bool) (S : LS) : LS := ⟨if d then S.s else S.a, if d then S.t else S.b, if d then S.a else S.s, if d then S.b else S.t, S.l⟩
def ladSt (u : Nat) (l : Bool) (S : LS) : LS := ⟨dblX S.a S.b, dblZ S.a S.b, sumX S.a S.b S.s S.t, sumZ u S.a S.b S.s S.t, l⟩
def ladS (c : Nat → Nat) (u : Nat) : Nat → LS
  | 0 => ⟨1, 0, u, 1, false⟩
  | k + 1 => ladSt u (ladBit c (254 - k)) (ladSw (ladBit c (254 - k) != (ladS c u k).l) (ladS c u k))
def rawN (c : Nat → Nat) (u : Nat) : Nat := (ladSw (ladS c u 255).l (ladS c u 255)).a * powP (ladSw (ladS c u 255).l (ladS c u 255)).b invE % pr
def cntI : Nat → Int
  | 0 => -1
  | j + 1 => (j : Int)
/-- The state ahead of a round, m rounds being left. -/
structure Rd (c : Nat → Nat) (u : Nat) (Fa : List (Nat × Value) → Act → Prop) (Ha : Array Value → Array Value → World → Prop) (Va : Int → Bool → List (Nat × Value)) (m : Nat) (a : Act) (w : World) : Prop where
  le : m ≤ 255
  ex : ∃ a0 a1 a2 a3 a4 b0 b1 b2 b3 b4 s0 s1 s2 s3 s4 t0 t1 t2 t3 t4 : Nat, El (limbsV a0 a1 a2 a3 a4) (ladS c u (255 - m)).a ∧ El (limbsV b0 b1 b2 b3 b4) (ladS c u (255 - m)).b ∧ El (limbsV s0 s1 s2 s3 s4) (ladS c u (255 - m)).s ∧ El (limbsV t0 t1 t2 t3 t4) (ladS c u (255 - m)).t ∧
    Fa (Va (cntI m) (ladS c u (255 - m)).l) a ∧ Ha ((c5 a0 a1 a2 a3 a4) ++ (c5 b0 b1 b2 b3 b4)) ((c5 s0 s1 s2 s3 s4) ++ (c5 t0 t1 t2 t3 t4)) w

theorem shr_lt {a n : Nat} (h : a < 256) : a >>> n < 256 := by
  rw [Nat.shiftRight_eq_div_pow]
  exact Nat.lt_of_le_of_lt (Nat.div_le_self _ _) h
theorem i_cnt (m : Nat) (hm : m ≤ 255) : intRes .sub .i64 (m : Int) 1 = some (.int .i64 (cntI m)) := by
  cases m with
  | zero => rfl
  | succ j => exact i_sub64 (by show ((j + 1 : Nat) : Int) - 1 = (j : Int); omega) (by show -9223372036854775808 ≤ (j : Int) ∧ (j : Int) ≤ 9223372036854775807; omega)
set_option maxRecDepth 100000 in
set_option maxHeartbeats 4000000 in
theorem raw_any (f : Nat → Nat) (hf : ∀ b, b < 32 → f b < 256) (g : Nat → Nat) (hg : ∀ b, b < 32 → g b < 256) (w : World) (h4 : Four w) : Calls Tryd.prog 40 #[.agg (kArr f), .agg (kArr g)] w fun e w' => e = .returned (.agg (kArr (byteOf (rawN (clampF f) (kVal g % two255 % pr))))) ∧ Below w.heap.size w w' := by
  have h4p := h4.pos
  have hc := clampF_lt hf
  have dcl := fun w => clamp_any f hf w
  generalize clampF f = c at hc dcl ⊢
  have dof := fof_any g hg
  have eu := ofL_el hg
  unfold two255
  obtain ⟨u0, u1, u2, u3, u4, hu⟩ : ∃ a b c d e, ofL g = ⟨a, b, c, d, e⟩ := ⟨_, _, _, _, _, rfl⟩
  rw [hu] at dof eu
  generalize kVal g % 57896044618658097711785492504343953926634992332820282019728792003956564819968 % pr = nu at eu ⊢
  generalize decide (kVal g < pr) = bw at dof
  clear hu
  unfold Det L5.v limbsV at dof
  dsimp only at dof
  replace eu : El (limbsV u0 u1 u2 u3 u4) nu := eu
  obtain ⟨e1, d1⟩ := smallV_spec 1 (by omega)
  generalize smallV 1 = v1 at e1 d1
  obtain ⟨o0, o1, o2, o3, o4, rfl⟩ := e1.limbs
  obtain ⟨e0, d0⟩ := smallV_spec 0 (by omega)
  generalize smallV 0 = v0 at e0 d0
  obtain ⟨n0, n1, n2, n3, n4, rfl⟩ := e0.limbs
  unfold Det limbsV at d0 d1
  refine C_enter Tryd.func40 rfl 70 Tryd.ntmps40 (Nat.le_of_ble_eq_true rfl) (fun a F => ?_)
  have H := Hp.start [] w
  replace F : Fm 70 [] [(0, .agg (kArr f)), (1, .agg (kArr g))] a := F.weak _ (⟨rfl, ⟨rfl, trivial⟩⟩)
  refine C_seqK (fun K hK => ?_)
  refine C_region ?_
  refine T_new F H (by as_aux_lemma => kernel_rfl) (fun ad => .pointer (some ⟨ad, 0, none⟩)) (.cells (kArr f) 23 (0, 0)) (fun w => by as_aux_lemma => kernel_rfl) ?_
  clear F H; intro aq1 a v F H
  refine T_new F H (by as_aux_lemma => kernel_rfl) (fun ad => .pointer (some ⟨ad, 0, none⟩)) (.cells (kArr g) 23 (0, 0)) (fun w => by as_aux_lemma => kernel_rfl) ?_
  clear F H; intro aq2 a v F H
  refine T_new F H (by as_aux_lemma => kernel_rfl) (fun ad => .pointer (some ⟨ad, 0, none⟩)) (.cells #[.int .u8 0, .int .u8 0, .int .u8 0, .int .u8 0, .int .u8 0, .int .u8 0, .int .u8 0, .int .u8 0, .int .u8 0, .int .u8 0, .int .u8 0, .int .u8 0, .int .u8 0, .int .u8 0, .int .u8 0, .int .u8 0, .int .u8 0, .int .u8 0, .int .u8 0, .int .u8 0, .int .u8 0, .int .u8 0, .int .u8 0, .int .u8 0, .int .u8 0, .int .u8 0, .int .u8 0, .int .u8 0, .int .u8 0, .int .u8 0, .int .u8 0, .int .u8 0] 23 (0, 0)) (fun w => by as_aux_lemma => kernel_rfl) ?_
  clear F H; intro aq3 a v F H
  refine T_end (hK _ _ ?_)
  clear hK K
  refine C_seqK (fun K hK => ?_)
  refine C_region ?_
  refine T_val F H (by as_aux_lemma => kernel_rfl) (.agg (kArr f)) (R_load 2 rfl 23 (.tmp 2) rfl 0 (by as_aux_lemma => kernel_rfl) (kArr f) (part_all _) _ Tryd.underlying23 rfl (by as_aux_lemma => kernel_rfl)) ?_
  clear F; intro a F
  refine T_call F H (by as_aux_lemma => kernel_rfl) 39 #[.agg (kArr f)] (.agg (kArr c)) (fun w => by as_aux_lemma => kernel_rfl) (Calls.kept (dcl _)) ?_
  clear F H; intro a v F H
  refine T_new F H (by as_aux_lemma => kernel_rfl) (fun ad => .pointer (some ⟨ad, 0, none⟩)) (.cells #[.int .u8 0, .int .u8 0, .int .u8 0, .int .u8 0, .int .u8 0, .int .u8 0, .int .u8 0, .int .u8 0, .int .u8 0, .int .u8 0, .int .u8 0, .int .u8 0, .int .u8 0, .int .u8 0, .int .u8 0, .int .u8 0, .int .u8 0, .int .u8 0, .int .u8 0, .int .u8 0, .int .u8 0, .int .u8 0, .int .u8 0, .int .u8 0, .int .u8 0, .int .u8 0, .int .u8 0, .int .u8 0, .int .u8 0, .int .u8 0, .int .u8 0, .int .u8 0] 23 (0, 0)) (fun w => by as_aux_lemma => kernel_rfl) ?_
  clear F H; intro aq4 a v F H
  refine T_set F H (by as_aux_lemma => kernel_rfl) rfl 0 rfl (kArr c) (S_row 0 rfl 23 (.tmp 5) (.tmp 14) rfl (by as_aux_lemma => kernel_rfl) (kArr c) (by as_aux_lemma => kernel_rfl) (by as_aux_lemma => kernel_rfl) (by as_aux_lemma => kernel_rfl) (by as_aux_lemma => kernel_rfl)) [⟨true, aq4, .cells (kArr c) 23 (0, 0)⟩, ⟨true, aq3, .cells #[.int .u8 0, .int .u8 0, .int .u8 0, .int .u8 0, .int .u8 0, .int .u8 0, .int .u8 0, .int .u8 0, .int .u8 0, .int .u8 0, .int .u8 0, .int .u8 0, .int .u8 0, .int .u8 0, .int .u8 0, .int .u8 0, .int .u8 0, .int .u8 0, .int .u8 0, .int .u8 0, .int .u8 0, .int .u8 0, .int .u8 0, .int .u8 0, .int .u8 0, .int .u8 0, .int .u8 0, .int .u8 0, .int .u8 0, .int .u8 0, .int .u8 0, .int .u8 0] 23 (0, 0)⟩, ⟨true, aq2, .cells (kArr g) 23 (0, 0)⟩, ⟨true, aq1, .cells (kArr f) 23 (0, 0)⟩] rfl ?_
  clear F H; intro a v F H
  refine T_end (hK _ _ ?_)
  clear hK K
  refine C_seqK (fun K hK => ?_)
  refine C_region ?_
  refine T_val F H (by as_aux_lemma => kernel_rfl) (.agg (kArr g)) (R_load 2 rfl 23 (.tmp 3) rfl 0 (by as_aux_lemma => kernel_rfl) (kArr g) (part_all _) _ Tryd.underlying23 rfl (by as_aux_lemma => kernel_rfl)) ?_
  clear F; intro a F
  refine T_call F H (by as_aux_lemma => kernel_rfl) 26 #[.agg (kArr g)] (.tuple #[.agg (c5 u0 u1 u2 u3 u4), .bool bw]) (fun w => by as_aux_lemma => kernel_rfl) (Calls.kept (dof _)) ?_
  clear F H; intro a v F H
  refine T_val F H (by as_aux_lemma => kernel_rfl) (.tuple #[.agg (c5 u0 u1 u2 u3 u4), .bool bw]) (fun _ _ => by as_aux_lemma => kernel_rfl) ?_
  clear F; intro a F
  refine T_val F H (by as_aux_lemma => kernel_rfl) (.agg (c5 u0 u1 u2 u3 u4)) (fun _ _ => by as_aux_lemma => kernel_rfl) ?_
  clear F; intro a F
  refine T_val F H (by as_aux_lemma => kernel_rfl) (.bool bw) (fun _ _ => by as_aux_lemma => kernel_rfl) ?_
  clear F; intro a F
  refine T_new F H (by as_aux_lemma => kernel_rfl) (fun ad => .pointer (some ⟨ad, 0, none⟩)) (.cells #[.int .u64 0, .int .u64 0, .int .u64 0, .int .u64 0, .int .u64 0] 33 (0, 0)) (fun w => by as_aux_lemma => kernel_rfl) ?_
  clear F H; intro aq5 a v F H
  refine T_set F H (by as_aux_lemma => kernel_rfl) rfl 0 rfl (c5 u0 u1 u2 u3 u4) (S_row 0 rfl 33 (.tmp 6) (.tmp 18) rfl (by as_aux_lemma => kernel_rfl) (c5 u0 u1 u2 u3 u4) (by as_aux_lemma => kernel_rfl) (by as_aux_lemma => kernel_rfl) (by as_aux_lemma => kernel_rfl) (by as_aux_lemma => kernel_rfl)) [⟨true, aq5, .cells (c5 u0 u1 u2 u3 u4) 33 (0, 0)⟩, ⟨true, aq4, .cells (kArr c) 23 (0, 0)⟩, ⟨true, aq3, .cells #[.int .u8 0, .int .u8 0, .int .u8 0, .int .u8 0, .int .u8 0, .int .u8 0, .int .u8 0, .int .u8 0, .int .u8 0, .int .u8 0, .int .u8 0, .int .u8 0, .int .u8 0, .int .u8 0, .int .u8 0, .int .u8 0, .int .u8 0, .int .u8 0, .int .u8 0, .int .u8 0, .int .u8 0, .int .u8 0, .int .u8 0, .int .u8 0, .int .u8 0, .int .u8 0, .int .u8 0, .int .u8 0, .int .u8 0, .int .u8 0, .int .u8 0, .int .u8 0] 23 (0, 0)⟩, ⟨true, aq2, .cells (kArr g) 23 (0, 0)⟩, ⟨true, aq1, .cells (kArr f) 23 (0, 0)⟩] rfl ?_
  clear F H; intro a v F H
  refine T_val F H (by as_aux_lemma => kernel_rfl) (.bool bw) (fun _ _ => by as_aux_lemma => kernel_rfl) ?_
  clear F; intro a F
  refine T_end (hK _ _ ?_)
  clear hK K
  refine C_seqK (fun K hK => ?_)
  refine D_region F H (fun β => [(20, .agg (c5 o0 o1 o2 o3 o4)), (21, .agg (c5 n0 n1 n2 n3 n4)), (22, .agg ((c5 o0 o1 o2 o3 o4) ++ (c5 n0 n1 n2 n3 n4))), (23, .agg (c5 u0 u1 u2 u3 u4)), (24, .agg (c5 o0 o1 o2 o3 o4)), (25, .agg ((c5 u0 u1 u2 u3 u4) ++ (c5 o0 o1 o2 o3 o4))), (8, .pointer (some ⟨(β 6), 0, none⟩)), (9, .pointer (some ⟨(β 7), 0, none⟩))]) [20, 21, 22, 23, 24, 25, 8, 9] [⟨6, 8, .cells #[.int .u64 0, .int .u64 0, .int .u64 0, .int .u64 0, .int .u64 0, .int .u64 0, .int .u64 0, .int .u64 0, .int .u64 0, .int .u64 0] 82 (0, 0), .cells ((c5 o0 o1 o2 o3 o4) ++ (c5 n0 n1 n2 n3 n4)) 82 (0, 0)⟩, ⟨7, 9, .cells #[.int .u64 0, .int .u64 0, .int .u64 0, .int .u64 0, .int .u64 0, .int .u64 0, .int .u64 0, .int .u64 0, .int .u64 0, .int .u64 0] 82 (0, 0), .cells ((c5 u0 u1 u2 u3 u4) ++ (c5 o0 o1 o2 o3 o4)) 82 (0, 0)⟩] [] [⟨true, aq5, .cells (c5 u0 u1 u2 u3 u4) 33 (0, 0)⟩, ⟨true, aq4, .cells (kArr c) 23 (0, 0)⟩, ⟨true, aq3, .cells #[.int .u8 0, .int .u8 0, .int .u8 0, .int .u8 0, .int .u8 0, .int .u8 0, .int .u8 0, .int .u8 0, .int .u8 0, .int .u8 0, .int .u8 0, .int .u8 0, .int .u8 0, .int .u8 0, .int .u8 0, .int .u8 0, .int .u8 0, .int .u8 0, .int .u8 0, .int .u8 0, .int .u8 0, .int .u8 0, .int .u8 0, .int .u8 0, .int .u8 0, .int .u8 0, .int .u8 0, .int .u8 0, .int .u8 0, .int .u8 0, .int .u8 0, .int .u8 0] 23 (0, 0)⟩, ⟨true, aq2, .cells (kArr g) 23 (0, 0)⟩, ⟨true, aq1, .cells (kArr f) 23 (0, 0)⟩] [0, 1, 2, 3, 4] (by as_aux_lemma => kernel_rfl) (by as_aux_lemma => kernel_rfl) rfl (fun β => rfl) (fun fit => ⟨?_, ?_, ?_, ?_, ?_, ?_, ?_, ?_, ?_, ?_, trivial⟩) ?_
  · exact D_call 70 (fun β => by as_aux_lemma => kernel_rfl) (fun β => .agg (c5 o0 o1 o2 o3 o4)) 20 rfl (fun β => by as_aux_lemma => kernel_rfl) 29 (fun β => #[.int .u64 1]) (fun β w => by as_aux_lemma => kernel_rfl) (fun β w hk => Calls.kept (d1 _)) (by as_aux_lemma => kernel_rfl)
  · exact D_call 70 (fun β => by as_aux_lemma => kernel_rfl) (fun β => .agg (c5 n0 n1 n2 n3 n4)) 21 rfl (fun β => by as_aux_lemma => kernel_rfl) 29 (fun β => #[.int .u64 0]) (fun β w => by as_aux_lemma => kernel_rfl) (fun β w hk => Calls.kept (d0 _)) (by as_aux_lemma => kernel_rfl)
  · exact D_val 70 (fun β => by as_aux_lemma => kernel_rfl) (fun β => .agg ((c5 o0 o1 o2 o3 o4) ++ (c5 n0 n1 n2 n3 n4))) 22 rfl (fun β => by as_aux_lemma => kernel_rfl) (fun β _ _ => by as_aux_lemma => kernel_rfl) (by as_aux_lemma => kernel_rfl)
  · exact D_val 70 (fun β => by as_aux_lemma => kernel_rfl) (fun β => .agg (c5 u0 u1 u2 u3 u4)) 23 rfl (fun β => by as_aux_lemma => kernel_rfl) (fun β => R_load 0 rfl 33 (.tmp 6) rfl 0 (by as_aux_lemma => kernel_rfl) (c5 u0 u1 u2 u3 u4) (part_all _) _ Tryd.underlying33 rfl (by as_aux_lemma => kernel_rfl)) (by as_aux_lemma => kernel_rfl)
  · exact D_call 70 (fun β => by as_aux_lemma => kernel_rfl) (fun β => .agg (c5 o0 o1 o2 o3 o4)) 24 rfl (fun β => by as_aux_lemma => kernel_rfl) 29 (fun β => #[.int .u64 1]) (fun β w => by as_aux_lemma => kernel_rfl) (fun β w hk => Calls.kept (d1 _)) (by as_aux_lemma => kernel_rfl)
  · exact D_val 70 (fun β => by as_aux_lemma => kernel_rfl) (fun β => .agg ((c5 u0 u1 u2 u3 u4) ++ (c5 o0 o1 o2 o3 o4))) 25 rfl (fun β => by as_aux_lemma => kernel_rfl) (fun β _ _ => by as_aux_lemma => kernel_rfl) (by as_aux_lemma => kernel_rfl)
  · exact D_new fit ⟨6, 8, .cells #[.int .u64 0, .int .u64 0, .int .u64 0, .int .u64 0, .int .u64 0, .int .u64 0, .int .u64 0, .int .u64 0, .int .u64 0, .int .u64 0] 82 (0, 0), .cells ((c5 o0 o1 o2 o3 o4) ++ (c5 n0 n1 n2 n3 n4)) 82 (0, 0)⟩ (List.mem_of_getElem? (i := 0) rfl) rfl 70 (fun β => by as_aux_lemma => kernel_rfl) 8 rfl (fun ad => .pointer (some ⟨ad, 0, none⟩)) (fun β w => by as_aux_lemma => kernel_rfl) (fun β => by as_aux_lemma => kernel_rfl) (fun β b => ⟨rfl, .inr rfl, ⟨rfl, .inr rfl, ⟨rfl, .inr rfl, ⟨rfl, .inr rfl, ⟨rfl, .inr rfl, ⟨rfl, .inr rfl, ⟨rfl, .inl rfl, ⟨rfl, .inr rfl, trivial⟩⟩⟩⟩⟩⟩⟩⟩) (by as_aux_lemma => kernel_rfl)
  · exact D_new fit ⟨7, 9, .cells #[.int .u64 0, .int .u64 0, .int .u64 0, .int .u64 0, .int .u64 0, .int .u64 0, .int .u64 0, .int .u64 0, .int .u64 0, .int .u64 0] 82 (0, 0), .cells ((c5 u0 u1 u2 u3 u4) ++ (c5 o0 o1 o2 o3 o4)) 82 (0, 0)⟩ (List.mem_of_getElem? (i := 1) rfl) rfl 70 (fun β => by as_aux_lemma => kernel_rfl) 9 rfl (fun ad => .pointer (some ⟨ad, 0, none⟩)) (fun β w => by as_aux_lemma => kernel_rfl) (fun β => by as_aux_lemma => kernel_rfl) (fun β b => ⟨rfl, .inr rfl, ⟨rfl, .inr rfl, ⟨rfl, .inr rfl, ⟨rfl, .inr rfl, ⟨rfl, .inr rfl, ⟨rfl, .inr rfl, ⟨rfl, .inr rfl, ⟨rfl, .inl rfl, trivial⟩⟩⟩⟩⟩⟩⟩⟩) (by as_aux_lemma => kernel_rfl)
  · exact D_put fit ⟨6, 8, .cells #[.int .u64 0, .int .u64 0, .int .u64 0, .int .u64 0, .int .u64 0, .int .u64 0, .int .u64 0, .int .u64 0, .int .u64 0, .int .u64 0] 82 (0, 0), .cells ((c5 o0 o1 o2 o3 o4) ++ (c5 n0 n1 n2 n3 n4)) 82 (0, 0)⟩ (List.mem_of_getElem? (i := 0) rfl) rfl 70 (fun β => by as_aux_lemma => kernel_rfl) rfl (by as_aux_lemma => kernel_rfl) (fun β w _ hg => P_row rfl rfl (ty := 82) (x := (.tmp 8)) (y := (.tmp 22)) rfl (by as_aux_lemma => kernel_rfl) (by as_aux_lemma => kernel_rfl) (by as_aux_lemma => kernel_rfl) (by as_aux_lemma => kernel_rfl) (by as_aux_lemma => kernel_rfl) hg) (by as_aux_lemma => kernel_rfl)
  · exact D_put fit ⟨7, 9, .cells #[.int .u64 0, .int .u64 0, .int .u64 0, .int .u64 0, .int .u64 0, .int .u64 0, .int .u64 0, .int .u64 0, .int .u64 0, .int .u64 0] 82 (0, 0), .cells ((c5 u0 u1 u2 u3 u4) ++ (c5 o0 o1 o2 o3 o4)) 82 (0, 0)⟩ (List.mem_of_getElem? (i := 1) rfl) rfl 70 (fun β => by as_aux_lemma => kernel_rfl) rfl (by as_aux_lemma => kernel_rfl) (fun β w _ hg => P_row rfl rfl (ty := 82) (x := (.tmp 9)) (y := (.tmp 25)) rfl (by as_aux_lemma => kernel_rfl) (by as_aux_lemma => kernel_rfl) (by as_aux_lemma => kernel_rfl) (by as_aux_lemma => kernel_rfl) (by as_aux_lemma => kernel_rfl) hg) (by as_aux_lemma => kernel_rfl)
  clear F H; intro β a v F H
  replace H : Hp [] w [⟨true, (β 6), .cells ((c5 o0 o1 o2 o3 o4) ++ (c5 n0 n1 n2 n3 n4)) 82 (0, 0)⟩, ⟨true, (β 7), .cells ((c5 u0 u1 u2 u3 u4) ++ (c5 o0 o1 o2 o3 o4)) 82 (0, 0)⟩, ⟨true, aq5, .cells (c5 u0 u1 u2 u3 u4) 33 (0, 0)⟩, ⟨true, aq4, .cells (kArr c) 23 (0, 0)⟩, ⟨true, aq3, .cells #[.int .u8 0, .int .u8 0, .int .u8 0, .int .u8 0, .int .u8 0, .int .u8 0, .int .u8 0, .int .u8 0, .int .u8 0, .int .u8 0, .int .u8 0, .int .u8 0, .int .u8 0, .int .u8 0, .int .u8 0, .int .u8 0, .int .u8 0, .int .u8 0, .int .u8 0, .int .u8 0, .int .u8 0, .int .u8 0, .int .u8 0, .int .u8 0, .int .u8 0, .int .u8 0, .int .u8 0, .int .u8 0, .int .u8 0, .int .u8 0, .int .u8 0, .int .u8 0] 23 (0, 0)⟩, ⟨true, aq2, .cells (kArr g) 23 (0, 0)⟩, ⟨true, aq1, .cells (kArr f) 23 (0, 0)⟩] v := H
  replace F : Fm 70 [] [(9, .pointer (some ⟨(β 7), 0, none⟩)), (8, .pointer (some ⟨(β 6), 0, none⟩)), (25, .agg ((c5 u0 u1 u2 u3 u4) ++ (c5 o0 o1 o2 o3 o4))), (24, .agg (c5 o0 o1 o2 o3 o4)), (23, .agg (c5 u0 u1 u2 u3 u4)), (22, .agg ((c5 o0 o1 o2 o3 o4) ++ (c5 n0 n1 n2 n3 n4))), (21, .agg (c5 n0 n1 n2 n3 n4)), (20, .agg (c5 o0 o1 o2 o3 o4)), (7, .bool bw), (6, .pointer (some ⟨aq5, 0, none⟩)), (19, .bool bw), (18, .agg (c5 u0 u1 u2 u3 u4)), (15, .tuple #[.agg (c5 u0 u1 u2 u3 u4), .bool bw]), (17, .tuple #[.agg (c5 u0 u1 u2 u3 u4), .bool bw]), (16, .agg (kArr g)), (5, .pointer (some ⟨aq4, 0, none⟩)), (14, .agg (kArr c)), (13, .agg (kArr f)), (4, .pointer (some ⟨aq3, 0, none⟩)), (3, .pointer (some ⟨aq2, 0, none⟩)), (2, .pointer (some ⟨aq1, 0, none⟩)), (0, .agg (kArr f)), (1, .agg (kArr g))] a := F.weak _ (⟨rfl, ⟨rfl, ⟨rfl, ⟨rfl, ⟨rfl, ⟨rfl, ⟨rfl, ⟨rfl, ⟨rfl, ⟨rfl, ⟨rfl, ⟨rfl, ⟨rfl, ⟨rfl, ⟨rfl, ⟨rfl, ⟨rfl, ⟨rfl, ⟨rfl, ⟨rfl, ⟨rfl, ⟨rfl, ⟨rfl, trivial⟩⟩⟩⟩⟩⟩⟩⟩⟩⟩⟩⟩⟩⟩⟩⟩⟩⟩⟩⟩⟩⟩⟩)
  generalize β 6 = aq6 at F H
  generalize β 7 = aq7 at F H
  refine hK _ _ ?_
  clear hK K
  refine C_seqK (fun K hK => ?_)
  refine C_region ?_
  refine T_val F H (by as_aux_lemma => kernel_rfl) (.bool false) (fun _ _ => by as_aux_lemma => kernel_rfl) ?_
  clear F; intro a F
  refine T_end (hK _ _ ?_)
  clear hK K
  replace F : Fm 70 [] [(4, .pointer (some ⟨aq3, 0, none⟩)), (5, .pointer (some ⟨aq4, 0, none⟩)), (6, .pointer (some ⟨aq5, 0, none⟩)), (8, .pointer (some ⟨aq6, 0, none⟩)), (9, .pointer (some ⟨aq7, 0, none⟩)), (10, .bool false)] a := F.weak _ (⟨rfl, ⟨rfl, ⟨rfl, ⟨rfl, ⟨rfl, ⟨rfl, trivial⟩⟩⟩⟩⟩⟩)
  replace H : Hp [] w [⟨true, aq6, .cells ((c5 o0 o1 o2 o3 o4) ++ (c5 n0 n1 n2 n3 n4)) 82 (0, 0)⟩, ⟨true, aq7, .cells ((c5 u0 u1 u2 u3 u4) ++ (c5 o0 o1 o2 o3 o4)) 82 (0, 0)⟩, ⟨true, aq3, .cells #[.int .u8 0, .int .u8 0, .int .u8 0, .int .u8 0, .int .u8 0, .int .u8 0, .int .u8 0, .int .u8 0, .int .u8 0, .int .u8 0, .int .u8 0, .int .u8 0, .int .u8 0, .int .u8 0, .int .u8 0, .int .u8 0, .int .u8 0, .int .u8 0, .int .u8 0, .int .u8 0, .int .u8 0, .int .u8 0, .int .u8 0, .int .u8 0, .int .u8 0, .int .u8 0, .int .u8 0, .int .u8 0, .int .u8 0, .int .u8 0, .int .u8 0, .int .u8 0] 23 (0, 0)⟩, ⟨true, aq4, .cells (kArr c) 23 (0, 0)⟩, ⟨true, aq5, .cells (c5 u0 u1 u2 u3 u4) 33 (0, 0)⟩] v := H.pick [0, 1, 4, 3, 2] (by as_aux_lemma => kernel_rfl) _ rfl
  refine C_seqK (fun K hK => ?_)
  refine C_seqK (fun K hK => ?_)
  refine C_region ?_
  refine T_val F H (by as_aux_lemma => kernel_rfl) (.int .i64 254) (fun _ _ => by as_aux_lemma => kernel_rfl) ?_
  clear F; intro a F
  refine T_end (hK _ _ ?_)
  clear hK K
  replace F : Fm 70 [] [(11, .int .i64 254), (10, .bool false), (4, .pointer (some ⟨aq3, 0, none⟩)), (5, .pointer (some ⟨aq4, 0, none⟩)), (6, .pointer (some ⟨aq5, 0, none⟩)), (8, .pointer (some ⟨aq6, 0, none⟩)), (9, .pointer (some ⟨aq7, 0, none⟩))] a := F.weak _ (⟨rfl, ⟨rfl, ⟨rfl, ⟨rfl, ⟨rfl, ⟨rfl, ⟨rfl, trivial⟩⟩⟩⟩⟩⟩⟩)
  refine wp_block ?_
  refine C_loop (Rd c nu (fun V a => Fm 70 [] V a) (fun P Q v => Hp [] w [⟨true, aq6, .cells P 82 (0, 0)⟩, ⟨true, aq7, .cells Q 82 (0, 0)⟩, ⟨true, aq3, .cells #[.int .u8 0, .int .u8 0, .int .u8 0, .int .u8 0, .int .u8 0, .int .u8 0, .int .u8 0, .int .u8 0, .int .u8 0, .int .u8 0, .int .u8 0, .int .u8 0, .int .u8 0, .int .u8 0, .int .u8 0, .int .u8 0, .int .u8 0, .int .u8 0, .int .u8 0, .int .u8 0, .int .u8 0, .int .u8 0, .int .u8 0, .int .u8 0, .int .u8 0, .int .u8 0, .int .u8 0, .int .u8 0, .int .u8 0, .int .u8 0, .int .u8 0, .int .u8 0] 23 (0, 0)⟩, ⟨true, aq4, .cells (kArr c) 23 (0, 0)⟩, ⟨true, aq5, .cells (c5 u0 u1 u2 u3 u4) 33 (0, 0)⟩] v) (fun i l => [(11, .int .i64 i), (10, .bool l), (4, .pointer (some ⟨aq3, 0, none⟩)), (5, .pointer (some ⟨aq4, 0, none⟩)), (6, .pointer (some ⟨aq5, 0, none⟩)), (8, .pointer (some ⟨aq6, 0, none⟩)), (9, .pointer (some ⟨aq7, 0, none⟩))])) 255 ⟨Nat.le_refl _, o0, o1, o2, o3, o4, n0, n1, n2, n3, n4, u0, u1, u2, u3, u4, o0, o1, o2, o3, o4, e1, e0, eu, e1, F, H⟩ ?_
  clear F H e0 e1 d0 d1 dof dcl
  intro m a v ⟨hm, a0, a1, a2, a3, a4, b0, b1, b2, b3, b4, s0, s1, s2, s3, s4, t0, t1, t2, t3, t4, ea, eb, es, et, F, H⟩
  refine C_seqK (fun K1 hK1 => ?_)
  rcases m with _ | m
  · replace F : Fm 70 [] [(11, .int .i64 (-1)), (10, .bool (ladS c nu 255).l), (4, .pointer (some ⟨aq3, 0, none⟩)), (5, .pointer (some ⟨aq4, 0, none⟩)), (6, .pointer (some ⟨aq5, 0, none⟩)), (8, .pointer (some ⟨aq6, 0, none⟩)), (9, .pointer (some ⟨aq7, 0, none⟩))] a := F
    replace H : Hp [] w [⟨true, aq6, .cells ((c5 a0 a1 a2 a3 a4) ++ (c5 b0 b1 b2 b3 b4)) 82 (0, 0)⟩, ⟨true, aq7, .cells ((c5 s0 s1 s2 s3 s4) ++ (c5 t0 t1 t2 t3 t4)) 82 (0, 0)⟩, ⟨true, aq3, .cells #[.int .u8 0, .int .u8 0, .int .u8 0, .int .u8 0, .int .u8 0, .int .u8 0, .int .u8 0, .int .u8 0, .int .u8 0, .int .u8 0, .int .u8 0, .int .u8 0, .int .u8 0, .int .u8 0, .int .u8 0, .int .u8 0, .int .u8 0, .int .u8 0, .int .u8 0, .int .u8 0, .int .u8 0, .int .u8 0, .int .u8 0, .int .u8 0, .int .u8 0, .int .u8 0, .int .u8 0, .int .u8 0, .int .u8 0, .int .u8 0, .int .u8 0, .int .u8 0] 23 (0, 0)⟩, ⟨true, aq4, .cells (kArr c) 23 (0, 0)⟩, ⟨true, aq5, .cells (c5 u0 u1 u2 u3 u4) 33 (0, 0)⟩] v := H
    refine C_seqK (fun K hK => ?_)
    refine C_region ?_
    refine T_val F H (by as_aux_lemma => kernel_rfl) (.int .i64 (-1)) (fun _ _ => by as_aux_lemma => kernel_rfl) ?_
    clear F; intro a F
    refine T_val F H (by as_aux_lemma => kernel_rfl) (.bool false) (fun w _ => R_bin (x := (.tmp 26)) (y := (.const (.int .i64 0))) rfl (k := .i64) (a := (-1)) (b := 0) (by as_aux_lemma => kernel_rfl) (by as_aux_lemma => kernel_rfl) (i_nge (by omega)) w) ?_
    clear F; intro a F
    refine T_end (hK _ _ ?_)
    clear hK K
    refine C_if F false rfl rfl ?_
    refine wp_exit ?_
    refine hK _ _ ?_
    clear hK1 K1 hK K
    change El (limbsV a0 a1 a2 a3 a4) (ladS c nu 255).a at ea
    change El (limbsV b0 b1 b2 b3 b4) (ladS c nu 255).b at eb
    change El (limbsV s0 s1 s2 s3 s4) (ladS c nu 255).s at es
    change El (limbsV t0 t1 t2 t3 t4) (ladS c nu 255).t at et
    unfold rawN
    generalize ladS c nu 255 = S at *
    obtain ⟨p0, p1, p2, p3, p4, q0, q1, q2, q3, q4, r0, r1, r2, r3, r4, k0, k1, k2, k3, k4, ep, eq, er, ek, dsw⟩ := swapped_any S.l ea eb es et
    have ei := invV_el eq
    have di := invert_any eq
    generalize invV (limbsV q0 q1 q2 q3 q4) = vi at ei di
    obtain ⟨i0, i1, i2, i3, i4, rfl⟩ := ei.limbs
    obtain ⟨em, dm⟩ := mulV_spec ep ei
    generalize mulV (limbsV p0 p1 p2 p3 p4) (limbsV i0 i1 i2 i3 i4) = vm at em dm
    obtain ⟨m0, m1, m2, m3, m4, rfl⟩ := em.limbs
    have dk := fun w => key_any em w
    unfold keyOf limbsV at dk
    obtain ⟨RF, hRF⟩ : ∃ RF, RF = byteOf ((if S.l = true then S.s else S.a) * powP (if S.l = true then S.t else S.b) invE % pr) := ⟨_, rfl⟩
    rw [← hRF] at dk
    unfold Det limbsV at dm di
    clear ei em
    refine C_seqK (fun K hK => ?_)
    refine C_region ?_
    refine T_val F H (by as_aux_lemma => kernel_rfl) (.bool S.l) (fun _ _ => by as_aux_lemma => kernel_rfl) ?_
    clear F; intro a F
    refine T_val F H (by as_aux_lemma => kernel_rfl) (.agg ((c5 a0 a1 a2 a3 a4) ++ (c5 b0 b1 b2 b3 b4))) (R_load 0 rfl 82 (.tmp 8) rfl 0 (by as_aux_lemma => kernel_rfl) ((c5 a0 a1 a2 a3 a4) ++ (c5 b0 b1 b2 b3 b4)) (part_all _) _ Tryd.underlying82 rfl (by as_aux_lemma => kernel_rfl)) ?_
    clear F; intro a F
    refine T_val F H (by as_aux_lemma => kernel_rfl) (.agg ((c5 s0 s1 s2 s3 s4) ++ (c5 t0 t1 t2 t3 t4))) (R_load 1 rfl 82 (.tmp 9) rfl 0 (by as_aux_lemma => kernel_rfl) ((c5 s0 s1 s2 s3 s4) ++ (c5 t0 t1 t2 t3 t4)) (part_all _) _ Tryd.underlying82 rfl (by as_aux_lemma => kernel_rfl)) ?_
    clear F; intro a F
    refine T_call F H (by as_aux_lemma => kernel_rfl) 61 #[.bool S.l, .agg ((c5 a0 a1 a2 a3 a4) ++ (c5 b0 b1 b2 b3 b4)), .agg ((c5 s0 s1 s2 s3 s4) ++ (c5 t0 t1 t2 t3 t4))] (.tuple #[.agg ((c5 p0 p1 p2 p3 p4) ++ (c5 q0 q1 q2 q3 q4)), .agg ((c5 r0 r1 r2 r3 r4) ++ (c5 k0 k1 k2 k3 k4))]) (fun w => by as_aux_lemma => kernel_rfl) (Calls.kept (dsw _)) ?_
    clear F H; intro a v F H
    refine T_val F H (by as_aux_lemma => kernel_rfl) (.tuple #[.agg ((c5 p0 p1 p2 p3 p4) ++ (c5 q0 q1 q2 q3 q4)), .agg ((c5 r0 r1 r2 r3 r4) ++ (c5 k0 k1 k2 k3 k4))]) (fun _ _ => by as_aux_lemma => kernel_rfl) ?_
    clear F; intro a F
    refine T_val F H (by as_aux_lemma => kernel_rfl) (.agg ((c5 p0 p1 p2 p3 p4) ++ (c5 q0 q1 q2 q3 q4))) (fun _ _ => by as_aux_lemma => kernel_rfl) ?_
    clear F; intro a F
    refine T_val F H (by as_aux_lemma => kernel_rfl) (.agg ((c5 r0 r1 r2 r3 r4) ++ (c5 k0 k1 k2 k3 k4))) (fun _ _ => by as_aux_lemma => kernel_rfl) ?_
    clear F; intro a F
    refine T_set F H (by as_aux_lemma => kernel_rfl) rfl 0 rfl ((c5 p0 p1 p2 p3 p4) ++ (c5 q0 q1 q2 q3 q4)) (S_row 0 rfl 82 (.tmp 8) (.tmp 61) rfl (by as_aux_lemma => kernel_rfl) ((c5 p0 p1 p2 p3 p4) ++ (c5 q0 q1 q2 q3 q4)) (by as_aux_lemma => kernel_rfl) (by as_aux_lemma => kernel_rfl) (by as_aux_lemma => kernel_rfl) (by as_aux_lemma => kernel_rfl)) [⟨true, aq6, .cells ((c5 p0 p1 p2 p3 p4) ++ (c5 q0 q1 q2 q3 q4)) 82 (0, 0)⟩, ⟨true, aq7, .cells ((c5 s0 s1 s2 s3 s4) ++ (c5 t0 t1 t2 t3 t4)) 82 (0, 0)⟩, ⟨true, aq3, .cells #[.int .u8 0, .int .u8 0, .int .u8 0, .int .u8 0, .int .u8 0, .int .u8 0, .int .u8 0, .int .u8 0, .int .u8 0, .int .u8 0, .int .u8 0, .int .u8 0, .int .u8 0, .int .u8 0, .int .u8 0, .int .u8 0, .int .u8 0, .int .u8 0, .int .u8 0, .int .u8 0, .int .u8 0, .int .u8 0, .int .u8 0, .int .u8 0, .int .u8 0, .int .u8 0, .int .u8 0, .int .u8 0, .int .u8 0, .int .u8 0, .int .u8 0, .int .u8 0] 23 (0, 0)⟩, ⟨true, aq4, .cells (kArr c) 23 (0, 0)⟩, ⟨true, aq5, .cells (c5 u0 u1 u2 u3 u4) 33 (0, 0)⟩] rfl ?_
    clear F H; intro a v F H
    refine T_end (hK _ _ ?_)
    clear hK K
    refine C_seqK (fun K hK => ?_)
    refine D_region F H (fun β => [(63, .pointer (some ⟨aq6, 0, none⟩)), (64, .agg (c5 p0 p1 p2 p3 p4)), (65, .pointer (some ⟨aq6, 5, none⟩)), (66, .agg (c5 q0 q1 q2 q3 q4)), (67, .agg (c5 i0 i1 i2 i3 i4)), (68, .agg (c5 m0 m1 m2 m3 m4)), (69, .agg (kArr RF))]) [63, 64, 65, 66, 67, 68, 69] [] [⟨aq3, 7, .cells #[.int .u8 0, .int .u8 0, .int .u8 0, .int .u8 0, .int .u8 0, .int .u8 0, .int .u8 0, .int .u8 0, .int .u8 0, .int .u8 0, .int .u8 0, .int .u8 0, .int .u8 0, .int .u8 0, .int .u8 0, .int .u8 0, .int .u8 0, .int .u8 0, .int .u8 0, .int .u8 0, .int .u8 0, .int .u8 0, .int .u8 0, .int .u8 0, .int .u8 0, .int .u8 0, .int .u8 0, .int .u8 0, .int .u8 0, .int .u8 0, .int .u8 0, .int .u8 0] 23 (0, 0), .cells (kArr RF) 23 (0, 0)⟩] [⟨true, aq6, .cells ((c5 p0 p1 p2 p3 p4) ++ (c5 q0 q1 q2 q3 q4)) 82 (0, 0)⟩, ⟨true, aq7, .cells ((c5 s0 s1 s2 s3 s4) ++ (c5 t0 t1 t2 t3 t4)) 82 (0, 0)⟩, ⟨true, aq4, .cells (kArr c) 23 (0, 0)⟩, ⟨true, aq5, .cells (c5 u0 u1 u2 u3 u4) 33 (0, 0)⟩] [2, 0, 1, 3, 4] (by as_aux_lemma => kernel_rfl) (by as_aux_lemma => kernel_rfl) rfl (fun β => rfl) (fun fit => ⟨?_, ?_, ?_, ?_, ?_, ?_, ?_, ?_, trivial⟩) ?_
    · exact D_val 70 (fun β => by as_aux_lemma => kernel_rfl) (fun β => .pointer (some ⟨aq6, 0, none⟩)) 63 rfl (fun β => by as_aux_lemma => kernel_rfl) (fun β _ _ => by as_aux_lemma => kernel_rfl) (by as_aux_lemma => kernel_rfl)
    · exact D_val 70 (fun β => by as_aux_lemma => kernel_rfl) (fun β => .agg (c5 p0 p1 p2 p3 p4)) 64 rfl (fun β => by as_aux_lemma => kernel_rfl) (fun β => R_load 0 rfl 33 (.tmp 63) rfl 0 (by as_aux_lemma => kernel_rfl) (c5 p0 p1 p2 p3 p4) (part_ext (by as_aux_lemma => kernel_rfl)) _ Tryd.underlying33 rfl (by as_aux_lemma => kernel_rfl)) (by as_aux_lemma => kernel_rfl)
    · exact D_val 70 (fun β => by as_aux_lemma => kernel_rfl) (fun β => .pointer (some ⟨aq6, 5, none⟩)) 65 rfl (fun β => by as_aux_lemma => kernel_rfl) (fun β _ _ => by as_aux_lemma => kernel_rfl) (by as_aux_lemma => kernel_rfl)
    · exact D_val 70 (fun β => by as_aux_lemma => kernel_rfl) (fun β => .agg (c5 q0 q1 q2 q3 q4)) 66 rfl (fun β => by as_aux_lemma => kernel_rfl) (fun β => R_load 0 rfl 33 (.tmp 65) rfl 5 (by as_aux_lemma => kernel_rfl) (c5 q0 q1 q2 q3 q4) (part_ext (by as_aux_lemma => kernel_rfl)) _ Tryd.underlying33 rfl (by as_aux_lemma => kernel_rfl)) (by as_aux_lemma => kernel_rfl)
    · exact D_call 70 (fun β => by as_aux_lemma => kernel_rfl) (fun β => .agg (c5 i0 i1 i2 i3 i4)) 67 rfl (fun β => by as_aux_lemma => kernel_rfl) 21 (fun β => #[.agg (c5 q0 q1 q2 q3 q4)]) (fun β w => by as_aux_lemma => kernel_rfl) (fun β w hk => Calls.kept (di _)) (by as_aux_lemma => kernel_rfl)
    · exact D_call 70 (fun β => by as_aux_lemma => kernel_rfl) (fun β => .agg (c5 m0 m1 m2 m3 m4)) 68 rfl (fun β => by as_aux_lemma => kernel_rfl) 28 (fun β => #[.agg (c5 p0 p1 p2 p3 p4), .agg (c5 i0 i1 i2 i3 i4)]) (fun β w => by as_aux_lemma => kernel_rfl) (fun β w hk => Calls.kept (dm _)) (by as_aux_lemma => kernel_rfl)
    · exact D_call 70 (fun β => by as_aux_lemma => kernel_rfl) (fun β => .agg (kArr RF)) 69 rfl (fun β => by as_aux_lemma => kernel_rfl) 22 (fun β => #[.agg (c5 m0 m1 m2 m3 m4)]) (fun β w => by as_aux_lemma => kernel_rfl) (fun β w hk => Calls.kept (dk _)) (by as_aux_lemma => kernel_rfl)
    · exact D_putF fit ⟨aq3, 7, .cells #[.int .u8 0, .int .u8 0, .int .u8 0, .int .u8 0, .int .u8 0, .int .u8 0, .int .u8 0, .int .u8 0, .int .u8 0, .int .u8 0, .int .u8 0, .int .u8 0, .int .u8 0, .int .u8 0, .int .u8 0, .int .u8 0, .int .u8 0, .int .u8 0, .int .u8 0, .int .u8 0, .int .u8 0, .int .u8 0, .int .u8 0, .int .u8 0, .int .u8 0, .int .u8 0, .int .u8 0, .int .u8 0, .int .u8 0, .int .u8 0, .int .u8 0, .int .u8 0] 23 (0, 0), .cells (kArr RF) 23 (0, 0)⟩ (List.mem_of_getElem? (i := 0) rfl) rfl 70 (fun β => by as_aux_lemma => kernel_rfl) rfl (fun β w _ hg => P_row rfl rfl (ty := 23) (x := (.tmp 4)) (y := (.tmp 69)) rfl (by as_aux_lemma => kernel_rfl) (by as_aux_lemma => kernel_rfl) (by as_aux_lemma => kernel_rfl) (by as_aux_lemma => kernel_rfl) (by as_aux_lemma => kernel_rfl) hg) (by as_aux_lemma => kernel_rfl)
    clear F H; intro β a v F H
    replace H : Hp [] w [⟨true, aq3, .cells (kArr RF) 23 (0, 0)⟩, ⟨true, aq6, .cells ((c5 p0 p1 p2 p3 p4) ++ (c5 q0 q1 q2 q3 q4)) 82 (0, 0)⟩, ⟨true, aq7, .cells ((c5 s0 s1 s2 s3 s4) ++ (c5 t0 t1 t2 t3 t4)) 82 (0, 0)⟩, ⟨true, aq4, .cells (kArr c) 23 (0, 0)⟩, ⟨true, aq5, .cells (c5 u0 u1 u2 u3 u4) 33 (0, 0)⟩] v := H
    replace F : Fm 70 [] [(69, .agg (kArr RF)), (68, .agg (c5 m0 m1 m2 m3 m4)), (67, .agg (c5 i0 i1 i2 i3 i4)), (66, .agg (c5 q0 q1 q2 q3 q4)), (65, .pointer (some ⟨aq6, 5, none⟩)), (64, .agg (c5 p0 p1 p2 p3 p4)), (63, .pointer (some ⟨aq6, 0, none⟩)), (62, .agg ((c5 r0 r1 r2 r3 r4) ++ (c5 k0 k1 k2 k3 k4))), (61, .agg ((c5 p0 p1 p2 p3 p4) ++ (c5 q0 q1 q2 q3 q4))), (56, .tuple #[.agg ((c5 p0 p1 p2 p3 p4) ++ (c5 q0 q1 q2 q3 q4)), .agg ((c5 r0 r1 r2 r3 r4) ++ (c5 k0 k1 k2 k3 k4))]), (60, .tuple #[.agg ((c5 p0 p1 p2 p3 p4) ++ (c5 q0 q1 q2 q3 q4)), .agg ((c5 r0 r1 r2 r3 r4) ++ (c5 k0 k1 k2 k3 k4))]), (59, .agg ((c5 s0 s1 s2 s3 s4) ++ (c5 t0 t1 t2 t3 t4))), (58, .agg ((c5 a0 a1 a2 a3 a4) ++ (c5 b0 b1 b2 b3 b4))), (57, .bool S.l), (27, .bool false), (26, .int .i64 (-1)), (11, .int .i64 (-1)), (10, .bool S.l), (4, .pointer (some ⟨aq3, 0, none⟩)), (5, .pointer (some ⟨aq4, 0, none⟩)), (6, .pointer (some ⟨aq5, 0, none⟩)), (8, .pointer (some ⟨aq6, 0, none⟩)), (9, .pointer (some ⟨aq7, 0, none⟩))] a := F.weak _ (⟨rfl, ⟨rfl, ⟨rfl, ⟨rfl, ⟨rfl, ⟨rfl, ⟨rfl, ⟨rfl, ⟨rfl, ⟨rfl, ⟨rfl, ⟨rfl, ⟨rfl, ⟨rfl, ⟨rfl, ⟨rfl, ⟨rfl, ⟨rfl, ⟨rfl, ⟨rfl, ⟨rfl, ⟨rfl, ⟨rfl, trivial⟩⟩⟩⟩⟩⟩⟩⟩⟩⟩⟩⟩⟩⟩⟩⟩⟩⟩⟩⟩⟩⟩⟩)
    refine hK _ _ ?_
    clear hK K
    refine wp_ret ?_
    exact C_ret F H (rs := [.cell 4 23]) rfl (vs := [.agg (kArr RF)]) (.row 0 rfl rfl _ Tryd.underlying23 rfl (by as_aux_lemma => kernel_rfl) .nil) (.agg (kArr RF)) rfl ⟨congrArg Ending.returned (congrArg Value.agg (congrArg kArr hRF)), H.kept.below⟩
  · replace F : Fm 70 [] [(11, .int .i64 ((m : Nat) : Int)), (10, .bool (ladS c nu (255 - (m + 1))).l), (4, .pointer (some ⟨aq3, 0, none⟩)), (5, .pointer (some ⟨aq4, 0, none⟩)), (6, .pointer (some ⟨aq5, 0, none⟩)), (8, .pointer (some ⟨aq6, 0, none⟩)), (9, .pointer (some ⟨aq7, 0, none⟩))] a := F
    replace H : Hp [] w [⟨true, aq6, .cells ((c5 a0 a1 a2 a3 a4) ++ (c5 b0 b1 b2 b3 b4)) 82 (0, 0)⟩, ⟨true, aq7, .cells ((c5 s0 s1 s2 s3 s4) ++ (c5 t0 t1 t2 t3 t4)) 82 (0, 0)⟩, ⟨true, aq3, .cells #[.int .u8 0, .int .u8 0, .int .u8 0, .int .u8 0, .int .u8 0, .int .u8 0, .int .u8 0, .int .u8 0, .int .u8 0, .int .u8 0, .int .u8 0, .int .u8 0, .int .u8 0, .int .u8 0, .int .u8 0, .int .u8 0, .int .u8 0, .int .u8 0, .int .u8 0, .int .u8 0, .int .u8 0, .int .u8 0, .int .u8 0, .int .u8 0, .int .u8 0, .int .u8 0, .int .u8 0, .int .u8 0, .int .u8 0, .int .u8 0, .int .u8 0, .int .u8 0] 23 (0, 0)⟩, ⟨true, aq4, .cells (kArr c) 23 (0, 0)⟩, ⟨true, aq5, .cells (c5 u0 u1 u2 u3 u4) 33 (0, 0)⟩] v := H
    refine C_seqK (fun K hK => ?_)
    refine C_region ?_
    refine T_val F H (by as_aux_lemma => kernel_rfl) (.int .i64 ((m : Nat) : Int)) (fun _ _ => by as_aux_lemma => kernel_rfl) ?_
    clear F; intro a F
    refine T_val F H (by as_aux_lemma => kernel_rfl) (.bool true) (fun w _ => R_bin (x := (.tmp 26)) (y := (.const (.int .i64 0))) rfl (k := .i64) (a := ((m : Nat) : Int)) (b := 0) (by as_aux_lemma => kernel_rfl) (by as_aux_lemma => kernel_rfl) (i_ge (by omega)) w) ?_
    clear F; intro a F
    refine T_end (hK _ _ ?_)
    clear hK K
    refine C_if F true rfl rfl ?_
    refine wp_skip ?_
    refine hK1 _ _ ?_
    clear hK1 K1
    replace F : Fm 70 [] [(10, .bool (ladS c nu (255 - (m + 1))).l), (11, .int .i64 ((m : Nat) : Int)), (4, .pointer (some ⟨aq3, 0, none⟩)), (5, .pointer (some ⟨aq4, 0, none⟩)), (6, .pointer (some ⟨aq5, 0, none⟩)), (8, .pointer (some ⟨aq6, 0, none⟩)), (9, .pointer (some ⟨aq7, 0, none⟩))] a := F.weak _ (⟨rfl, ⟨rfl, ⟨rfl, ⟨rfl, ⟨rfl, ⟨rfl, ⟨rfl, trivial⟩⟩⟩⟩⟩⟩⟩)
    refine C_seqK (fun K2 hK2 => ?_)
    refine wp_block ?_
    refine C_seqK (fun K hK => ?_)
    refine C_region ?_
    refine T_val F H (by as_aux_lemma => kernel_rfl) (.int .i64 ((m : Nat) : Int)) (fun _ _ => by as_aux_lemma => kernel_rfl) ?_
    clear F; intro a F
    refine T_val F H (by as_aux_lemma => kernel_rfl) (.int .i64 ((m / 8 : Nat) : Int)) (fun w _ => R_bin (x := (.tmp 30)) (y := (.const (.int .i64 8))) rfl (k := .i64) (a := ((m : Nat) : Int)) (b := 8) (by as_aux_lemma => kernel_rfl) (by as_aux_lemma => kernel_rfl) (i_quo64 (a := m) (b := 8) (by omega) (by omega)) w) ?_
    clear F; intro a F
    refine T_val F H (by as_aux_lemma => kernel_rfl) (.pointer (some ⟨aq4, (0 + m / 8 * 1), none⟩)) (fun w _ => R_index (k := .i64) (g := aq4) (off := 0) (x := (.tmp 5)) (y := (.tmp 31)) rfl Tryd.underlying23 (by as_aux_lemma => kernel_rfl) (m / 8) (by as_aux_lemma => kernel_rfl) (by omega) (sz := 1) (by as_aux_lemma => kernel_rfl) w) ?_
    clear F; intro a F
    refine T_val F H (by as_aux_lemma => kernel_rfl) (.int .u8 ((c (m / 8) : Nat) : Int)) (R_cell 3 rfl 5 (.tmp 32) rfl (0 + m / 8 * 1) (by as_aux_lemma => kernel_rfl) (.int .u8 ((c (m / 8) : Nat) : Int)) ((congrArg (fun q => (kArr c)[q]?) (show 0 + m / 8 * 1 = m / 8 by omega)).trans (kArr_get c (by omega))) _ Tryd.underlying5 rfl) ?_
    clear F; intro a F
    refine T_val F H (by as_aux_lemma => kernel_rfl) (.int .i64 ((m : Nat) : Int)) (fun _ _ => by as_aux_lemma => kernel_rfl) ?_
    clear F; intro a F
    refine T_val F H (by as_aux_lemma => kernel_rfl) (.int .i64 ((m % 8 : Nat) : Int)) (fun w _ => R_bin (x := (.tmp 34)) (y := (.const (.int .i64 8))) rfl (k := .i64) (a := ((m : Nat) : Int)) (b := 8) (by as_aux_lemma => kernel_rfl) (by as_aux_lemma => kernel_rfl) (i_rem64 (a := m) (b := 8) (by omega)) w) ?_
    clear F; intro a F
    refine T_val F H (by as_aux_lemma => kernel_rfl) (.int .u8 ((c (m / 8) >>> (m % 8) : Nat) : Int)) (fun w _ => R_shr (x := (.tmp 33)) (y := (.tmp 35)) rfl (k := .u8) (yk := .i64) (a := ((c (m / 8) : Nat) : Int)) (b := ((m % 8 : Nat) : Int)) (by as_aux_lemma => kernel_rfl) (by as_aux_lemma => kernel_rfl) (Int.natCast_nonneg _) (shr8 (by omega)) w) ?_
    clear F; intro a F
    refine T_val F H (by as_aux_lemma => kernel_rfl) (.int .u8 ((c (m / 8) >>> (m % 8) &&& 1 : Nat) : Int)) (fun w _ => R_bin (x := (.tmp 36)) (y := (.const (.int .u8 1))) rfl (k := .u8) (a := ((c (m / 8) >>> (m % 8) : Nat) : Int)) (b := 1) (by as_aux_lemma => kernel_rfl) (by as_aux_lemma => kernel_rfl) (i_and8 (a := c (m / 8) >>> (m % 8)) (b := 1) (shr_lt (hc _ (by omega))) (by omega)) w) ?_
    clear F; intro a F
    refine T_val F H (by as_aux_lemma => kernel_rfl) (.bool (ladBit c m)) (fun w _ => R_bin (x := (.tmp 37)) (y := (.const (.int .u8 1))) rfl (k := .u8) (a := ((c (m / 8) >>> (m % 8) &&& 1 : Nat) : Int)) (b := 1) (by as_aux_lemma => kernel_rfl) (by as_aux_lemma => kernel_rfl) (i_eqn (a := c (m / 8) >>> (m % 8) &&& 1) (b := 1)) w) ?_
    clear F; intro a F
    refine T_val F H (by as_aux_lemma => kernel_rfl) (.bool (ladBit c m)) (fun _ _ => by as_aux_lemma => kernel_rfl) ?_
    clear F; intro a F
    refine T_end (hK _ _ ?_)
    clear hK K
    replace F : Fm 70 [] [(12, .bool (ladBit c m)), (10, .bool (ladS c nu (255 - (m + 1))).l), (11, .int .i64 ((m : Nat) : Int)), (4, .pointer (some ⟨aq3, 0, none⟩)), (5, .pointer (some ⟨aq4, 0, none⟩)), (6, .pointer (some ⟨aq5, 0, none⟩)), (8, .pointer (some ⟨aq6, 0, none⟩)), (9, .pointer (some ⟨aq7, 0, none⟩))] a := F.weak _ (⟨rfl, ⟨rfl, ⟨rfl, ⟨rfl, ⟨rfl, ⟨rfl, ⟨rfl, ⟨rfl, trivial⟩⟩⟩⟩⟩⟩⟩⟩)
    generalize hS : ladS c nu (255 - (m + 1)) = S at *
    generalize hb : ladBit c m = bt at *
    have hd : (bt != S.l) = (bt != S.l) := rfl
    obtain ⟨p0, p1, p2, p3, p4, q0, q1, q2, q3, q4, r0, r1, r2, r3, r4, k0, k1, k2, k3, k4, ep, eq, er, ek, dsw⟩ := swapped_any (bt != S.l) ea eb es et
    obtain ⟨x0, x1, x2, x3, x4, y0, y1, y2, y3, y4, z0, z1, z2, z3, z4, j0, j1, j2, j3, j4, ex, ey, ez, ej, dst⟩ := step_any eu ep eq er ek
    refine C_seqK (fun K hK => ?_)
    refine C_region ?_
    refine T_val F H (by as_aux_lemma => kernel_rfl) (.bool bt) (fun _ _ => by as_aux_lemma => kernel_rfl) ?_
    clear F; intro a F
    refine T_val F H (by as_aux_lemma => kernel_rfl) (.bool S.l) (fun _ _ => by as_aux_lemma => kernel_rfl) ?_
    clear F; intro a F
    refine T_val F H (by as_aux_lemma => kernel_rfl) (.bool (bt != S.l)) (fun w _ => R_neqb (x := (.tmp 40)) (y := (.tmp 41)) rfl (a := bt) (b := S.l) (by as_aux_lemma => kernel_rfl) (by as_aux_lemma => kernel_rfl) Tryd.underlying4 rfl w) ?_
    clear F; intro a F
    refine T_val F H (by as_aux_lemma => kernel_rfl) (.agg ((c5 a0 a1 a2 a3 a4) ++ (c5 b0 b1 b2 b3 b4))) (R_load 0 rfl 82 (.tmp 8) rfl 0 (by as_aux_lemma => kernel_rfl) ((c5 a0 a1 a2 a3 a4) ++ (c5 b0 b1 b2 b3 b4)) (part_all _) _ Tryd.underlying82 rfl (by as_aux_lemma => kernel_rfl)) ?_
    clear F; intro a F
    refine T_val F H (by as_aux_lemma => kernel_rfl) (.agg ((c5 s0 s1 s2 s3 s4) ++ (c5 t0 t1 t2 t3 t4))) (R_load 1 rfl 82 (.tmp 9) rfl 0 (by as_aux_lemma => kernel_rfl) ((c5 s0 s1 s2 s3 s4) ++ (c5 t0 t1 t2 t3 t4)) (part_all _) _ Tryd.underlying82 rfl (by as_aux_lemma => kernel_rfl)) ?_
    clear F; intro a F
    refine T_call F H (by as_aux_lemma => kernel_rfl) 61 #[.bool (bt != S.l), .agg ((c5 a0 a1 a2 a3 a4) ++ (c5 b0 b1 b2 b3 b4)), .agg ((c5 s0 s1 s2 s3 s4) ++ (c5 t0 t1 t2 t3 t4))] (.tuple #[.agg ((c5 p0 p1 p2 p3 p4) ++ (c5 q0 q1 q2 q3 q4)), .agg ((c5 r0 r1 r2 r3 r4) ++ (c5 k0 k1 k2 k3 k4))]) (fun w => by as_aux_lemma => kernel_rfl) (Calls.kept (dsw _)) ?_
    clear F H; intro a v F H
    refine T_val F H (by as_aux_lemma => kernel_rfl) (.tuple #[.agg ((c5 p0 p1 p2 p3 p4) ++ (c5 q0 q1 q2 q3 q4)), .agg ((c5 r0 r1 r2 r3 r4) ++ (c5 k0 k1 k2 k3 k4))]) (fun _ _ => by as_aux_lemma => kernel_rfl) ?_
    clear F; intro a F
    refine T_val F H (by as_aux_lemma => kernel_rfl) (.agg ((c5 p0 p1 p2 p3 p4) ++ (c5 q0 q1 q2 q3 q4))) (fun _ _ => by as_aux_lemma => kernel_rfl) ?_
    clear F; intro a F
    refine T_val F H (by as_aux_lemma => kernel_rfl) (.agg ((c5 r0 r1 r2 r3 r4) ++ (c5 k0 k1 k2 k3 k4))) (fun _ _ => by as_aux_lemma => kernel_rfl) ?_
    clear F; intro a F
    refine T_set F H (by as_aux_lemma => kernel_rfl) rfl 0 rfl ((c5 p0 p1 p2 p3 p4) ++ (c5 q0 q1 q2 q3 q4)) (S_row 0 rfl 82 (.tmp 8) (.tmp 46) rfl (by as_aux_lemma => kernel_rfl) ((c5 p0 p1 p2 p3 p4) ++ (c5 q0 q1 q2 q3 q4)) (by as_aux_lemma => kernel_rfl) (by as_aux_lemma => kernel_rfl) (by as_aux_lemma => kernel_rfl) (by as_aux_lemma => kernel_rfl)) [⟨true, aq6, .cells ((c5 p0 p1 p2 p3 p4) ++ (c5 q0 q1 q2 q3 q4)) 82 (0, 0)⟩, ⟨true, aq7, .cells ((c5 s0 s1 s2 s3 s4) ++ (c5 t0 t1 t2 t3 t4)) 82 (0, 0)⟩, ⟨true, aq3, .cells #[.int .u8 0, .int .u8 0, .int .u8 0, .int .u8 0, .int .u8 0, .int .u8 0, .int .u8 0, .int .u8 0, .int .u8 0, .int .u8 0, .int .u8 0, .int .u8 0, .int .u8 0, .int .u8 0, .int .u8 0, .int .u8 0, .int .u8 0, .int .u8 0, .int .u8 0, .int .u8 0, .int .u8 0, .int .u8 0, .int .u8 0, .int .u8 0, .int .u8 0, .int .u8 0, .int .u8 0, .int .u8 0, .int .u8 0, .int .u8 0, .int .u8 0, .int .u8 0] 23 (0, 0)⟩, ⟨true, aq4, .cells (kArr c) 23 (0, 0)⟩, ⟨true, aq5, .cells (c5 u0 u1 u2 u3 u4) 33 (0, 0)⟩] rfl ?_
    clear F H; intro a v F H
    refine T_set F H (by as_aux_lemma => kernel_rfl) rfl 1 rfl ((c5 r0 r1 r2 r3 r4) ++ (c5 k0 k1 k2 k3 k4)) (S_row 1 rfl 82 (.tmp 9) (.tmp 47) rfl (by as_aux_lemma => kernel_rfl) ((c5 r0 r1 r2 r3 r4) ++ (c5 k0 k1 k2 k3 k4)) (by as_aux_lemma => kernel_rfl) (by as_aux_lemma => kernel_rfl) (by as_aux_lemma => kernel_rfl) (by as_aux_lemma => kernel_rfl)) [⟨true, aq6, .cells ((c5 p0 p1 p2 p3 p4) ++ (c5 q0 q1 q2 q3 q4)) 82 (0, 0)⟩, ⟨true, aq7, .cells ((c5 r0 r1 r2 r3 r4) ++ (c5 k0 k1 k2 k3 k4)) 82 (0, 0)⟩, ⟨true, aq3, .cells #[.int .u8 0, .int .u8 0, .int .u8 0, .int .u8 0, .int .u8 0, .int .u8 0, .int .u8 0, .int .u8 0, .int .u8 0, .int .u8 0, .int .u8 0, .int .u8 0, .int .u8 0, .int .u8 0, .int .u8 0, .int .u8 0, .int .u8 0, .int .u8 0, .int .u8 0, .int .u8 0, .int .u8 0, .int .u8 0, .int .u8 0, .int .u8 0, .int .u8 0, .int .u8 0, .int .u8 0, .int .u8 0, .int .u8 0, .int .u8 0, .int .u8 0, .int .u8 0] 23 (0, 0)⟩, ⟨true, aq4, .cells (kArr c) 23 (0, 0)⟩, ⟨true, aq5, .cells (c5 u0 u1 u2 u3 u4) 33 (0, 0)⟩] rfl ?_
    clear F H; intro a v F H
    refine T_end (hK _ _ ?_)
    clear hK K
    refine C_seqK (fun K hK => ?_)
    refine C_region ?_
    refine T_val F H (by as_aux_lemma => kernel_rfl) (.bool bt) (fun _ _ => by as_aux_lemma => kernel_rfl) ?_
    clear F; intro a F
    refine T_val F H (by as_aux_lemma => kernel_rfl) (.bool bt) (fun _ _ => by as_aux_lemma => kernel_rfl) ?_
    clear F; intro a F
    refine T_end (hK _ _ ?_)
    clear hK K
    refine C_region ?_
    refine T_val F H (by as_aux_lemma => kernel_rfl) (.agg (c5 u0 u1 u2 u3 u4)) (R_load 4 rfl 33 (.tmp 6) rfl 0 (by as_aux_lemma => kernel_rfl) (c5 u0 u1 u2 u3 u4) (part_all _) _ Tryd.underlying33 rfl (by as_aux_lemma => kernel_rfl)) ?_
    clear F; intro a F
    refine T_val F H (by as_aux_lemma => kernel_rfl) (.agg ((c5 p0 p1 p2 p3 p4) ++ (c5 q0 q1 q2 q3 q4))) (R_load 0 rfl 82 (.tmp 8) rfl 0 (by as_aux_lemma => kernel_rfl) ((c5 p0 p1 p2 p3 p4) ++ (c5 q0 q1 q2 q3 q4)) (part_all _) _ Tryd.underlying82 rfl (by as_aux_lemma => kernel_rfl)) ?_
    clear F; intro a F
    refine T_val F H (by as_aux_lemma => kernel_rfl) (.agg ((c5 r0 r1 r2 r3 r4) ++ (c5 k0 k1 k2 k3 k4))) (R_load 1 rfl 82 (.tmp 9) rfl 0 (by as_aux_lemma => kernel_rfl) ((c5 r0 r1 r2 r3 r4) ++ (c5 k0 k1 k2 k3 k4)) (part_all _) _ Tryd.underlying82 rfl (by as_aux_lemma => kernel_rfl)) ?_
    clear F; intro a F
    refine T_call F H (by as_aux_lemma => kernel_rfl) 62 #[.agg (c5 u0 u1 u2 u3 u4), .agg ((c5 p0 p1 p2 p3 p4) ++ (c5 q0 q1 q2 q3 q4)), .agg ((c5 r0 r1 r2 r3 r4) ++ (c5 k0 k1 k2 k3 k4))] (.tuple #[.agg ((c5 x0 x1 x2 x3 x4) ++ (c5 y0 y1 y2 y3 y4)), .agg ((c5 z0 z1 z2 z3 z4) ++ (c5 j0 j1 j2 j3 j4))]) (fun w => by as_aux_lemma => kernel_rfl) (Calls.kept (dst _ (h4.below h4p H.kept.below))) ?_
    clear F H; intro a v F H
    refine T_val F H (by as_aux_lemma => kernel_rfl) (.tuple #[.agg ((c5 x0 x1 x2 x3 x4) ++ (c5 y0 y1 y2 y3 y4)), .agg ((c5 z0 z1 z2 z3 z4) ++ (c5 j0 j1 j2 j3 j4))]) (fun _ _ => by as_aux_lemma => kernel_rfl) ?_
    clear F; intro a F
    refine T_val F H (by as_aux_lemma => kernel_rfl) (.agg ((c5 x0 x1 x2 x3 x4) ++ (c5 y0 y1 y2 y3 y4))) (fun _ _ => by as_aux_lemma => kernel_rfl) ?_
    clear F; intro a F
    refine T_val F H (by as_aux_lemma => kernel_rfl) (.agg ((c5 z0 z1 z2 z3 z4) ++ (c5 j0 j1 j2 j3 j4))) (fun _ _ => by as_aux_lemma => kernel_rfl) ?_
    clear F; intro a F
    refine T_set F H (by as_aux_lemma => kernel_rfl) rfl 0 rfl ((c5 x0 x1 x2 x3 x4) ++ (c5 y0 y1 y2 y3 y4)) (S_row 0 rfl 82 (.tmp 8) (.tmp 54) rfl (by as_aux_lemma => kernel_rfl) ((c5 x0 x1 x2 x3 x4) ++ (c5 y0 y1 y2 y3 y4)) (by as_aux_lemma => kernel_rfl) (by as_aux_lemma => kernel_rfl) (by as_aux_lemma => kernel_rfl) (by as_aux_lemma => kernel_rfl)) [⟨true, aq6, .cells ((c5 x0 x1 x2 x3 x4) ++ (c5 y0 y1 y2 y3 y4)) 82 (0, 0)⟩, ⟨true, aq7, .cells ((c5 r0 r1 r2 r3 r4) ++ (c5 k0 k1 k2 k3 k4)) 82 (0, 0)⟩, ⟨true, aq3, .cells #[.int .u8 0, .int .u8 0, .int .u8 0, .int .u8 0, .int .u8 0, .int .u8 0, .int .u8 0, .int .u8 0, .int .u8 0, .int .u8 0, .int .u8 0, .int .u8 0, .int .u8 0, .int .u8 0, .int .u8 0, .int .u8 0, .int .u8 0, .int .u8 0, .int .u8 0, .int .u8 0, .int .u8 0, .int .u8 0, .int .u8 0, .int .u8 0, .int .u8 0, .int .u8 0, .int .u8 0, .int .u8 0, .int .u8 0, .int .u8 0, .int .u8 0, .int .u8 0] 23 (0, 0)⟩, ⟨true, aq4, .cells (kArr c) 23 (0, 0)⟩, ⟨true, aq5, .cells (c5 u0 u1 u2 u3 u4) 33 (0, 0)⟩] rfl ?_
    clear F H; intro a v F H
    refine T_set F H (by as_aux_lemma => kernel_rfl) rfl 1 rfl ((c5 z0 z1 z2 z3 z4) ++ (c5 j0 j1 j2 j3 j4)) (S_row 1 rfl 82 (.tmp 9) (.tmp 55) rfl (by as_aux_lemma => kernel_rfl) ((c5 z0 z1 z2 z3 z4) ++ (c5 j0 j1 j2 j3 j4)) (by as_aux_lemma => kernel_rfl) (by as_aux_lemma => kernel_rfl) (by as_aux_lemma => kernel_rfl) (by as_aux_lemma => kernel_rfl)) [⟨true, aq6, .cells ((c5 x0 x1 x2 x3 x4) ++ (c5 y0 y1 y2 y3 y4)) 82 (0, 0)⟩, ⟨true, aq7, .cells ((c5 z0 z1 z2 z3 z4) ++ (c5 j0 j1 j2 j3 j4)) 82 (0, 0)⟩, ⟨true, aq3, .cells #[.int .u8 0, .int .u8 0, .int .u8 0, .int .u8 0, .int .u8 0, .int .u8 0, .int .u8 0, .int .u8 0, .int .u8 0, .int .u8 0, .int .u8 0, .int .u8 0, .int .u8 0, .int .u8 0, .int .u8 0, .int .u8 0, .int .u8 0, .int .u8 0, .int .u8 0, .int .u8 0, .int .u8 0, .int .u8 0, .int .u8 0, .int .u8 0, .int .u8 0, .int .u8 0, .int .u8 0, .int .u8 0, .int .u8 0, .int .u8 0, .int .u8 0, .int .u8 0] 23 (0, 0)⟩, ⟨true, aq4, .cells (kArr c) 23 (0, 0)⟩, ⟨true, aq5, .cells (c5 u0 u1 u2 u3 u4) 33 (0, 0)⟩] rfl ?_
    clear F H; intro a v F H
    refine wpList_nil ?_
    refine hK2 _ _ ?_
    clear hK2 K2
    replace F : Fm 70 [] [(10, .bool bt), (11, .int .i64 ((m : Nat) : Int)), (4, .pointer (some ⟨aq3, 0, none⟩)), (5, .pointer (some ⟨aq4, 0, none⟩)), (6, .pointer (some ⟨aq5, 0, none⟩)), (8, .pointer (some ⟨aq6, 0, none⟩)), (9, .pointer (some ⟨aq7, 0, none⟩))] a := F.weak _ (⟨rfl, ⟨rfl, ⟨rfl, ⟨rfl, ⟨rfl, ⟨rfl, ⟨rfl, trivial⟩⟩⟩⟩⟩⟩⟩)
    refine C_region ?_
    refine T_val F H (by as_aux_lemma => kernel_rfl) (.int .i64 ((m : Nat) : Int)) (fun _ _ => by as_aux_lemma => kernel_rfl) ?_
    clear F; intro a F
    refine T_val F H (by as_aux_lemma => kernel_rfl) (.int .i64 (cntI m)) (fun w _ => R_bin (x := (.tmp 28)) (y := (.const (.int .i64 1))) rfl (k := .i64) (a := ((m : Nat) : Int)) (b := 1) (by as_aux_lemma => kernel_rfl) (by as_aux_lemma => kernel_rfl) (i_cnt m (by omega)) w) ?_
    clear F; intro a F
    refine T_val F H (by as_aux_lemma => kernel_rfl) (.int .i64 (cntI m)) (fun _ _ => by as_aux_lemma => kernel_rfl) ?_
    clear F; intro a F
    refine wpList_nil ?_
    replace F : Fm 70 [] [(11, .int .i64 (cntI m)), (10, .bool bt), (4, .pointer (some ⟨aq3, 0, none⟩)), (5, .pointer (some ⟨aq4, 0, none⟩)), (6, .pointer (some ⟨aq5, 0, none⟩)), (8, .pointer (some ⟨aq6, 0, none⟩)), (9, .pointer (some ⟨aq7, 0, none⟩))] a := F.weak _ (⟨rfl, ⟨rfl, ⟨rfl, ⟨rfl, ⟨rfl, ⟨rfl, ⟨rfl, trivial⟩⟩⟩⟩⟩⟩⟩)
    have hk : 255 - m = (255 - (m + 1)) + 1 := by omega
    have hbi : 254 - (255 - (m + 1)) = m := by omega
    have hst : ladS c nu (255 - m) = ladSt nu bt (ladSw (bt != S.l) S) := by rw [hk, ladS, hbi, hb, hS]
    refine ⟨m, Nat.lt_succ_self m, by omega, x0, x1, x2, x3, x4, y0, y1, y2, y3, y4, z0, z1, z2, z3, z4, j0, j1, j2, j3, j4, by rw [hst]; exact ex, by rw [hst]; exact ey, by rw [hst]; exact ez, by rw [hst]; exact ej, by rw [hst]; exact F, H⟩

end Go.Proofs.YtdmioipdmdmkhaaDoor
