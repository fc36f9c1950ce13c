/- Walks: a block's words, the compression. -/
import Derived.Test.YtdejhenkdbjakaaDoorW2
set_option linter.unusedVariables false
set_option linter.unusedSimpArgs false
namespace Go.Proofs.YtdejhenkdbjakaaDoor
open Go Go.RowKit
/-- The words that are there. -/
def wP (bl : Nat → Nat) (k : Nat) : Nat → Nat := fun j => if j < k then wF bl j else 0
theorem wP_lt {bl : Nat → Nat} (hb : ∀ i, bl i < 256) (k i : Nat) : wP bl k i < 4294967296 := by
  unfold wP
  split
  · exact wF_lt hb i
  · omega
theorem wP_at (bl : Nat → Nat) {k i : Nat} (h : i < k) : wP bl k i = wF bl i := if_pos h
theorem wP_step (bl : Nat → Nat) {k v : Nat} (h : v = wF bl k) : upd (wP bl k) k v = wP bl (k + 1) := by
  subst h
  funext j
  unfold upd wP
  by_cases e : j = k
  · subst e; rw [if_pos rfl, if_pos (by omega)]
  · rw [if_neg e]
    by_cases h1 : j < k
    · rw [if_pos h1, if_pos (by omega)]
    · rw [if_neg h1, if_neg (by omega)]
theorem wP_lo (bl : Nat → Nat) {k : Nat} (h : k < 16) : upd (wP bl k) k (hiW bl (4 * k) 4) = wP bl (k + 1) := wP_step bl (wF_lo bl h).symm
theorem wP_hi (bl : Nat → Nat) {k : Nat} (h : k < 48) : upd (wP bl (16 + k)) (16 + k) (add32 (add32 (add32 (wP bl (16 + k) (16 + k - 16)) (sg0 (wP bl (16 + k) (16 + k - 15)))) (wP bl (16 + k) (16 + k - 7))) (sg1 (wP bl (16 + k) (16 + k - 2)))) = wP bl (16 + (k + 1)) := by
  refine wP_step bl ?_
  rw [wF_hi bl (i := 16 + k) (by omega) (by omega), wP_at bl (by omega), wP_at bl (by omega), wP_at bl (by omega), wP_at bl (by omega)]
theorem wP_all (bl : Nat → Nat) : arrF .u32 64 (wP bl (16 + 48)) = arrF .u32 64 (wF bl) := arrF_congr fun i hi => wP_at bl (by omega)
theorem hiW4_lt {bl : Nat → Nat} (hb : ∀ i, bl i < 256) (off : Nat) : hiW bl off 4 < 4294967296 := by
  have := hiW_lt hb (off := off) (k := 4)
  exact Nat.lt_of_lt_of_le this (by decide)
def sumP (s st : Nat → Nat) (k : Nat) : Nat → Nat := fun j => if j < k then add32 (s j) (st j) else s j
theorem sumP_step (s st : Nat → Nat) (k : Nat) : upd (sumP s st k) k (add32 (sumP s st k k) (st k)) = sumP s st (k + 1) := by
  funext j
  unfold upd sumP
  by_cases e : j = k
  · subst e; rw [if_pos rfl, if_neg (Nat.lt_irrefl _), if_pos (by omega)]
  · rw [if_neg e]
    by_cases h1 : j < k
    · rw [if_pos h1, if_pos (by omega)]
    · rw [if_neg h1, if_neg (by omega)]
theorem sumP_lt {s st : Nat → Nat} (h : ∀ i, s i < 4294967296) (k i : Nat) : sumP s st k i < 4294967296 := by
  unfold sumP
  split
  · exact add32_lt _ _
  · exact h i
theorem R_sliceA {P : Program} {o : Oper} {V : List (Nat × Value)} {t e : TypeId} {x ylo yhi : Operand} (ho : o.op = .slice t x (some ylo) (some yhi) none) {n : Nat} (hu : P.underlying t = some (.array n e)) {g off : Nat} (hx : evV V x = .pointer (some ⟨g, off, none⟩)) {k1 k2 : IntKind} (l h : Nat) (hlo : evV V ylo = .int k1 l) (hhi : evV V yhi = .int k2 h) (h1 : l ≤ h) (h2 : h ≤ n) (h3 : l < n) (hs : (P.info? e).map (·.size) = some 1) (w : World) : (execOp (evV V) o).run P w = .ok (.value (.slice (some ⟨g, off + l, none⟩) (h - l) (n - l))) w := by
  have hsz : (sizeOf e).run P w = .ok 1 w := by
    cases hq : P.info? e with
    | none => simp [hq] at hs
    | some j =>
      have hs' : j.size = 1 := by simpa [hq] using hs
      simp [sizeOf, typeInfo, hq, hs', Sem.run_bind, go_sem]
  have hel : P.elem t = e := by simp [Program.elem, hu]
  have hal : P.arrayLen t = n := by simp [Program.arrayLen, hu]
  have hu' : P.underlying t = some (.array (P.arrayLen t) (P.elem t)) := by rw [hel, hal, hu]
  have hadd : (⟨g, off, none⟩ : Addr).add (l * 1) = ⟨g, off + l, none⟩ := by rw [Nat.mul_one]; unfold Addr.add; split <;> simp_all
  have hr := run_sliceAt_array_lh (P := P) w t ⟨g, off, none⟩ hu' k1 k2 l h (by omega) (by omega) (by rw [hal]; omega)
  rw [hel, hsz, hal] at hr
  simp only [Result.andThen_ok, slicedAt, Int.toNat_natCast] at hr
  rw [if_neg (by omega), hadd] at hr
  unfold execOp
  simp only [ho, hx, hlo, hhi, Option.map_some, Option.map_none, Sem.run_bind, hr, Result.andThen_ok, Sem.run_pure]

set_option maxRecDepth 100000 in
set_option maxHeartbeats 4000000 in
theorem words_any (bl : Nat → Nat) (hbl : ∀ i, bl i < 256) (w : World) : Calls Tryd.prog 109 #[.agg (arrF .u8 64 bl)] w fun e w' => e = .returned (.agg (arrF .u32 64 (wF bl))) ∧ Kept [] w w' := by
  refine C_enter Tryd.func109 rfl 68 Tryd.ntmps109 (Nat.le_of_ble_eq_true rfl) (fun a F => ?_)
  have H := Hp.start [] w
  replace F : Fm 68 [] [(0, .agg (arrF .u8 64 bl))] a := F.weak _ (subL_of kr)
  refine C_seqK (fun K1 hK1 => ?_)
  refine C_region ?_
  refine T_new F H kr (fun ad => pt ad 0) (ce (arrF .u8 64 bl) 140) (fun w => kr) ?_
  clear F H; intro aq2 a v F H
  refine T_new F H kr (fun ad => pt ad 0) (ce #[.int .u32 0, .int .u32 0, .int .u32 0, .int .u32 0, .int .u32 0, .int .u32 0, .int .u32 0, .int .u32 0, .int .u32 0, .int .u32 0, .int .u32 0, .int .u32 0, .int .u32 0, .int .u32 0, .int .u32 0, .int .u32 0, .int .u32 0, .int .u32 0, .int .u32 0, .int .u32 0, .int .u32 0, .int .u32 0, .int .u32 0, .int .u32 0, .int .u32 0, .int .u32 0, .int .u32 0, .int .u32 0, .int .u32 0, .int .u32 0, .int .u32 0, .int .u32 0, .int .u32 0, .int .u32 0, .int .u32 0, .int .u32 0, .int .u32 0, .int .u32 0, .int .u32 0, .int .u32 0, .int .u32 0, .int .u32 0, .int .u32 0, .int .u32 0, .int .u32 0, .int .u32 0, .int .u32 0, .int .u32 0, .int .u32 0, .int .u32 0, .int .u32 0, .int .u32 0, .int .u32 0, .int .u32 0, .int .u32 0, .int .u32 0, .int .u32 0, .int .u32 0, .int .u32 0, .int .u32 0, .int .u32 0, .int .u32 0, .int .u32 0, .int .u32 0] 159) (fun w => kr) ?_
  clear F H; intro aq3 a v F H
  refine wpList_nil ?_
  refine hK1 _ _ ?_
  clear hK1
  try clear K1
  refine C_seqK (fun K4 hK4 => ?_)
  refine C_region ?_
  refine T_new F H kr (fun ad => pt ad 0) (ce #[.int .u32 0, .int .u32 0, .int .u32 0, .int .u32 0, .int .u32 0, .int .u32 0, .int .u32 0, .int .u32 0, .int .u32 0, .int .u32 0, .int .u32 0, .int .u32 0, .int .u32 0, .int .u32 0, .int .u32 0, .int .u32 0, .int .u32 0, .int .u32 0, .int .u32 0, .int .u32 0, .int .u32 0, .int .u32 0, .int .u32 0, .int .u32 0, .int .u32 0, .int .u32 0, .int .u32 0, .int .u32 0, .int .u32 0, .int .u32 0, .int .u32 0, .int .u32 0, .int .u32 0, .int .u32 0, .int .u32 0, .int .u32 0, .int .u32 0, .int .u32 0, .int .u32 0, .int .u32 0, .int .u32 0, .int .u32 0, .int .u32 0, .int .u32 0, .int .u32 0, .int .u32 0, .int .u32 0, .int .u32 0, .int .u32 0, .int .u32 0, .int .u32 0, .int .u32 0, .int .u32 0, .int .u32 0, .int .u32 0, .int .u32 0, .int .u32 0, .int .u32 0, .int .u32 0, .int .u32 0, .int .u32 0, .int .u32 0, .int .u32 0, .int .u32 0] 159) (fun w => kr) ?_
  clear F H; intro aq5 a v F H
  refine wpList_nil ?_
  rw [show (#[.int .u32 0, .int .u32 0, .int .u32 0, .int .u32 0, .int .u32 0, .int .u32 0, .int .u32 0, .int .u32 0, .int .u32 0, .int .u32 0, .int .u32 0, .int .u32 0, .int .u32 0, .int .u32 0, .int .u32 0, .int .u32 0, .int .u32 0, .int .u32 0, .int .u32 0, .int .u32 0, .int .u32 0, .int .u32 0, .int .u32 0, .int .u32 0, .int .u32 0, .int .u32 0, .int .u32 0, .int .u32 0, .int .u32 0, .int .u32 0, .int .u32 0, .int .u32 0, .int .u32 0, .int .u32 0, .int .u32 0, .int .u32 0, .int .u32 0, .int .u32 0, .int .u32 0, .int .u32 0, .int .u32 0, .int .u32 0, .int .u32 0, .int .u32 0, .int .u32 0, .int .u32 0, .int .u32 0, .int .u32 0, .int .u32 0, .int .u32 0, .int .u32 0, .int .u32 0, .int .u32 0, .int .u32 0, .int .u32 0, .int .u32 0, .int .u32 0, .int .u32 0, .int .u32 0, .int .u32 0, .int .u32 0, .int .u32 0, .int .u32 0, .int .u32 0] : Array Value) = (arrF .u32 64 (wP bl 0)) from kr] at H
  refine hK4 _ _ ?_
  clear hK4
  try clear K4
  refine C_seqK (fun K6 hK6 => ?_)
  refine C_seqK (fun K7 hK7 => ?_)
  refine C_region ?_
  refine T_k F H (ni 0) ?_
  clear F; intro a F
  refine wpList_nil ?_
  replace F : Fm 68 [] [(10, ni 0), (1, pt aq2 0), (3, pt aq5 0), (2, pt aq3 0)] a := F.weak _ (subL_of kr)
  refine hK7 _ _ ?_
  clear hK7
  try clear K7
  refine wp_block ?_
  refine C_loop (fun m a v => ∃ k, k + m = 16 ∧ Fm 68 [] [(10, ni k), (1, pt aq2 0), (3, pt aq5 0), (2, pt aq3 0)] a ∧ Hp [] w [bk aq5 (arrF .u32 64 (wP bl (k))) 159, bk aq3 (arrF .u32 64 (wP bl 0)) 159, bk aq2 (arrF .u8 64 bl) 140] v) (16) ⟨0, Nat.zero_add _, F, H⟩ ?_
  clear F H
  intro m a v ⟨k, hk, F, H⟩
  rcases m with _ | m
  rotate_left
  · skip
    have hlo := hiW4_lt hbl (0 + 4 * k)
    refine C_seqK (fun K8 hK8 => ?_)
    refine C_region ?_
    refine T_val F H kr (.bool true) (fun w _ => R_bin (x := (.tmp 10)) (y := (.const (.int .i64 16))) rfl (k := .i64) (a := ((k : Nat) : Int)) (b := ((16 : Nat) : Int)) kr kr (i_lt (by omega)) w) ?_
    clear F; intro a F
    refine wpList_nil ?_
    refine hK8 _ _ ?_
    clear hK8
    try clear K8
    refine C_seqK (fun K9 hK9 => ?_)
    refine C_if F true rfl rfl ?_
    refine wp_skip ?_
    refine hK9 _ _ ?_
    clear hK9
    try clear K9
    refine C_seqK (fun K10 hK10 => ?_)
    refine wp_block ?_
    refine C_seqK (fun K11 hK11 => ?_)
    refine C_region ?_
    refine T_k F H (ni k) ?_
    clear F; intro a F
    refine T_k F H (ni k) ?_
    clear F; intro a F
    refine wpList_nil ?_
    refine hK11 _ _ ?_
    clear hK11
    try clear K11
    refine C_region ?_
    refine T_k F H (ni k) ?_
    clear F; intro a F
    refine T_k F H (ni k) ?_
    clear F; intro a F
    refine T_val F H kr (ni (4 * k)) (fun w _ => R_bin (x := (.const (.int .i64 4))) (y := (.tmp 14)) rfl (k := .i64) (a := ((4 : Nat) : Int)) (b := ((k : Nat) : Int)) kr kr (i_muln64 (a := 4) (b := k) (by omega)) w) ?_
    clear F; intro a F
    refine T_k F H (ni k) ?_
    clear F; intro a F
    refine T_val F H kr (ni (4 * k)) (fun w _ => R_bin (x := (.const (.int .i64 4))) (y := (.tmp 16)) rfl (k := .i64) (a := ((4 : Nat) : Int)) (b := ((k : Nat) : Int)) kr kr (i_muln64 (a := 4) (b := k) (by omega)) w) ?_
    clear F; intro a F
    refine T_val F H kr (ni ((4 * k) + 4)) (fun w _ => R_bin (x := (.tmp 17)) (y := (.const (.int .i64 4))) rfl (k := .i64) (a := (((4 * k) : Nat) : Int)) (b := ((4 : Nat) : Int)) kr kr (i_addn64 (a := (4 * k)) (b := 4) (by omega)) w) ?_
    clear F; intro a F
    refine T_val F H kr (sc aq2 (0 + 4 * k) 4 (64 - 4 * k)) (fun w _ => (R_sliceA (x := (.tmp 1)) (ylo := (.tmp 15)) (yhi := (.tmp 18)) rfl Tryd.underlying140 (g := aq2) (off := 0) kr (k1 := .i64) (k2 := .i64) (4 * k) (4 * k + 4) kr kr (by omega) (by omega) (by omega) kr w).trans (by rw [show 4 * k + 4 - 4 * k = 4 by omega])) ?_
    clear F; intro a F
    refine T_call F H kr 125 #[sc aq2 (0 + 4 * k) 4 (64 - 4 * k)] (nu (hiW bl (0 + 4 * k) 4)) (fun w => kr) (ofHigh4_any bl hbl _ (0 + 4 * k) (64 - 4 * k) (by omega) _ 140 (fun j hj => arrF_get bl (by omega)) _ (H.at_ (k := 2) rfl)) ?_
    clear F H; intro a v F H
    refine T_val F H kr (nw (hiW bl (0 + 4 * k) 4)) (fun w _ => R_conv (x := (.tmp 20)) rfl (k0 := .u64) kr kr (k := .u64) (a := ((hiW bl (0 + 4 * k) 4 : Nat) : Int)) kr (wru32 (a := hiW bl (0 + 4 * k) 4) hlo) w) ?_
    clear F; intro a F
    refine T_val F H kr (pt aq5 (0 + (k) * 1)) (fun w _ => R_index (k := .i64) (g := aq5) (off := 0) (x := (.tmp 3)) (y := (.tmp 13)) rfl Tryd.underlying159 kr (k) kr (by omega) (sz := 1) kr w) ?_
    clear F; intro a F
    refine T_set F H kr rfl 0 rfl _ (S_cell 0 rfl 53 (.tmp 22) (.tmp 21) rfl (0 + (k) * 1) kr (nw (hiW bl (0 + 4 * k) 4)) kr rfl (by rw [arrF_size]; omega) _ Tryd.underlying53 rfl kr) [bk aq5 (arrF .u32 64 (upd (wP bl (k)) (k) (hiW bl (0 + 4 * k) 4))) 159, bk aq3 (arrF .u32 64 (wP bl 0)) 159, bk aq2 (arrF .u8 64 bl) 140] (by rw [show (0 + (k) * 1) = k by omega, arrF_upd _ (by omega)]; rfl) ?_
    clear F H; intro a v F H
    refine wpList_nil ?_
    rw [show hiW bl (0 + 4 * k) 4 = hiW bl (4 * k) 4 by rw [Nat.zero_add], wP_lo bl (by omega)] at H
    refine hK10 _ _ ?_
    clear hK10
    try clear K10
    refine C_region ?_
    refine T_val F H kr (ni (k + 1)) (fun w _ => R_bin (x := (.tmp 10)) (y := (.const (.int .i64 1))) rfl (k := .i64) (a := ((k : Nat) : Int)) (b := ((1 : Nat) : Int)) kr kr (i_addn64 (a := k) (b := 1) (by omega)) w) ?_
    clear F; intro a F
    refine T_k F H (ni (k + 1)) ?_
    clear F; intro a F
    refine wpList_nil ?_
    replace F : Fm 68 [] [(10, ni (k + 1)), (1, pt aq2 0), (3, pt aq5 0), (2, pt aq3 0)] a := F.weak _ (subL_of kr)
    replace H : Hp [] w [bk aq5 (arrF .u32 64 (wP bl (k + 1))) 159, bk aq3 (arrF .u32 64 (wP bl 0)) 159, bk aq2 (arrF .u8 64 bl) 140] v := H
    exact ⟨m, Nat.lt_succ_self m, k + 1, by omega, F, H⟩
  have hkt : k = 16 := by omega
  try rw [hkt] at F
  try rw [hkt] at H
  clear hk
  refine C_seqK (fun K12 hK12 => ?_)
  refine C_region ?_
  refine T_val F H kr (.bool false) (fun w _ => R_bin (x := (.tmp 10)) (y := (.const (.int .i64 16))) rfl (k := .i64) (a := ((16 : Nat) : Int)) (b := ((16 : Nat) : Int)) kr kr (i_nlt (by omega)) w) ?_
  clear F; intro a F
  refine wpList_nil ?_
  refine hK12 _ _ ?_
  clear hK12
  try clear K12
  refine C_seqK (fun K13 hK13 => ?_)
  refine C_if F false rfl rfl ?_
  refine wp_exit ?_
  refine hK6 _ _ ?_
  clear hK6
  try clear K6
  refine C_seqK (fun K14 hK14 => ?_)
  refine C_seqK (fun K15 hK15 => ?_)
  refine C_region ?_
  refine T_k F H (ni 16) ?_
  clear F; intro a F
  refine wpList_nil ?_
  replace F : Fm 68 [] [(5, ni 16), (1, pt aq2 0), (3, pt aq5 0), (2, pt aq3 0)] a := F.weak _ (subL_of kr)
  refine hK15 _ _ ?_
  clear hK15
  try clear K15
  refine wp_block ?_
  refine C_loop (fun m a v => ∃ k, k + m = 48 ∧ Fm 68 [] [(5, ni (16 + k)), (1, pt aq2 0), (3, pt aq5 0), (2, pt aq3 0)] a ∧ Hp [] w [bk aq5 (arrF .u32 64 (wP bl (16 + k))) 159, bk aq3 (arrF .u32 64 (wP bl 0)) 159, bk aq2 (arrF .u8 64 bl) 140] v) (48) ⟨0, Nat.zero_add _, F, H⟩ ?_
  clear F H
  intro m a v ⟨k, hk, F, H⟩
  rcases m with _ | m
  rotate_left
  · skip
    refine C_seqK (fun K16 hK16 => ?_)
    refine C_seqK (fun K17 hK17 => ?_)
    refine C_region ?_
    refine T_k F H (ni (16 + k)) ?_
    clear F; intro a F
    refine T_val F H kr (.bool true) (fun w _ => R_bin (x := (.tmp 24)) (y := (.const (.int .i64 64))) rfl (k := .i64) (a := ((16 + k : Nat) : Int)) (b := ((64 : Nat) : Int)) kr kr (i_lt (by omega)) w) ?_
    clear F; intro a F
    refine wpList_nil ?_
    refine hK17 _ _ ?_
    clear hK17
    try clear K17
    refine C_if F true rfl rfl ?_
    refine wp_skip ?_
    refine hK16 _ _ ?_
    clear hK16
    try clear K16
    refine C_seqK (fun K18 hK18 => ?_)
    refine wp_block ?_
    refine C_seqK (fun K19 hK19 => ?_)
    refine E_region F H (fun β => [(28, ni (16 + k)), (29, ni (16 + k - 15)), (30, pt aq5 (0 + ((16 + k - 15)) * 1)), (31, nw ((wP bl (16 + k)) ((16 + k - 15)))), (32, ni (16 + k)), (33, ni (16 + k - 2)), (34, pt aq5 (0 + ((16 + k - 2)) * 1)), (35, nw ((wP bl (16 + k)) ((16 + k - 2)))), (6, nw ((wP bl (16 + k)) ((16 + k - 15)))), (7, nw ((wP bl (16 + k)) ((16 + k - 2))))]) [28, 29, 30, 31, 32, 33, 34, 35, 6, 7] [] [bk aq5 (arrF .u32 64 (wP bl (16 + k))) 159, bk aq3 (arrF .u32 64 (wP bl 0)) 159, bk aq2 (arrF .u8 64 bl) 140] [0, 1, 2] 2 [] kr kr kr (fun β => rfl) trivial ⟨?_, ?_, ?_, ?_, ?_, ?_, ?_, ?_, ?_, ?_, trivial⟩ ?_
    · exact E_k 68 (fun β => ni (16 + k)) 28 2
    · exact E_v 68 (fun β => ni (16 + k - 15)) 29 2 [] (fun β w hk hl hq => R_bin (x := (.tmp 28)) (y := (.const (.int .i64 15))) rfl (k := .i64) (a := ((16 + k : Nat) : Int)) (b := ((15 : Nat) : Int)) kr kr (i_subn64 (a := 16 + k) (b := 15) (by omega) (by omega)) w)
    · exact E_v 68 (fun β => pt aq5 (0 + ((16 + k - 15)) * 1)) 30 2 [] (fun β w hk hl hq => R_index (k := .i64) (g := aq5) (off := 0) (x := (.tmp 3)) (y := (.tmp 29)) rfl Tryd.underlying159 kr ((16 + k - 15)) kr (by omega) (sz := 1) kr w)
    · exact E_v 68 (fun β => nw ((wP bl (16 + k)) ((16 + k - 15)))) 31 2 [] (fun β w hk hl hq => R_cellH hl (own := true) (g := aq5) (all := (arrF .u32 64 (wP bl (16 + k)))) (t := 159) (fr := (0, 0)) 0 kr 53 (.tmp 30) rfl (0 + ((16 + k - 15)) * 1) kr (nw ((wP bl (16 + k)) ((16 + k - 15)))) ((congrArg (fun q => ((arrF .u32 64 (wP bl (16 + k))))[q]?) (show (0 + ((16 + k - 15)) * 1) = (16 + k - 15) by omega)).trans (arrF_get (wP bl (16 + k)) (by omega))) _ Tryd.underlying53 rfl)
    · exact E_k 68 (fun β => ni (16 + k)) 32 2
    · exact E_v 68 (fun β => ni (16 + k - 2)) 33 2 [] (fun β w hk hl hq => R_bin (x := (.tmp 32)) (y := (.const (.int .i64 2))) rfl (k := .i64) (a := ((16 + k : Nat) : Int)) (b := ((2 : Nat) : Int)) kr kr (i_subn64 (a := 16 + k) (b := 2) (by omega) (by omega)) w)
    · exact E_v 68 (fun β => pt aq5 (0 + ((16 + k - 2)) * 1)) 34 2 [] (fun β w hk hl hq => R_index (k := .i64) (g := aq5) (off := 0) (x := (.tmp 3)) (y := (.tmp 33)) rfl Tryd.underlying159 kr ((16 + k - 2)) kr (by omega) (sz := 1) kr w)
    · exact E_v 68 (fun β => nw ((wP bl (16 + k)) ((16 + k - 2)))) 35 2 [] (fun β w hk hl hq => R_cellH hl (own := true) (g := aq5) (all := (arrF .u32 64 (wP bl (16 + k)))) (t := 159) (fr := (0, 0)) 0 kr 53 (.tmp 34) rfl (0 + ((16 + k - 2)) * 1) kr (nw ((wP bl (16 + k)) ((16 + k - 2)))) ((congrArg (fun q => ((arrF .u32 64 (wP bl (16 + k))))[q]?) (show (0 + ((16 + k - 2)) * 1) = (16 + k - 2) by omega)).trans (arrF_get (wP bl (16 + k)) (by omega))) _ Tryd.underlying53 rfl)
    · exact E_k 68 (fun β => nw ((wP bl (16 + k)) ((16 + k - 15)))) 6 2
    · exact E_k 68 (fun β => nw ((wP bl (16 + k)) ((16 + k - 2)))) 7 2
    clear F H; intro β a v Q F H
    replace H : Hp [] w [bk aq5 (arrF .u32 64 (wP bl (16 + k))) 159, bk aq3 (arrF .u32 64 (wP bl 0)) 159, bk aq2 (arrF .u8 64 bl) 140] v := H
    replace F : Fm 68 [] [(7, nw ((wP bl (16 + k)) ((16 + k - 2)))), (6, nw ((wP bl (16 + k)) ((16 + k - 15)))), (35, nw ((wP bl (16 + k)) ((16 + k - 2)))), (34, pt aq5 (0 + ((16 + k - 2)) * 1)), (33, ni (16 + k - 2)), (32, ni (16 + k)), (31, nw ((wP bl (16 + k)) ((16 + k - 15)))), (30, pt aq5 (0 + ((16 + k - 15)) * 1)), (29, ni (16 + k - 15)), (28, ni (16 + k)), (25, .bool true), (24, ni (16 + k)), (5, ni (16 + k)), (1, pt aq2 0), (3, pt aq5 0), (2, pt aq3 0)] a := F.weak _ (subL_of kr)
    clear Q
    refine ?_
    refine hK19 _ _ ?_
    clear hK19
    try clear K19
    refine C_seqK (fun K20 hK20 => ?_)
    refine C_region ?_
    refine T_k F H (nw ((wP bl (16 + k)) ((16 + k - 15)))) ?_
    clear F; intro a F
    refine T_call F H kr 110 #[nw ((wP bl (16 + k)) ((16 + k - 15))), ni 7] (nw (rotr ((wP bl (16 + k)) ((16 + k - 15))) 7)) (fun w => kr) (right_any ((wP bl (16 + k)) ((16 + k - 15))) 7 (wP_lt hbl (16 + k) ((16 + k - 15))) (by decide) (by decide) _) ?_
    clear F H; intro a v F H
    refine T_k F H (nw ((wP bl (16 + k)) ((16 + k - 15)))) ?_
    clear F; intro a F
    refine T_call F H kr 110 #[nw ((wP bl (16 + k)) ((16 + k - 15))), ni 18] (nw (rotr ((wP bl (16 + k)) ((16 + k - 15))) 18)) (fun w => kr) (right_any ((wP bl (16 + k)) ((16 + k - 15))) 18 (wP_lt hbl (16 + k) ((16 + k - 15))) (by decide) (by decide) _) ?_
    clear F H; intro a v F H
    refine T_val F H kr (nw ((rotr ((wP bl (16 + k)) ((16 + k - 15))) 7) ^^^ (rotr ((wP bl (16 + k)) ((16 + k - 15))) 18))) (fun w _ => R_bin (x := (.tmp 37)) (y := (.tmp 39)) rfl (k := .u32) (a := ((rotr ((wP bl (16 + k)) ((16 + k - 15))) 7 : Nat) : Int)) (b := ((rotr ((wP bl (16 + k)) ((16 + k - 15))) 18 : Nat) : Int)) kr kr (i_xor32 (a := rotr ((wP bl (16 + k)) ((16 + k - 15))) 7) (b := rotr ((wP bl (16 + k)) ((16 + k - 15))) 18) (rotr_lt (wP_lt hbl (16 + k) ((16 + k - 15)))) (rotr_lt (wP_lt hbl (16 + k) ((16 + k - 15))))) w) ?_
    clear F; intro a F
    refine T_k F H (nw ((wP bl (16 + k)) ((16 + k - 15)))) ?_
    clear F; intro a F
    refine T_val F H kr (nw (((wP bl (16 + k)) ((16 + k - 15))) >>> (3))) (fun w _ => R_shr (x := (.tmp 41)) (y := (.const (.int .u64 3))) rfl (k := .u32) (yk := .u64) (a := (((wP bl (16 + k)) ((16 + k - 15)) : Nat) : Int)) (b := ((3 : Nat) : Int)) kr kr (Int.natCast_nonneg _) (shr_val (k := .u32) (by show _ ≤ 32; omega)) w) ?_
    clear F; intro a F
    refine T_val F H kr (nw ((((rotr ((wP bl (16 + k)) ((16 + k - 15))) 7) ^^^ (rotr ((wP bl (16 + k)) ((16 + k - 15))) 18))) ^^^ ((((wP bl (16 + k)) ((16 + k - 15))) >>> (3))))) (fun w _ => R_bin (x := (.tmp 40)) (y := (.tmp 42)) rfl (k := .u32) (a := ((((rotr ((wP bl (16 + k)) ((16 + k - 15))) 7) ^^^ (rotr ((wP bl (16 + k)) ((16 + k - 15))) 18)) : Nat) : Int)) (b := (((((wP bl (16 + k)) ((16 + k - 15))) >>> (3)) : Nat) : Int)) kr kr (i_xor32 (a := ((rotr ((wP bl (16 + k)) ((16 + k - 15))) 7) ^^^ (rotr ((wP bl (16 + k)) ((16 + k - 15))) 18))) (b := (((wP bl (16 + k)) ((16 + k - 15))) >>> (3))) (xor32 (rotr_lt (wP_lt hbl (16 + k) ((16 + k - 15)))) (rotr_lt (wP_lt hbl (16 + k) ((16 + k - 15))))) (shr32 (wP_lt hbl (16 + k) ((16 + k - 15))))) w) ?_
    clear F; intro a F
    refine T_k F H (nw ((((rotr ((wP bl (16 + k)) ((16 + k - 15))) 7) ^^^ (rotr ((wP bl (16 + k)) ((16 + k - 15))) 18))) ^^^ ((((wP bl (16 + k)) ((16 + k - 15))) >>> (3))))) ?_
    clear F; intro a F
    refine wpList_nil ?_
    refine hK20 _ _ ?_
    clear hK20
    try clear K20
    refine C_seqK (fun K21 hK21 => ?_)
    refine C_region ?_
    refine T_k F H (nw ((wP bl (16 + k)) ((16 + k - 2)))) ?_
    clear F; intro a F
    refine T_call F H kr 110 #[nw ((wP bl (16 + k)) ((16 + k - 2))), ni 17] (nw (rotr ((wP bl (16 + k)) ((16 + k - 2))) 17)) (fun w => kr) (right_any ((wP bl (16 + k)) ((16 + k - 2))) 17 (wP_lt hbl (16 + k) ((16 + k - 2))) (by decide) (by decide) _) ?_
    clear F H; intro a v F H
    refine T_k F H (nw ((wP bl (16 + k)) ((16 + k - 2)))) ?_
    clear F; intro a F
    refine T_call F H kr 110 #[nw ((wP bl (16 + k)) ((16 + k - 2))), ni 19] (nw (rotr ((wP bl (16 + k)) ((16 + k - 2))) 19)) (fun w => kr) (right_any ((wP bl (16 + k)) ((16 + k - 2))) 19 (wP_lt hbl (16 + k) ((16 + k - 2))) (by decide) (by decide) _) ?_
    clear F H; intro a v F H
    refine T_val F H kr (nw ((rotr ((wP bl (16 + k)) ((16 + k - 2))) 17) ^^^ (rotr ((wP bl (16 + k)) ((16 + k - 2))) 19))) (fun w _ => R_bin (x := (.tmp 45)) (y := (.tmp 47)) rfl (k := .u32) (a := ((rotr ((wP bl (16 + k)) ((16 + k - 2))) 17 : Nat) : Int)) (b := ((rotr ((wP bl (16 + k)) ((16 + k - 2))) 19 : Nat) : Int)) kr kr (i_xor32 (a := rotr ((wP bl (16 + k)) ((16 + k - 2))) 17) (b := rotr ((wP bl (16 + k)) ((16 + k - 2))) 19) (rotr_lt (wP_lt hbl (16 + k) ((16 + k - 2)))) (rotr_lt (wP_lt hbl (16 + k) ((16 + k - 2))))) w) ?_
    clear F; intro a F
    refine T_k F H (nw ((wP bl (16 + k)) ((16 + k - 2)))) ?_
    clear F; intro a F
    refine T_val F H kr (nw (((wP bl (16 + k)) ((16 + k - 2))) >>> (10))) (fun w _ => R_shr (x := (.tmp 49)) (y := (.const (.int .u64 10))) rfl (k := .u32) (yk := .u64) (a := (((wP bl (16 + k)) ((16 + k - 2)) : Nat) : Int)) (b := ((10 : Nat) : Int)) kr kr (Int.natCast_nonneg _) (shr_val (k := .u32) (by show _ ≤ 32; omega)) w) ?_
    clear F; intro a F
    refine T_val F H kr (nw ((((rotr ((wP bl (16 + k)) ((16 + k - 2))) 17) ^^^ (rotr ((wP bl (16 + k)) ((16 + k - 2))) 19))) ^^^ ((((wP bl (16 + k)) ((16 + k - 2))) >>> (10))))) (fun w _ => R_bin (x := (.tmp 48)) (y := (.tmp 50)) rfl (k := .u32) (a := ((((rotr ((wP bl (16 + k)) ((16 + k - 2))) 17) ^^^ (rotr ((wP bl (16 + k)) ((16 + k - 2))) 19)) : Nat) : Int)) (b := (((((wP bl (16 + k)) ((16 + k - 2))) >>> (10)) : Nat) : Int)) kr kr (i_xor32 (a := ((rotr ((wP bl (16 + k)) ((16 + k - 2))) 17) ^^^ (rotr ((wP bl (16 + k)) ((16 + k - 2))) 19))) (b := (((wP bl (16 + k)) ((16 + k - 2))) >>> (10))) (xor32 (rotr_lt (wP_lt hbl (16 + k) ((16 + k - 2)))) (rotr_lt (wP_lt hbl (16 + k) ((16 + k - 2))))) (shr32 (wP_lt hbl (16 + k) ((16 + k - 2))))) w) ?_
    clear F; intro a F
    refine T_k F H (nw ((((rotr ((wP bl (16 + k)) ((16 + k - 2))) 17) ^^^ (rotr ((wP bl (16 + k)) ((16 + k - 2))) 19))) ^^^ ((((wP bl (16 + k)) ((16 + k - 2))) >>> (10))))) ?_
    clear F; intro a F
    refine wpList_nil ?_
    refine hK21 _ _ ?_
    clear hK21
    try clear K21
    refine E_region F H (fun β => [(52, ni (16 + k)), (53, ni (16 + k)), (54, ni (16 + k - 16)), (55, pt aq5 (0 + ((16 + k - 16)) * 1)), (56, nw ((wP bl (16 + k)) ((16 + k - 16)))), (57, nw ((((rotr ((wP bl (16 + k)) ((16 + k - 15))) 7) ^^^ (rotr ((wP bl (16 + k)) ((16 + k - 15))) 18))) ^^^ ((((wP bl (16 + k)) ((16 + k - 15))) >>> (3))))), (58, nw (add32 ((wP bl (16 + k)) ((16 + k - 16))) (((((rotr ((wP bl (16 + k)) ((16 + k - 15))) 7) ^^^ (rotr ((wP bl (16 + k)) ((16 + k - 15))) 18))) ^^^ ((((wP bl (16 + k)) ((16 + k - 15))) >>> (3))))))), (59, ni (16 + k)), (60, ni (16 + k - 7)), (61, pt aq5 (0 + ((16 + k - 7)) * 1)), (62, nw ((wP bl (16 + k)) ((16 + k - 7)))), (63, nw (add32 (add32 ((wP bl (16 + k)) ((16 + k - 16))) (((((rotr ((wP bl (16 + k)) ((16 + k - 15))) 7) ^^^ (rotr ((wP bl (16 + k)) ((16 + k - 15))) 18))) ^^^ ((((wP bl (16 + k)) ((16 + k - 15))) >>> (3)))))) ((wP bl (16 + k)) ((16 + k - 7))))), (64, nw ((((rotr ((wP bl (16 + k)) ((16 + k - 2))) 17) ^^^ (rotr ((wP bl (16 + k)) ((16 + k - 2))) 19))) ^^^ ((((wP bl (16 + k)) ((16 + k - 2))) >>> (10))))), (65, nw (add32 (add32 (add32 ((wP bl (16 + k)) ((16 + k - 16))) (((((rotr ((wP bl (16 + k)) ((16 + k - 15))) 7) ^^^ (rotr ((wP bl (16 + k)) ((16 + k - 15))) 18))) ^^^ ((((wP bl (16 + k)) ((16 + k - 15))) >>> (3)))))) ((wP bl (16 + k)) ((16 + k - 7)))) (((((rotr ((wP bl (16 + k)) ((16 + k - 2))) 17) ^^^ (rotr ((wP bl (16 + k)) ((16 + k - 2))) 19))) ^^^ ((((wP bl (16 + k)) ((16 + k - 2))) >>> (10))))))), (66, pt aq5 (0 + (16 + k) * 1))]) [52, 53, 54, 55, 56, 57, 58, 59, 60, 61, 62, 63, 64, 65, 66] [⟨none, none, aq5, [], fun q_ => ce (arrF .u32 64 (wP bl (16 + k))) 159, gT, [⟨15, [], fun q_ => ce (arrF .u32 64 (upd (wP bl (16 + k)) (16 + k) (add32 (add32 (add32 ((wP bl (16 + k)) ((16 + k - 16))) (((((rotr ((wP bl (16 + k)) ((16 + k - 15))) 7) ^^^ (rotr ((wP bl (16 + k)) ((16 + k - 15))) 18))) ^^^ ((((wP bl (16 + k)) ((16 + k - 15))) >>> (3)))))) ((wP bl (16 + k)) ((16 + k - 7)))) (((((rotr ((wP bl (16 + k)) ((16 + k - 2))) 17) ^^^ (rotr ((wP bl (16 + k)) ((16 + k - 2))) 19))) ^^^ ((((wP bl (16 + k)) ((16 + k - 2))) >>> (10)))))))) 159, gT⟩]⟩] [bk aq3 (arrF .u32 64 (wP bl 0)) 159, bk aq2 (arrF .u8 64 bl) 140] [0, 1, 2] 2 [] kr kr kr (fun β => rfl) ⟨fun _ _ => trivial, trivial⟩ ⟨?_, ?_, ?_, ?_, ?_, ?_, ?_, ?_, ?_, ?_, ?_, ?_, ?_, ?_, ?_, ?_, trivial⟩ ?_
    · exact E_k 68 (fun β => ni (16 + k)) 52 2
    · exact E_k 68 (fun β => ni (16 + k)) 53 2
    · exact E_v 68 (fun β => ni (16 + k - 16)) 54 2 [] (fun β w hk hl hq => R_bin (x := (.tmp 53)) (y := (.const (.int .i64 16))) rfl (k := .i64) (a := ((16 + k : Nat) : Int)) (b := ((16 : Nat) : Int)) kr kr (i_subn64 (a := 16 + k) (b := 16) (by omega) (by omega)) w)
    · exact E_v 68 (fun β => pt aq5 (0 + ((16 + k - 16)) * 1)) 55 2 [] (fun β w hk hl hq => R_index (k := .i64) (g := aq5) (off := 0) (x := (.tmp 3)) (y := (.tmp 54)) rfl Tryd.underlying159 kr ((16 + k - 16)) kr (by omega) (sz := 1) kr w)
    · exact E_v 68 (fun β => nw ((wP bl (16 + k)) ((16 + k - 16)))) 56 2 [(0, 0)] (fun β w hk hl hq => R_cellH hl (own := true) (g := aq5) (all := (arrF .u32 64 (wP bl (16 + k)))) (t := 159) (fr := (0, 0)) 0 kr 53 (.tmp 55) rfl (0 + ((16 + k - 16)) * 1) kr (nw ((wP bl (16 + k)) ((16 + k - 16)))) ((congrArg (fun q => ((arrF .u32 64 (wP bl (16 + k))))[q]?) (show (0 + ((16 + k - 16)) * 1) = (16 + k - 16) by omega)).trans (arrF_get (wP bl (16 + k)) (by omega))) _ Tryd.underlying53 rfl)
    · exact E_k 68 (fun β => nw ((((rotr ((wP bl (16 + k)) ((16 + k - 15))) 7) ^^^ (rotr ((wP bl (16 + k)) ((16 + k - 15))) 18))) ^^^ ((((wP bl (16 + k)) ((16 + k - 15))) >>> (3))))) 57 2
    · exact E_v 68 (fun β => nw (add32 ((wP bl (16 + k)) ((16 + k - 16))) (((((rotr ((wP bl (16 + k)) ((16 + k - 15))) 7) ^^^ (rotr ((wP bl (16 + k)) ((16 + k - 15))) 18))) ^^^ ((((wP bl (16 + k)) ((16 + k - 15))) >>> (3))))))) 58 2 [] (fun β w hk hl hq => R_bin (x := (.tmp 56)) (y := (.tmp 57)) rfl (k := .u32) (a := (((wP bl (16 + k)) ((16 + k - 16)) : Nat) : Int)) (b := ((((((rotr ((wP bl (16 + k)) ((16 + k - 15))) 7) ^^^ (rotr ((wP bl (16 + k)) ((16 + k - 15))) 18))) ^^^ ((((wP bl (16 + k)) ((16 + k - 15))) >>> (3)))) : Nat) : Int)) kr kr (i_add32 (a := (wP bl (16 + k)) ((16 + k - 16))) (b := ((((rotr ((wP bl (16 + k)) ((16 + k - 15))) 7) ^^^ (rotr ((wP bl (16 + k)) ((16 + k - 15))) 18))) ^^^ ((((wP bl (16 + k)) ((16 + k - 15))) >>> (3)))))) w)
    · exact E_k 68 (fun β => ni (16 + k)) 59 2
    · exact E_v 68 (fun β => ni (16 + k - 7)) 60 2 [] (fun β w hk hl hq => R_bin (x := (.tmp 59)) (y := (.const (.int .i64 7))) rfl (k := .i64) (a := ((16 + k : Nat) : Int)) (b := ((7 : Nat) : Int)) kr kr (i_subn64 (a := 16 + k) (b := 7) (by omega) (by omega)) w)
    · exact E_v 68 (fun β => pt aq5 (0 + ((16 + k - 7)) * 1)) 61 2 [] (fun β w hk hl hq => R_index (k := .i64) (g := aq5) (off := 0) (x := (.tmp 3)) (y := (.tmp 60)) rfl Tryd.underlying159 kr ((16 + k - 7)) kr (by omega) (sz := 1) kr w)
    · exact E_v 68 (fun β => nw ((wP bl (16 + k)) ((16 + k - 7)))) 62 2 [(0, 0)] (fun β w hk hl hq => R_cellH hl (own := true) (g := aq5) (all := (arrF .u32 64 (wP bl (16 + k)))) (t := 159) (fr := (0, 0)) 0 kr 53 (.tmp 61) rfl (0 + ((16 + k - 7)) * 1) kr (nw ((wP bl (16 + k)) ((16 + k - 7)))) ((congrArg (fun q => ((arrF .u32 64 (wP bl (16 + k))))[q]?) (show (0 + ((16 + k - 7)) * 1) = (16 + k - 7) by omega)).trans (arrF_get (wP bl (16 + k)) (by omega))) _ Tryd.underlying53 rfl)
    · exact E_v 68 (fun β => nw (add32 (add32 ((wP bl (16 + k)) ((16 + k - 16))) (((((rotr ((wP bl (16 + k)) ((16 + k - 15))) 7) ^^^ (rotr ((wP bl (16 + k)) ((16 + k - 15))) 18))) ^^^ ((((wP bl (16 + k)) ((16 + k - 15))) >>> (3)))))) ((wP bl (16 + k)) ((16 + k - 7))))) 63 2 [] (fun β w hk hl hq => R_bin (x := (.tmp 58)) (y := (.tmp 62)) rfl (k := .u32) (a := ((add32 ((wP bl (16 + k)) ((16 + k - 16))) (((((rotr ((wP bl (16 + k)) ((16 + k - 15))) 7) ^^^ (rotr ((wP bl (16 + k)) ((16 + k - 15))) 18))) ^^^ ((((wP bl (16 + k)) ((16 + k - 15))) >>> (3))))) : Nat) : Int)) (b := (((wP bl (16 + k)) ((16 + k - 7)) : Nat) : Int)) kr kr (i_add32 (a := add32 ((wP bl (16 + k)) ((16 + k - 16))) (((((rotr ((wP bl (16 + k)) ((16 + k - 15))) 7) ^^^ (rotr ((wP bl (16 + k)) ((16 + k - 15))) 18))) ^^^ ((((wP bl (16 + k)) ((16 + k - 15))) >>> (3)))))) (b := (wP bl (16 + k)) ((16 + k - 7)))) w)
    · exact E_k 68 (fun β => nw ((((rotr ((wP bl (16 + k)) ((16 + k - 2))) 17) ^^^ (rotr ((wP bl (16 + k)) ((16 + k - 2))) 19))) ^^^ ((((wP bl (16 + k)) ((16 + k - 2))) >>> (10))))) 64 2
    · exact E_v 68 (fun β => nw (add32 (add32 (add32 ((wP bl (16 + k)) ((16 + k - 16))) (((((rotr ((wP bl (16 + k)) ((16 + k - 15))) 7) ^^^ (rotr ((wP bl (16 + k)) ((16 + k - 15))) 18))) ^^^ ((((wP bl (16 + k)) ((16 + k - 15))) >>> (3)))))) ((wP bl (16 + k)) ((16 + k - 7)))) (((((rotr ((wP bl (16 + k)) ((16 + k - 2))) 17) ^^^ (rotr ((wP bl (16 + k)) ((16 + k - 2))) 19))) ^^^ ((((wP bl (16 + k)) ((16 + k - 2))) >>> (10))))))) 65 2 [] (fun β w hk hl hq => R_bin (x := (.tmp 63)) (y := (.tmp 64)) rfl (k := .u32) (a := ((add32 (add32 ((wP bl (16 + k)) ((16 + k - 16))) (((((rotr ((wP bl (16 + k)) ((16 + k - 15))) 7) ^^^ (rotr ((wP bl (16 + k)) ((16 + k - 15))) 18))) ^^^ ((((wP bl (16 + k)) ((16 + k - 15))) >>> (3)))))) ((wP bl (16 + k)) ((16 + k - 7))) : Nat) : Int)) (b := ((((((rotr ((wP bl (16 + k)) ((16 + k - 2))) 17) ^^^ (rotr ((wP bl (16 + k)) ((16 + k - 2))) 19))) ^^^ ((((wP bl (16 + k)) ((16 + k - 2))) >>> (10)))) : Nat) : Int)) kr kr (i_add32 (a := add32 (add32 ((wP bl (16 + k)) ((16 + k - 16))) (((((rotr ((wP bl (16 + k)) ((16 + k - 15))) 7) ^^^ (rotr ((wP bl (16 + k)) ((16 + k - 15))) 18))) ^^^ ((((wP bl (16 + k)) ((16 + k - 15))) >>> (3)))))) ((wP bl (16 + k)) ((16 + k - 7)))) (b := ((((rotr ((wP bl (16 + k)) ((16 + k - 2))) 17) ^^^ (rotr ((wP bl (16 + k)) ((16 + k - 2))) 19))) ^^^ ((((wP bl (16 + k)) ((16 + k - 2))) >>> (10)))))) w)
    · exact E_v 68 (fun β => pt aq5 (0 + (16 + k) * 1)) 66 2 [] (fun β w hk hl hq => R_index (k := .i64) (g := aq5) (off := 0) (x := (.tmp 3)) (y := (.tmp 52)) rfl Tryd.underlying159 kr (16 + k) kr (by omega) (sz := 1) kr w)
    · exact E_store 68 kq rfl 2 [] 0 0 _ _ rfl rfl kr rfl (fun _ => trivial) (fun β w hk hl hq hm => let ⟨w', h1, h2, h3⟩ := P_cell (off := (0 + (16 + k) * 1)) (old := (arrF .u32 64 (wP bl (16 + k)))) (v := nw (add32 (add32 (add32 ((wP bl (16 + k)) ((16 + k - 16))) (((((rotr ((wP bl (16 + k)) ((16 + k - 15))) 7) ^^^ (rotr ((wP bl (16 + k)) ((16 + k - 15))) 18))) ^^^ ((((wP bl (16 + k)) ((16 + k - 15))) >>> (3)))))) ((wP bl (16 + k)) ((16 + k - 7)))) (((((rotr ((wP bl (16 + k)) ((16 + k - 2))) 17) ^^^ (rotr ((wP bl (16 + k)) ((16 + k - 2))) 19))) ^^^ ((((wP bl (16 + k)) ((16 + k - 2))) >>> (10))))))) (Z := ce (arrF .u32 64 (wP bl (16 + k))) 159) (R := ce (arrF .u32 64 (upd (wP bl (16 + k)) (16 + k) (add32 (add32 (add32 ((wP bl (16 + k)) ((16 + k - 16))) (((((rotr ((wP bl (16 + k)) ((16 + k - 15))) 7) ^^^ (rotr ((wP bl (16 + k)) ((16 + k - 15))) 18))) ^^^ ((((wP bl (16 + k)) ((16 + k - 15))) >>> (3)))))) ((wP bl (16 + k)) ((16 + k - 7)))) (((((rotr ((wP bl (16 + k)) ((16 + k - 2))) 17) ^^^ (rotr ((wP bl (16 + k)) ((16 + k - 2))) 19))) ^^^ ((((wP bl (16 + k)) ((16 + k - 2))) >>> (10)))))))) 159) rfl (by rw [show (0 + (16 + k) * 1) = 16 + k by omega, arrF_upd _ (by omega)]) (ty := 53) (x := (.tmp 66)) (y := (.tmp 65)) rfl kr kr rfl (by rw [arrF_size]; omega) Tryd.underlying53 rfl kr hm; ⟨w', h1, h2, h3⟩)
    clear F H; intro β a v Q F H
    replace H : Hp [] w [bk aq5 (arrF .u32 64 (upd (wP bl (16 + k)) (16 + k) (add32 (add32 (add32 ((wP bl (16 + k)) ((16 + k - 16))) (((((rotr ((wP bl (16 + k)) ((16 + k - 15))) 7) ^^^ (rotr ((wP bl (16 + k)) ((16 + k - 15))) 18))) ^^^ ((((wP bl (16 + k)) ((16 + k - 15))) >>> (3)))))) ((wP bl (16 + k)) ((16 + k - 7)))) (((((rotr ((wP bl (16 + k)) ((16 + k - 2))) 17) ^^^ (rotr ((wP bl (16 + k)) ((16 + k - 2))) 19))) ^^^ ((((wP bl (16 + k)) ((16 + k - 2))) >>> (10)))))))) 159, bk aq3 (arrF .u32 64 (wP bl 0)) 159, bk aq2 (arrF .u8 64 bl) 140] v := H
    replace F : Fm 68 [] [(66, pt aq5 (0 + (16 + k) * 1)), (65, nw (add32 (add32 (add32 ((wP bl (16 + k)) ((16 + k - 16))) (((((rotr ((wP bl (16 + k)) ((16 + k - 15))) 7) ^^^ (rotr ((wP bl (16 + k)) ((16 + k - 15))) 18))) ^^^ ((((wP bl (16 + k)) ((16 + k - 15))) >>> (3)))))) ((wP bl (16 + k)) ((16 + k - 7)))) (((((rotr ((wP bl (16 + k)) ((16 + k - 2))) 17) ^^^ (rotr ((wP bl (16 + k)) ((16 + k - 2))) 19))) ^^^ ((((wP bl (16 + k)) ((16 + k - 2))) >>> (10))))))), (64, nw ((((rotr ((wP bl (16 + k)) ((16 + k - 2))) 17) ^^^ (rotr ((wP bl (16 + k)) ((16 + k - 2))) 19))) ^^^ ((((wP bl (16 + k)) ((16 + k - 2))) >>> (10))))), (63, nw (add32 (add32 ((wP bl (16 + k)) ((16 + k - 16))) (((((rotr ((wP bl (16 + k)) ((16 + k - 15))) 7) ^^^ (rotr ((wP bl (16 + k)) ((16 + k - 15))) 18))) ^^^ ((((wP bl (16 + k)) ((16 + k - 15))) >>> (3)))))) ((wP bl (16 + k)) ((16 + k - 7))))), (62, nw ((wP bl (16 + k)) ((16 + k - 7)))), (61, pt aq5 (0 + ((16 + k - 7)) * 1)), (60, ni (16 + k - 7)), (59, ni (16 + k)), (58, nw (add32 ((wP bl (16 + k)) ((16 + k - 16))) (((((rotr ((wP bl (16 + k)) ((16 + k - 15))) 7) ^^^ (rotr ((wP bl (16 + k)) ((16 + k - 15))) 18))) ^^^ ((((wP bl (16 + k)) ((16 + k - 15))) >>> (3))))))), (57, nw ((((rotr ((wP bl (16 + k)) ((16 + k - 15))) 7) ^^^ (rotr ((wP bl (16 + k)) ((16 + k - 15))) 18))) ^^^ ((((wP bl (16 + k)) ((16 + k - 15))) >>> (3))))), (56, nw ((wP bl (16 + k)) ((16 + k - 16)))), (55, pt aq5 (0 + ((16 + k - 16)) * 1)), (54, ni (16 + k - 16)), (53, ni (16 + k)), (52, ni (16 + k)), (9, nw ((((rotr ((wP bl (16 + k)) ((16 + k - 2))) 17) ^^^ (rotr ((wP bl (16 + k)) ((16 + k - 2))) 19))) ^^^ ((((wP bl (16 + k)) ((16 + k - 2))) >>> (10))))), (51, nw ((((rotr ((wP bl (16 + k)) ((16 + k - 2))) 17) ^^^ (rotr ((wP bl (16 + k)) ((16 + k - 2))) 19))) ^^^ ((((wP bl (16 + k)) ((16 + k - 2))) >>> (10))))), (50, nw (((wP bl (16 + k)) ((16 + k - 2))) >>> (10))), (49, nw ((wP bl (16 + k)) ((16 + k - 2)))), (48, nw ((rotr ((wP bl (16 + k)) ((16 + k - 2))) 17) ^^^ (rotr ((wP bl (16 + k)) ((16 + k - 2))) 19))), (47, nw (rotr ((wP bl (16 + k)) ((16 + k - 2))) 19)), (46, nw ((wP bl (16 + k)) ((16 + k - 2)))), (45, nw (rotr ((wP bl (16 + k)) ((16 + k - 2))) 17)), (44, nw ((wP bl (16 + k)) ((16 + k - 2)))), (8, nw ((((rotr ((wP bl (16 + k)) ((16 + k - 15))) 7) ^^^ (rotr ((wP bl (16 + k)) ((16 + k - 15))) 18))) ^^^ ((((wP bl (16 + k)) ((16 + k - 15))) >>> (3))))), (43, nw ((((rotr ((wP bl (16 + k)) ((16 + k - 15))) 7) ^^^ (rotr ((wP bl (16 + k)) ((16 + k - 15))) 18))) ^^^ ((((wP bl (16 + k)) ((16 + k - 15))) >>> (3))))), (42, nw (((wP bl (16 + k)) ((16 + k - 15))) >>> (3))), (41, nw ((wP bl (16 + k)) ((16 + k - 15)))), (40, nw ((rotr ((wP bl (16 + k)) ((16 + k - 15))) 7) ^^^ (rotr ((wP bl (16 + k)) ((16 + k - 15))) 18))), (39, nw (rotr ((wP bl (16 + k)) ((16 + k - 15))) 18)), (38, nw ((wP bl (16 + k)) ((16 + k - 15)))), (37, nw (rotr ((wP bl (16 + k)) ((16 + k - 15))) 7)), (36, nw ((wP bl (16 + k)) ((16 + k - 15)))), (7, nw ((wP bl (16 + k)) ((16 + k - 2)))), (6, nw ((wP bl (16 + k)) ((16 + k - 15)))), (35, nw ((wP bl (16 + k)) ((16 + k - 2)))), (34, pt aq5 (0 + ((16 + k - 2)) * 1)), (33, ni (16 + k - 2)), (32, ni (16 + k)), (31, nw ((wP bl (16 + k)) ((16 + k - 15)))), (30, pt aq5 (0 + ((16 + k - 15)) * 1)), (29, ni (16 + k - 15)), (28, ni (16 + k)), (25, .bool true), (24, ni (16 + k)), (5, ni (16 + k)), (1, pt aq2 0), (3, pt aq5 0), (2, pt aq3 0)] a := F.weak _ (subL_of kr)
    clear Q
    refine ?_
    replace H : Hp [] w [bk aq5 (arrF .u32 64 (upd (wP bl (16 + k)) (16 + k) (add32 (add32 (add32 (wP bl (16 + k) (16 + k - 16)) (sg0 (wP bl (16 + k) (16 + k - 15)))) (wP bl (16 + k) (16 + k - 7))) (sg1 (wP bl (16 + k) (16 + k - 2)))))) 159, bk aq3 (arrF .u32 64 (wP bl 0)) 159, bk aq2 (arrF .u8 64 bl) 140] v := H
    rw [wP_hi bl (by omega)] at H
    refine hK18 _ _ ?_
    clear hK18
    try clear K18
    refine C_region ?_
    refine T_k F H (ni (16 + k)) ?_
    clear F; intro a F
    refine T_val F H kr (ni (16 + (k + 1))) (fun w _ => R_bin (x := (.tmp 26)) (y := (.const (.int .i64 1))) rfl (k := .i64) (a := ((16 + k : Nat) : Int)) (b := ((1 : Nat) : Int)) kr kr ((i_addn64 (a := 16 + k) (b := 1) (by omega)).trans (congrArg (fun q : Nat => some (Value.int .i64 (q : Int))) (show 16 + k + 1 = 16 + (k + 1) by omega))) w) ?_
    clear F; intro a F
    refine T_k F H (ni (16 + (k + 1))) ?_
    clear F; intro a F
    refine wpList_nil ?_
    replace F : Fm 68 [] [(5, ni (16 + (k + 1))), (1, pt aq2 0), (3, pt aq5 0), (2, pt aq3 0)] a := F.weak _ (subL_of kr)
    replace H : Hp [] w [bk aq5 (arrF .u32 64 (wP bl (16 + (k + 1)))) 159, bk aq3 (arrF .u32 64 (wP bl 0)) 159, bk aq2 (arrF .u8 64 bl) 140] v := H
    exact ⟨m, Nat.lt_succ_self m, k + 1, by omega, F, H⟩
  have hkt : k = 48 := by omega
  try rw [hkt] at F
  try rw [hkt] at H
  clear hk
  refine C_seqK (fun K22 hK22 => ?_)
  refine C_seqK (fun K23 hK23 => ?_)
  refine C_region ?_
  refine T_k F H (ni (16 + 48)) ?_
  clear F; intro a F
  refine T_val F H kr (.bool false) (fun w _ => R_bin (x := (.tmp 24)) (y := (.const (.int .i64 64))) rfl (k := .i64) (a := ((16 + 48 : Nat) : Int)) (b := ((64 : Nat) : Int)) kr kr (i_nlt (by omega)) w) ?_
  clear F; intro a F
  refine wpList_nil ?_
  refine hK23 _ _ ?_
  clear hK23
  try clear K23
  refine C_if F false rfl rfl ?_
  refine wp_exit ?_
  refine hK14 _ _ ?_
  clear hK14
  try clear K14
  refine C_seqK (fun K24 hK24 => ?_)
  rw [wP_all] at H
  refine C_region ?_
  refine T_val F H kr (.agg (arrF .u32 64 (wF bl))) (R_load (own := true) (g := aq5) (all := (arrF .u32 64 (wF bl))) (t := 159) (fr := (0, 0)) 0 kr 159 (.tmp 3) rfl 0 kr (arrF .u32 64 (wF bl)) (part_all _) _ Tryd.underlying159 rfl (by rw [arrF_size]; kernel_rfl)) ?_
  clear F; intro a F
  refine T_set F H kr rfl 1 rfl (arrF .u32 64 (wF bl)) (S_row 1 rfl 159 (.tmp 2) (.tmp 67) rfl kr (arrF .u32 64 (wF bl)) kr (by rw [arrF_size]; kernel_rfl) ((arrF_size _ _ _).trans (arrF_size _ _ _).symm) (arrF_one _ _ _)) [bk aq5 (arrF .u32 64 (wF bl)) 159, bk aq3 (arrF .u32 64 (wF bl)) 159, bk aq2 (arrF .u8 64 bl) 140] rfl ?_
  clear F H; intro a v F H
  refine wpList_nil ?_
  refine hK24 _ _ ?_
  clear hK24
  try clear K24
  refine wp_ret ?_
  exact C_ret F H (rs := [.cell 2 159]) rfl (vs := [.agg (arrF .u32 64 (wF bl))]) (.row 1 rfl rfl _ Tryd.underlying159 rfl kr .nil) (.agg (arrF .u32 64 (wF bl))) rfl ⟨rfl, H.kept⟩

set_option maxRecDepth 100000 in
set_option maxHeartbeats 4000000 in
theorem block_any (st bl : Nat → Nat) (hst : ∀ i, st i < 4294967296) (hbl : ∀ i, bl i < 256) (w : World) (hR : w.heap[1]? = some (.cells (arrF .u32 64 kF) 159 (0, 0))) : Calls Tryd.prog 96 #[.agg (arrF .u32 8 st), .agg (arrF .u8 64 bl)] w fun e w' => e = .returned (.agg (arrF .u32 8 (comp st bl))) ∧ Kept [] w w' := by
  obtain ⟨cb, hcb⟩ : ∃ cb, cb = comp st bl := ⟨_, rfl⟩
  rw [← hcb]
  refine C_enter Tryd.func96 rfl 110 Tryd.ntmps96 (Nat.le_of_ble_eq_true rfl) (fun a F => ?_)
  have H := Hp.start1 [] hR
  replace F : Fm 110 [] [(0, .agg (arrF .u32 8 st)), (1, .agg (arrF .u8 64 bl))] a := F.weak _ (subL_of kr)
  refine C_seqK (fun K1 hK1 => ?_)
  refine C_region ?_
  refine T_new F H kr (fun ad => pt ad 0) (ce (arrF .u32 8 st) 144) (fun w => kr) ?_
  clear F H; intro aq2 a v F H
  refine T_new F H kr (fun ad => pt ad 0) (ce (arrF .u8 64 bl) 140) (fun w => kr) ?_
  clear F H; intro aq3 a v F H
  refine T_new F H kr (fun ad => pt ad 0) (ce #[.int .u32 0, .int .u32 0, .int .u32 0, .int .u32 0, .int .u32 0, .int .u32 0, .int .u32 0, .int .u32 0] 144) (fun w => kr) ?_
  clear F H; intro aq4 a v F H
  refine wpList_nil ?_
  refine hK1 _ _ ?_
  clear hK1
  try clear K1
  refine C_seqK (fun K5 hK5 => ?_)
  refine C_region ?_
  refine T_val F H kr (.agg (arrF .u32 8 st)) (R_load (own := true) (g := aq2) (all := (arrF .u32 8 st)) (t := 144) (fr := (0, 0)) 2 kr 144 (.tmp 2) rfl 0 kr (arrF .u32 8 st) (part_all _) _ Tryd.underlying144 rfl (by rw [arrF_size]; kernel_rfl)) ?_
  clear F; intro a F
  refine T_new F H kr (fun ad => pt ad 0) (ce #[.int .u32 0, .int .u32 0, .int .u32 0, .int .u32 0, .int .u32 0, .int .u32 0, .int .u32 0, .int .u32 0] 144) (fun w => kr) ?_
  clear F H; intro aq6 a v F H
  refine T_set F H kr rfl 0 rfl (arrF .u32 8 st) (S_row 0 rfl 144 (.tmp 5) (.tmp 17) rfl kr (arrF .u32 8 st) kr (by rw [arrF_size]; kernel_rfl) (by rw [arrF_size]; kernel_rfl) (arrF_one _ _ _)) [bk aq6 (arrF .u32 8 st) 144, bk aq4 #[.int .u32 0, .int .u32 0, .int .u32 0, .int .u32 0, .int .u32 0, .int .u32 0, .int .u32 0, .int .u32 0] 144, bk aq3 (arrF .u8 64 bl) 140, bk aq2 (arrF .u32 8 st) 144, br 1 (arrF .u32 64 kF) 159] rfl ?_
  clear F H; intro a v F H
  refine wpList_nil ?_
  refine hK5 _ _ ?_
  clear hK5
  try clear K5
  refine C_seqK (fun K7 hK7 => ?_)
  refine C_seqK (fun K8 hK8 => ?_)
  refine C_region ?_
  refine T_val F H kr (.agg (arrF .u8 64 bl)) (R_load (own := true) (g := aq3) (all := (arrF .u8 64 bl)) (t := 140) (fr := (0, 0)) 2 kr 140 (.tmp 3) rfl 0 kr (arrF .u8 64 bl) (part_all _) _ Tryd.underlying140 rfl (by rw [arrF_size]; kernel_rfl)) ?_
  clear F; intro a F
  refine T_call F H kr 109 #[.agg (arrF .u8 64 bl)] (.agg (arrF .u32 64 (wF bl))) (fun w => kr) (words_any bl hbl _) ?_
  clear F H; intro a v F H
  refine T_k F H (ni 0) ?_
  clear F; intro a F
  refine wpList_nil ?_
  replace F : Fm 110 [] [(20, ni 0), (19, .agg (arrF .u32 64 (wF bl))), (2, pt aq2 0), (4, pt aq4 0), (5, pt aq6 0)] a := F.weak _ (subL_of kr)
  replace H : Hp [] w [bk aq6 (arrF .u32 8 st) 144, bk aq2 (arrF .u32 8 st) 144, bk aq4 #[.int .u32 0, .int .u32 0, .int .u32 0, .int .u32 0, .int .u32 0, .int .u32 0, .int .u32 0, .int .u32 0] 144, br 1 (arrF .u32 64 kF) 159] v := H.pick [0, 3, 1, 4] kr _ rfl
  refine hK8 _ _ ?_
  clear hK8
  try clear K8
  refine wp_block ?_
  refine C_loop (fun m a v => ∃ k, k + m = 64 ∧ Fm 110 [] [(20, ni k), (19, .agg (arrF .u32 64 (wF bl))), (2, pt aq2 0), (4, pt aq4 0), (5, pt aq6 0)] a ∧ Hp [] w [bk aq6 (arrF .u32 8 (rnds bl st (k))) 144, bk aq2 (arrF .u32 8 st) 144, bk aq4 #[.int .u32 0, .int .u32 0, .int .u32 0, .int .u32 0, .int .u32 0, .int .u32 0, .int .u32 0, .int .u32 0] 144, br 1 (arrF .u32 64 kF) 159] v) (64) ⟨0, Nat.zero_add _, F, H⟩ ?_
  clear F H
  intro m a v ⟨k, hk, F, H⟩
  rcases m with _ | m
  rotate_left
  · skip
    have hs := rnds_lt (bl := bl) hst k
    generalize hS : rnds bl st k = s at F H hs
    refine C_seqK (fun K9 hK9 => ?_)
    refine C_region ?_
    refine T_val F H kr (.bool true) (fun w _ => R_bin (x := (.tmp 20)) (y := (.const (.int .i64 64))) rfl (k := .i64) (a := ((k : Nat) : Int)) (b := ((64 : Nat) : Int)) kr kr (i_lt (by omega)) w) ?_
    clear F; intro a F
    refine wpList_nil ?_
    refine hK9 _ _ ?_
    clear hK9
    try clear K9
    refine C_seqK (fun K10 hK10 => ?_)
    refine C_if F true rfl rfl ?_
    refine wp_skip ?_
    refine hK10 _ _ ?_
    clear hK10
    try clear K10
    refine C_seqK (fun K11 hK11 => ?_)
    refine wp_block ?_
    refine C_seqK (fun K12 hK12 => ?_)
    refine C_region ?_
    refine T_k F H (ni k) ?_
    clear F; intro a F
    refine T_val F H kr (nw ((wF bl) (k))) (fun w _ => R_indexV (x := (.tmp 19)) (y := (.tmp 20)) rfl Tryd.underlying159 Tryd.underlying53 rfl kr (cs := (arrF .u32 64 (wF bl))) kr (k := .i64) (k) kr (by omega) (nw ((wF bl) (k))) (arrF_get (wF bl) (by omega)) w) ?_
    clear F; intro a F
    refine T_k F H (ni k) ?_
    clear F; intro a F
    refine T_k F H (nw ((wF bl) (k))) ?_
    clear F; intro a F
    refine wpList_nil ?_
    refine hK12 _ _ ?_
    clear hK12
    try clear K12
    refine C_seqK (fun K13 hK13 => ?_)
    refine E_region F H (fun β => [(24, pt aq6 0), (25, nw (s 0)), (26, pt aq6 1), (27, nw (s 1)), (28, pt aq6 2), (29, nw (s 2)), (30, pt aq6 4), (31, nw (s 4)), (32, pt aq6 5), (33, nw (s 5)), (34, pt aq6 6), (35, nw (s 6)), (8, nw (s 0)), (9, nw (s 1)), (10, nw (s 2)), (11, nw (s 4)), (12, nw (s 5)), (13, nw (s 6))]) [24, 25, 26, 27, 28, 29, 30, 31, 32, 33, 34, 35, 8, 9, 10, 11, 12, 13] [] [bk aq6 (arrF .u32 8 s) 144, bk aq2 (arrF .u32 8 st) 144, bk aq4 #[.int .u32 0, .int .u32 0, .int .u32 0, .int .u32 0, .int .u32 0, .int .u32 0, .int .u32 0, .int .u32 0] 144, br 1 (arrF .u32 64 kF) 159] [0, 1, 2, 3] 2 [] kr kr kr (fun β => rfl) trivial ⟨?_, ?_, ?_, ?_, ?_, ?_, ?_, ?_, ?_, ?_, ?_, ?_, ?_, ?_, ?_, ?_, ?_, ?_, trivial⟩ ?_
    · exact E_k 110 (fun β => pt aq6 0) 24 2
    · exact E_v 110 (fun β => nw (s 0)) 25 2 [] (fun β w hk hl hq => R_cellH hl (own := true) (g := aq6) (all := (arrF .u32 8 s)) (t := 144) (fr := (0, 0)) 0 kr 53 (.tmp 24) rfl 0 kr (nw (s 0)) kr _ Tryd.underlying53 rfl)
    · exact E_k 110 (fun β => pt aq6 1) 26 2
    · exact E_v 110 (fun β => nw (s 1)) 27 2 [] (fun β w hk hl hq => R_cellH hl (own := true) (g := aq6) (all := (arrF .u32 8 s)) (t := 144) (fr := (0, 0)) 0 kr 53 (.tmp 26) rfl 1 kr (nw (s 1)) kr _ Tryd.underlying53 rfl)
    · exact E_k 110 (fun β => pt aq6 2) 28 2
    · exact E_v 110 (fun β => nw (s 2)) 29 2 [] (fun β w hk hl hq => R_cellH hl (own := true) (g := aq6) (all := (arrF .u32 8 s)) (t := 144) (fr := (0, 0)) 0 kr 53 (.tmp 28) rfl 2 kr (nw (s 2)) kr _ Tryd.underlying53 rfl)
    · exact E_k 110 (fun β => pt aq6 4) 30 2
    · exact E_v 110 (fun β => nw (s 4)) 31 2 [] (fun β w hk hl hq => R_cellH hl (own := true) (g := aq6) (all := (arrF .u32 8 s)) (t := 144) (fr := (0, 0)) 0 kr 53 (.tmp 30) rfl 4 kr (nw (s 4)) kr _ Tryd.underlying53 rfl)
    · exact E_k 110 (fun β => pt aq6 5) 32 2
    · exact E_v 110 (fun β => nw (s 5)) 33 2 [] (fun β w hk hl hq => R_cellH hl (own := true) (g := aq6) (all := (arrF .u32 8 s)) (t := 144) (fr := (0, 0)) 0 kr 53 (.tmp 32) rfl 5 kr (nw (s 5)) kr _ Tryd.underlying53 rfl)
    · exact E_k 110 (fun β => pt aq6 6) 34 2
    · exact E_v 110 (fun β => nw (s 6)) 35 2 [] (fun β w hk hl hq => R_cellH hl (own := true) (g := aq6) (all := (arrF .u32 8 s)) (t := 144) (fr := (0, 0)) 0 kr 53 (.tmp 34) rfl 6 kr (nw (s 6)) kr _ Tryd.underlying53 rfl)
    · exact E_k 110 (fun β => nw (s 0)) 8 2
    · exact E_k 110 (fun β => nw (s 1)) 9 2
    · exact E_k 110 (fun β => nw (s 2)) 10 2
    · exact E_k 110 (fun β => nw (s 4)) 11 2
    · exact E_k 110 (fun β => nw (s 5)) 12 2
    · exact E_k 110 (fun β => nw (s 6)) 13 2
    clear F H; intro β a v Q F H
    replace H : Hp [] w [bk aq6 (arrF .u32 8 s) 144, bk aq2 (arrF .u32 8 st) 144, bk aq4 #[.int .u32 0, .int .u32 0, .int .u32 0, .int .u32 0, .int .u32 0, .int .u32 0, .int .u32 0, .int .u32 0] 144, br 1 (arrF .u32 64 kF) 159] v := H
    replace F : Fm 110 [] [(13, nw (s 6)), (12, nw (s 5)), (11, nw (s 4)), (10, nw (s 2)), (9, nw (s 1)), (8, nw (s 0)), (35, nw (s 6)), (34, pt aq6 6), (33, nw (s 5)), (32, pt aq6 5), (31, nw (s 4)), (30, pt aq6 4), (29, nw (s 2)), (28, pt aq6 2), (27, nw (s 1)), (26, pt aq6 1), (25, nw (s 0)), (24, pt aq6 0), (7, nw ((wF bl) (k))), (6, ni k), (23, nw ((wF bl) (k))), (22, ni k), (21, .bool true), (20, ni k), (19, .agg (arrF .u32 64 (wF bl))), (2, pt aq2 0), (4, pt aq4 0), (5, pt aq6 0)] a := F.weak _ (subL_of kr)
    clear Q
    refine ?_
    refine hK13 _ _ ?_
    clear hK13
    try clear K13
    refine C_seqK (fun K14 hK14 => ?_)
    refine E_region F H (fun β => [(36, pt aq6 7), (37, nw (s 7)), (38, nw (s 4)), (39, nw (rotr (s 4) 6)), (40, nw (s 4)), (41, nw (rotr (s 4) 11)), (42, nw ((rotr (s 4) 6) ^^^ (rotr (s 4) 11))), (43, nw (s 4)), (44, nw (rotr (s 4) 25)), (45, nw ((((rotr (s 4) 6) ^^^ (rotr (s 4) 11))) ^^^ (rotr (s 4) 25))), (46, nw (add32 (s 7) (((((rotr (s 4) 6) ^^^ (rotr (s 4) 11))) ^^^ (rotr (s 4) 25))))), (47, nw (s 4)), (48, nw (s 5)), (49, nw ((s 4) &&& (s 5))), (50, nw (s 4)), (51, nw (4294967295 - s 4)), (52, nw (s 6)), (53, nw (((4294967295 - s 4)) &&& (s 6))), (54, nw ((((s 4) &&& (s 5))) ^^^ ((((4294967295 - s 4)) &&& (s 6))))), (55, nw (add32 (add32 (s 7) (((((rotr (s 4) 6) ^^^ (rotr (s 4) 11))) ^^^ (rotr (s 4) 25)))) (((((s 4) &&& (s 5))) ^^^ ((((4294967295 - s 4)) &&& (s 6))))))), (56, ni k), (57, pt 1 (0 + (k) * 1)), (58, nw (kF (k))), (59, nw (add32 (add32 (add32 (s 7) (((((rotr (s 4) 6) ^^^ (rotr (s 4) 11))) ^^^ (rotr (s 4) 25)))) (((((s 4) &&& (s 5))) ^^^ ((((4294967295 - s 4)) &&& (s 6)))))) (kF (k)))), (60, nw ((wF bl) (k))), (61, nw (add32 (add32 (add32 (add32 (s 7) (((((rotr (s 4) 6) ^^^ (rotr (s 4) 11))) ^^^ (rotr (s 4) 25)))) (((((s 4) &&& (s 5))) ^^^ ((((4294967295 - s 4)) &&& (s 6)))))) (kF (k))) ((wF bl) (k)))), (14, nw (add32 (add32 (add32 (add32 (s 7) (((((rotr (s 4) 6) ^^^ (rotr (s 4) 11))) ^^^ (rotr (s 4) 25)))) (((((s 4) &&& (s 5))) ^^^ ((((4294967295 - s 4)) &&& (s 6)))))) (kF (k))) ((wF bl) (k))))]) [36, 37, 38, 39, 40, 41, 42, 43, 44, 45, 46, 47, 48, 49, 50, 51, 52, 53, 54, 55, 56, 57, 58, 59, 60, 61, 14] [] [bk aq6 (arrF .u32 8 s) 144, bk aq2 (arrF .u32 8 st) 144, bk aq4 #[.int .u32 0, .int .u32 0, .int .u32 0, .int .u32 0, .int .u32 0, .int .u32 0, .int .u32 0, .int .u32 0] 144, br 1 (arrF .u32 64 kF) 159] [0, 1, 2, 3] 2 [] kr kr kr (fun β => rfl) trivial ⟨?_, ?_, ?_, ?_, ?_, ?_, ?_, ?_, ?_, ?_, ?_, ?_, ?_, ?_, ?_, ?_, ?_, ?_, ?_, ?_, ?_, ?_, ?_, ?_, ?_, ?_, ?_, trivial⟩ ?_
    · exact E_k 110 (fun β => pt aq6 7) 36 2
    · exact E_v 110 (fun β => nw (s 7)) 37 2 [] (fun β w hk hl hq => R_cellH hl (own := true) (g := aq6) (all := (arrF .u32 8 s)) (t := 144) (fr := (0, 0)) 0 kr 53 (.tmp 36) rfl 7 kr (nw (s 7)) kr _ Tryd.underlying53 rfl)
    · exact E_k 110 (fun β => nw (s 4)) 38 2
    · exact E_call 110 kq (fun β => nw (rotr (s 4) 6)) 39 rfl kq 110 (fun β => #[nw (s 4), ni 6]) (fun β w => kr) 2 [] kr rfl (fun β w hk hl hq => right_any (s 4) 6 (hs 4) (by decide) (by decide) _)
    · exact E_k 110 (fun β => nw (s 4)) 40 2
    · exact E_call 110 kq (fun β => nw (rotr (s 4) 11)) 41 rfl kq 110 (fun β => #[nw (s 4), ni 11]) (fun β w => kr) 2 [] kr rfl (fun β w hk hl hq => right_any (s 4) 11 (hs 4) (by decide) (by decide) _)
    · exact E_v 110 (fun β => nw ((rotr (s 4) 6) ^^^ (rotr (s 4) 11))) 42 2 [] (fun β w hk hl hq => R_bin (x := (.tmp 39)) (y := (.tmp 41)) rfl (k := .u32) (a := ((rotr (s 4) 6 : Nat) : Int)) (b := ((rotr (s 4) 11 : Nat) : Int)) kr kr (i_xor32 (a := rotr (s 4) 6) (b := rotr (s 4) 11) (rotr_lt (hs 4)) (rotr_lt (hs 4))) w)
    · exact E_k 110 (fun β => nw (s 4)) 43 2
    · exact E_call 110 kq (fun β => nw (rotr (s 4) 25)) 44 rfl kq 110 (fun β => #[nw (s 4), ni 25]) (fun β w => kr) 2 [] kr rfl (fun β w hk hl hq => right_any (s 4) 25 (hs 4) (by decide) (by decide) _)
    · exact E_v 110 (fun β => nw ((((rotr (s 4) 6) ^^^ (rotr (s 4) 11))) ^^^ (rotr (s 4) 25))) 45 2 [] (fun β w hk hl hq => R_bin (x := (.tmp 42)) (y := (.tmp 44)) rfl (k := .u32) (a := ((((rotr (s 4) 6) ^^^ (rotr (s 4) 11)) : Nat) : Int)) (b := ((rotr (s 4) 25 : Nat) : Int)) kr kr (i_xor32 (a := ((rotr (s 4) 6) ^^^ (rotr (s 4) 11))) (b := rotr (s 4) 25) (xor32 (rotr_lt (hs 4)) (rotr_lt (hs 4))) (rotr_lt (hs 4))) w)
    · exact E_v 110 (fun β => nw (add32 (s 7) (((((rotr (s 4) 6) ^^^ (rotr (s 4) 11))) ^^^ (rotr (s 4) 25))))) 46 2 [] (fun β w hk hl hq => R_bin (x := (.tmp 37)) (y := (.tmp 45)) rfl (k := .u32) (a := ((s 7 : Nat) : Int)) (b := ((((((rotr (s 4) 6) ^^^ (rotr (s 4) 11))) ^^^ (rotr (s 4) 25)) : Nat) : Int)) kr kr (i_add32 (a := s 7) (b := ((((rotr (s 4) 6) ^^^ (rotr (s 4) 11))) ^^^ (rotr (s 4) 25)))) w)
    · exact E_k 110 (fun β => nw (s 4)) 47 2
    · exact E_k 110 (fun β => nw (s 5)) 48 2
    · exact E_v 110 (fun β => nw ((s 4) &&& (s 5))) 49 2 [] (fun β w hk hl hq => R_bin (x := (.tmp 47)) (y := (.tmp 48)) rfl (k := .u32) (a := ((s 4 : Nat) : Int)) (b := ((s 5 : Nat) : Int)) kr kr (i_and32 (a := s 4) (b := s 5) (hs 4) (hs 5)) w)
    · exact E_k 110 (fun β => nw (s 4)) 50 2
    · exact E_v 110 (fun β => nw (4294967295 - s 4)) 51 2 [] (fun β w hk hl hq => R_not32 (x := (.tmp 50)) rfl (a := s 4) kr (hs 4) w)
    · exact E_k 110 (fun β => nw (s 6)) 52 2
    · exact E_v 110 (fun β => nw (((4294967295 - s 4)) &&& (s 6))) 53 2 [] (fun β w hk hl hq => R_bin (x := (.tmp 51)) (y := (.tmp 52)) rfl (k := .u32) (a := (((4294967295 - s 4) : Nat) : Int)) (b := ((s 6 : Nat) : Int)) kr kr (i_and32 (a := (4294967295 - s 4)) (b := s 6) (by omega) (hs 6)) w)
    · exact E_v 110 (fun β => nw ((((s 4) &&& (s 5))) ^^^ ((((4294967295 - s 4)) &&& (s 6))))) 54 2 [] (fun β w hk hl hq => R_bin (x := (.tmp 49)) (y := (.tmp 53)) rfl (k := .u32) (a := ((((s 4) &&& (s 5)) : Nat) : Int)) (b := (((((4294967295 - s 4)) &&& (s 6)) : Nat) : Int)) kr kr (i_xor32 (a := ((s 4) &&& (s 5))) (b := (((4294967295 - s 4)) &&& (s 6))) (and32 (hs 4)) (and32 (by omega))) w)
    · exact E_v 110 (fun β => nw (add32 (add32 (s 7) (((((rotr (s 4) 6) ^^^ (rotr (s 4) 11))) ^^^ (rotr (s 4) 25)))) (((((s 4) &&& (s 5))) ^^^ ((((4294967295 - s 4)) &&& (s 6))))))) 55 2 [] (fun β w hk hl hq => R_bin (x := (.tmp 46)) (y := (.tmp 54)) rfl (k := .u32) (a := ((add32 (s 7) (((((rotr (s 4) 6) ^^^ (rotr (s 4) 11))) ^^^ (rotr (s 4) 25))) : Nat) : Int)) (b := ((((((s 4) &&& (s 5))) ^^^ ((((4294967295 - s 4)) &&& (s 6)))) : Nat) : Int)) kr kr (i_add32 (a := add32 (s 7) (((((rotr (s 4) 6) ^^^ (rotr (s 4) 11))) ^^^ (rotr (s 4) 25)))) (b := ((((s 4) &&& (s 5))) ^^^ ((((4294967295 - s 4)) &&& (s 6)))))) w)
    · exact E_k 110 (fun β => ni k) 56 2
    · exact E_v 110 (fun β => pt 1 (0 + (k) * 1)) 57 2 [] (fun β w hk hl hq => R_index (k := .i64) (g := 1) (off := 0) (x := (.global 1)) (y := (.tmp 56)) rfl Tryd.underlying159 kr (k) kr (by omega) (sz := 1) kr w)
    · exact E_v 110 (fun β => nw (kF (k))) 58 2 [] (fun β w hk hl hq => R_cellH hl (own := false) (g := 1) (all := (arrF .u32 64 kF)) (t := 159) (fr := (0, 0)) 3 kr 53 (.tmp 57) rfl (0 + (k) * 1) kr (nw (kF (k))) ((congrArg (fun q => ((arrF .u32 64 kF))[q]?) (show (0 + (k) * 1) = k by omega)).trans (arrF_get kF (by omega))) _ Tryd.underlying53 rfl)
    · exact E_v 110 (fun β => nw (add32 (add32 (add32 (s 7) (((((rotr (s 4) 6) ^^^ (rotr (s 4) 11))) ^^^ (rotr (s 4) 25)))) (((((s 4) &&& (s 5))) ^^^ ((((4294967295 - s 4)) &&& (s 6)))))) (kF (k)))) 59 2 [] (fun β w hk hl hq => R_bin (x := (.tmp 55)) (y := (.tmp 58)) rfl (k := .u32) (a := ((add32 (add32 (s 7) (((((rotr (s 4) 6) ^^^ (rotr (s 4) 11))) ^^^ (rotr (s 4) 25)))) (((((s 4) &&& (s 5))) ^^^ ((((4294967295 - s 4)) &&& (s 6))))) : Nat) : Int)) (b := ((kF (k) : Nat) : Int)) kr kr (i_add32 (a := add32 (add32 (s 7) (((((rotr (s 4) 6) ^^^ (rotr (s 4) 11))) ^^^ (rotr (s 4) 25)))) (((((s 4) &&& (s 5))) ^^^ ((((4294967295 - s 4)) &&& (s 6)))))) (b := kF (k))) w)
    · exact E_k 110 (fun β => nw ((wF bl) (k))) 60 2
    · exact E_v 110 (fun β => nw (add32 (add32 (add32 (add32 (s 7) (((((rotr (s 4) 6) ^^^ (rotr (s 4) 11))) ^^^ (rotr (s 4) 25)))) (((((s 4) &&& (s 5))) ^^^ ((((4294967295 - s 4)) &&& (s 6)))))) (kF (k))) ((wF bl) (k)))) 61 2 [] (fun β w hk hl hq => R_bin (x := (.tmp 59)) (y := (.tmp 60)) rfl (k := .u32) (a := ((add32 (add32 (add32 (s 7) (((((rotr (s 4) 6) ^^^ (rotr (s 4) 11))) ^^^ (rotr (s 4) 25)))) (((((s 4) &&& (s 5))) ^^^ ((((4294967295 - s 4)) &&& (s 6)))))) (kF (k)) : Nat) : Int)) (b := (((wF bl) (k) : Nat) : Int)) kr kr (i_add32 (a := add32 (add32 (add32 (s 7) (((((rotr (s 4) 6) ^^^ (rotr (s 4) 11))) ^^^ (rotr (s 4) 25)))) (((((s 4) &&& (s 5))) ^^^ ((((4294967295 - s 4)) &&& (s 6)))))) (kF (k))) (b := (wF bl) (k))) w)
    · exact E_k 110 (fun β => nw (add32 (add32 (add32 (add32 (s 7) (((((rotr (s 4) 6) ^^^ (rotr (s 4) 11))) ^^^ (rotr (s 4) 25)))) (((((s 4) &&& (s 5))) ^^^ ((((4294967295 - s 4)) &&& (s 6)))))) (kF (k))) ((wF bl) (k)))) 14 2
    clear F H; intro β a v Q F H
    replace H : Hp [] w [bk aq6 (arrF .u32 8 s) 144, bk aq2 (arrF .u32 8 st) 144, bk aq4 #[.int .u32 0, .int .u32 0, .int .u32 0, .int .u32 0, .int .u32 0, .int .u32 0, .int .u32 0, .int .u32 0] 144, br 1 (arrF .u32 64 kF) 159] v := H
    replace F : Fm 110 [] [(14, nw (add32 (add32 (add32 (add32 (s 7) (((((rotr (s 4) 6) ^^^ (rotr (s 4) 11))) ^^^ (rotr (s 4) 25)))) (((((s 4) &&& (s 5))) ^^^ ((((4294967295 - s 4)) &&& (s 6)))))) (kF (k))) ((wF bl) (k)))), (61, nw (add32 (add32 (add32 (add32 (s 7) (((((rotr (s 4) 6) ^^^ (rotr (s 4) 11))) ^^^ (rotr (s 4) 25)))) (((((s 4) &&& (s 5))) ^^^ ((((4294967295 - s 4)) &&& (s 6)))))) (kF (k))) ((wF bl) (k)))), (60, nw ((wF bl) (k))), (59, nw (add32 (add32 (add32 (s 7) (((((rotr (s 4) 6) ^^^ (rotr (s 4) 11))) ^^^ (rotr (s 4) 25)))) (((((s 4) &&& (s 5))) ^^^ ((((4294967295 - s 4)) &&& (s 6)))))) (kF (k)))), (58, nw (kF (k))), (57, pt 1 (0 + (k) * 1)), (56, ni k), (55, nw (add32 (add32 (s 7) (((((rotr (s 4) 6) ^^^ (rotr (s 4) 11))) ^^^ (rotr (s 4) 25)))) (((((s 4) &&& (s 5))) ^^^ ((((4294967295 - s 4)) &&& (s 6))))))), (54, nw ((((s 4) &&& (s 5))) ^^^ ((((4294967295 - s 4)) &&& (s 6))))), (53, nw (((4294967295 - s 4)) &&& (s 6))), (52, nw (s 6)), (51, nw (4294967295 - s 4)), (50, nw (s 4)), (49, nw ((s 4) &&& (s 5))), (48, nw (s 5)), (47, nw (s 4)), (46, nw (add32 (s 7) (((((rotr (s 4) 6) ^^^ (rotr (s 4) 11))) ^^^ (rotr (s 4) 25))))), (45, nw ((((rotr (s 4) 6) ^^^ (rotr (s 4) 11))) ^^^ (rotr (s 4) 25))), (44, nw (rotr (s 4) 25)), (43, nw (s 4)), (42, nw ((rotr (s 4) 6) ^^^ (rotr (s 4) 11))), (41, nw (rotr (s 4) 11)), (40, nw (s 4)), (39, nw (rotr (s 4) 6)), (38, nw (s 4)), (37, nw (s 7)), (36, pt aq6 7), (13, nw (s 6)), (12, nw (s 5)), (11, nw (s 4)), (10, nw (s 2)), (9, nw (s 1)), (8, nw (s 0)), (35, nw (s 6)), (34, pt aq6 6), (33, nw (s 5)), (32, pt aq6 5), (31, nw (s 4)), (30, pt aq6 4), (29, nw (s 2)), (28, pt aq6 2), (27, nw (s 1)), (26, pt aq6 1), (25, nw (s 0)), (24, pt aq6 0), (7, nw ((wF bl) (k))), (6, ni k), (23, nw ((wF bl) (k))), (22, ni k), (21, .bool true), (20, ni k), (19, .agg (arrF .u32 64 (wF bl))), (2, pt aq2 0), (4, pt aq4 0), (5, pt aq6 0)] a := F.weak _ (subL_of kr)
    clear Q
    refine ?_
    refine hK14 _ _ ?_
    clear hK14
    try clear K14
    refine C_seqK (fun K15 hK15 => ?_)
    refine C_region ?_
    refine T_k F H (nw (s 0)) ?_
    clear F; intro a F
    refine T_call F H kr 110 #[nw (s 0), ni 2] (nw (rotr (s 0) 2)) (fun w => kr) (right_any (s 0) 2 (hs 0) (by decide) (by decide) _) ?_
    clear F H; intro a v F H
    refine T_k F H (nw (s 0)) ?_
    clear F; intro a F
    refine T_call F H kr 110 #[nw (s 0), ni 13] (nw (rotr (s 0) 13)) (fun w => kr) (right_any (s 0) 13 (hs 0) (by decide) (by decide) _) ?_
    clear F H; intro a v F H
    refine T_val F H kr (nw ((rotr (s 0) 2) ^^^ (rotr (s 0) 13))) (fun w _ => R_bin (x := (.tmp 63)) (y := (.tmp 65)) rfl (k := .u32) (a := ((rotr (s 0) 2 : Nat) : Int)) (b := ((rotr (s 0) 13 : Nat) : Int)) kr kr (i_xor32 (a := rotr (s 0) 2) (b := rotr (s 0) 13) (rotr_lt (hs 0)) (rotr_lt (hs 0))) w) ?_
    clear F; intro a F
    refine T_k F H (nw (s 0)) ?_
    clear F; intro a F
    refine T_call F H kr 110 #[nw (s 0), ni 22] (nw (rotr (s 0) 22)) (fun w => kr) (right_any (s 0) 22 (hs 0) (by decide) (by decide) _) ?_
    clear F H; intro a v F H
    refine T_val F H kr (nw ((((rotr (s 0) 2) ^^^ (rotr (s 0) 13))) ^^^ (rotr (s 0) 22))) (fun w _ => R_bin (x := (.tmp 66)) (y := (.tmp 68)) rfl (k := .u32) (a := ((((rotr (s 0) 2) ^^^ (rotr (s 0) 13)) : Nat) : Int)) (b := ((rotr (s 0) 22 : Nat) : Int)) kr kr (i_xor32 (a := ((rotr (s 0) 2) ^^^ (rotr (s 0) 13))) (b := rotr (s 0) 22) (xor32 (rotr_lt (hs 0)) (rotr_lt (hs 0))) (rotr_lt (hs 0))) w) ?_
    clear F; intro a F
    refine T_k F H (nw (s 0)) ?_
    clear F; intro a F
    refine T_k F H (nw (s 1)) ?_
    clear F; intro a F
    refine T_val F H kr (nw ((s 0) &&& (s 1))) (fun w _ => R_bin (x := (.tmp 70)) (y := (.tmp 71)) rfl (k := .u32) (a := ((s 0 : Nat) : Int)) (b := ((s 1 : Nat) : Int)) kr kr (i_and32 (a := s 0) (b := s 1) (hs 0) (hs 1)) w) ?_
    clear F; intro a F
    refine T_k F H (nw (s 0)) ?_
    clear F; intro a F
    refine T_k F H (nw (s 2)) ?_
    clear F; intro a F
    refine T_val F H kr (nw ((s 0) &&& (s 2))) (fun w _ => R_bin (x := (.tmp 73)) (y := (.tmp 74)) rfl (k := .u32) (a := ((s 0 : Nat) : Int)) (b := ((s 2 : Nat) : Int)) kr kr (i_and32 (a := s 0) (b := s 2) (hs 0) (hs 2)) w) ?_
    clear F; intro a F
    refine T_val F H kr (nw ((((s 0) &&& (s 1))) ^^^ (((s 0) &&& (s 2))))) (fun w _ => R_bin (x := (.tmp 72)) (y := (.tmp 75)) rfl (k := .u32) (a := ((((s 0) &&& (s 1)) : Nat) : Int)) (b := ((((s 0) &&& (s 2)) : Nat) : Int)) kr kr (i_xor32 (a := ((s 0) &&& (s 1))) (b := ((s 0) &&& (s 2))) (and32 (hs 0)) (and32 (hs 0))) w) ?_
    clear F; intro a F
    refine T_k F H (nw (s 1)) ?_
    clear F; intro a F
    refine T_k F H (nw (s 2)) ?_
    clear F; intro a F
    refine T_val F H kr (nw ((s 1) &&& (s 2))) (fun w _ => R_bin (x := (.tmp 77)) (y := (.tmp 78)) rfl (k := .u32) (a := ((s 1 : Nat) : Int)) (b := ((s 2 : Nat) : Int)) kr kr (i_and32 (a := s 1) (b := s 2) (hs 1) (hs 2)) w) ?_
    clear F; intro a F
    refine T_val F H kr (nw ((((((s 0) &&& (s 1))) ^^^ (((s 0) &&& (s 2))))) ^^^ (((s 1) &&& (s 2))))) (fun w _ => R_bin (x := (.tmp 76)) (y := (.tmp 79)) rfl (k := .u32) (a := ((((((s 0) &&& (s 1))) ^^^ (((s 0) &&& (s 2)))) : Nat) : Int)) (b := ((((s 1) &&& (s 2)) : Nat) : Int)) kr kr (i_xor32 (a := ((((s 0) &&& (s 1))) ^^^ (((s 0) &&& (s 2))))) (b := ((s 1) &&& (s 2))) (xor32 (and32 (hs 0)) (and32 (hs 0))) (and32 (hs 1))) w) ?_
    clear F; intro a F
    refine T_val F H kr (nw (add32 (((((rotr (s 0) 2) ^^^ (rotr (s 0) 13))) ^^^ (rotr (s 0) 22))) (((((((s 0) &&& (s 1))) ^^^ (((s 0) &&& (s 2))))) ^^^ (((s 1) &&& (s 2))))))) (fun w _ => R_bin (x := (.tmp 69)) (y := (.tmp 80)) rfl (k := .u32) (a := ((((((rotr (s 0) 2) ^^^ (rotr (s 0) 13))) ^^^ (rotr (s 0) 22)) : Nat) : Int)) (b := ((((((((s 0) &&& (s 1))) ^^^ (((s 0) &&& (s 2))))) ^^^ (((s 1) &&& (s 2)))) : Nat) : Int)) kr kr (i_add32 (a := ((((rotr (s 0) 2) ^^^ (rotr (s 0) 13))) ^^^ (rotr (s 0) 22))) (b := ((((((s 0) &&& (s 1))) ^^^ (((s 0) &&& (s 2))))) ^^^ (((s 1) &&& (s 2)))))) w) ?_
    clear F; intro a F
    refine T_k F H (nw (add32 (((((rotr (s 0) 2) ^^^ (rotr (s 0) 13))) ^^^ (rotr (s 0) 22))) (((((((s 0) &&& (s 1))) ^^^ (((s 0) &&& (s 2))))) ^^^ (((s 1) &&& (s 2))))))) ?_
    clear F; intro a F
    refine wpList_nil ?_
    refine hK15 _ _ ?_
    clear hK15
    try clear K15
    refine C_region ?_
    refine T_k F H (nw (add32 (add32 (add32 (add32 (s 7) (((((rotr (s 4) 6) ^^^ (rotr (s 4) 11))) ^^^ (rotr (s 4) 25)))) (((((s 4) &&& (s 5))) ^^^ ((((4294967295 - s 4)) &&& (s 6)))))) (kF (k))) ((wF bl) (k)))) ?_
    clear F; intro a F
    refine T_k F H (nw (add32 (((((rotr (s 0) 2) ^^^ (rotr (s 0) 13))) ^^^ (rotr (s 0) 22))) (((((((s 0) &&& (s 1))) ^^^ (((s 0) &&& (s 2))))) ^^^ (((s 1) &&& (s 2))))))) ?_
    clear F; intro a F
    refine T_val F H kr (nw (add32 (add32 (add32 (add32 (add32 (s 7) (((((rotr (s 4) 6) ^^^ (rotr (s 4) 11))) ^^^ (rotr (s 4) 25)))) (((((s 4) &&& (s 5))) ^^^ ((((4294967295 - s 4)) &&& (s 6)))))) (kF (k))) ((wF bl) (k))) (add32 (((((rotr (s 0) 2) ^^^ (rotr (s 0) 13))) ^^^ (rotr (s 0) 22))) (((((((s 0) &&& (s 1))) ^^^ (((s 0) &&& (s 2))))) ^^^ (((s 1) &&& (s 2)))))))) (fun w _ => R_bin (x := (.tmp 82)) (y := (.tmp 83)) rfl (k := .u32) (a := ((add32 (add32 (add32 (add32 (s 7) (((((rotr (s 4) 6) ^^^ (rotr (s 4) 11))) ^^^ (rotr (s 4) 25)))) (((((s 4) &&& (s 5))) ^^^ ((((4294967295 - s 4)) &&& (s 6)))))) (kF (k))) ((wF bl) (k)) : Nat) : Int)) (b := ((add32 (((((rotr (s 0) 2) ^^^ (rotr (s 0) 13))) ^^^ (rotr (s 0) 22))) (((((((s 0) &&& (s 1))) ^^^ (((s 0) &&& (s 2))))) ^^^ (((s 1) &&& (s 2))))) : Nat) : Int)) kr kr (i_add32 (a := add32 (add32 (add32 (add32 (s 7) (((((rotr (s 4) 6) ^^^ (rotr (s 4) 11))) ^^^ (rotr (s 4) 25)))) (((((s 4) &&& (s 5))) ^^^ ((((4294967295 - s 4)) &&& (s 6)))))) (kF (k))) ((wF bl) (k))) (b := add32 (((((rotr (s 0) 2) ^^^ (rotr (s 0) 13))) ^^^ (rotr (s 0) 22))) (((((((s 0) &&& (s 1))) ^^^ (((s 0) &&& (s 2))))) ^^^ (((s 1) &&& (s 2))))))) w) ?_
    clear F; intro a F
    refine T_k F H (nw (s 0)) ?_
    clear F; intro a F
    refine T_k F H (nw (s 1)) ?_
    clear F; intro a F
    refine T_k F H (nw (s 2)) ?_
    clear F; intro a F
    refine T_k F H (pt aq6 3) ?_
    clear F; intro a F
    refine T_val F H kr (nw (s 3)) (R_cell (own := true) (g := aq6) (all := (arrF .u32 8 s)) (t := 144) (fr := (0, 0)) 0 kr 53 (.tmp 88) rfl 3 kr (nw (s 3)) kr _ Tryd.underlying53 rfl) ?_
    clear F; intro a F
    refine T_k F H (nw (add32 (add32 (add32 (add32 (s 7) (((((rotr (s 4) 6) ^^^ (rotr (s 4) 11))) ^^^ (rotr (s 4) 25)))) (((((s 4) &&& (s 5))) ^^^ ((((4294967295 - s 4)) &&& (s 6)))))) (kF (k))) ((wF bl) (k)))) ?_
    clear F; intro a F
    refine T_val F H kr (nw (add32 (s 3) (add32 (add32 (add32 (add32 (s 7) (((((rotr (s 4) 6) ^^^ (rotr (s 4) 11))) ^^^ (rotr (s 4) 25)))) (((((s 4) &&& (s 5))) ^^^ ((((4294967295 - s 4)) &&& (s 6)))))) (kF (k))) ((wF bl) (k))))) (fun w _ => R_bin (x := (.tmp 89)) (y := (.tmp 90)) rfl (k := .u32) (a := ((s 3 : Nat) : Int)) (b := ((add32 (add32 (add32 (add32 (s 7) (((((rotr (s 4) 6) ^^^ (rotr (s 4) 11))) ^^^ (rotr (s 4) 25)))) (((((s 4) &&& (s 5))) ^^^ ((((4294967295 - s 4)) &&& (s 6)))))) (kF (k))) ((wF bl) (k)) : Nat) : Int)) kr kr (i_add32 (a := s 3) (b := add32 (add32 (add32 (add32 (s 7) (((((rotr (s 4) 6) ^^^ (rotr (s 4) 11))) ^^^ (rotr (s 4) 25)))) (((((s 4) &&& (s 5))) ^^^ ((((4294967295 - s 4)) &&& (s 6)))))) (kF (k))) ((wF bl) (k)))) w) ?_
    clear F; intro a F
    refine T_k F H (nw (s 4)) ?_
    clear F; intro a F
    refine T_k F H (nw (s 5)) ?_
    clear F; intro a F
    refine T_k F H (nw (s 6)) ?_
    clear F; intro a F
    refine T_k F H (.agg #[nw (add32 (add32 (add32 (add32 (add32 (s 7) (((((rotr (s 4) 6) ^^^ (rotr (s 4) 11))) ^^^ (rotr (s 4) 25)))) (((((s 4) &&& (s 5))) ^^^ ((((4294967295 - s 4)) &&& (s 6)))))) (kF (k))) ((wF bl) (k))) (add32 (((((rotr (s 0) 2) ^^^ (rotr (s 0) 13))) ^^^ (rotr (s 0) 22))) (((((((s 0) &&& (s 1))) ^^^ (((s 0) &&& (s 2))))) ^^^ (((s 1) &&& (s 2))))))), nw (s 0), nw (s 1), nw (s 2), nw (add32 (s 3) (add32 (add32 (add32 (add32 (s 7) (((((rotr (s 4) 6) ^^^ (rotr (s 4) 11))) ^^^ (rotr (s 4) 25)))) (((((s 4) &&& (s 5))) ^^^ ((((4294967295 - s 4)) &&& (s 6)))))) (kF (k))) ((wF bl) (k)))), nw (s 4), nw (s 5), nw (s 6)]) ?_
    clear F; intro a F
    refine T_set F H kr rfl 0 rfl #[nw (add32 (add32 (add32 (add32 (add32 (s 7) (((((rotr (s 4) 6) ^^^ (rotr (s 4) 11))) ^^^ (rotr (s 4) 25)))) (((((s 4) &&& (s 5))) ^^^ ((((4294967295 - s 4)) &&& (s 6)))))) (kF (k))) ((wF bl) (k))) (add32 (((((rotr (s 0) 2) ^^^ (rotr (s 0) 13))) ^^^ (rotr (s 0) 22))) (((((((s 0) &&& (s 1))) ^^^ (((s 0) &&& (s 2))))) ^^^ (((s 1) &&& (s 2))))))), nw (s 0), nw (s 1), nw (s 2), nw (add32 (s 3) (add32 (add32 (add32 (add32 (s 7) (((((rotr (s 4) 6) ^^^ (rotr (s 4) 11))) ^^^ (rotr (s 4) 25)))) (((((s 4) &&& (s 5))) ^^^ ((((4294967295 - s 4)) &&& (s 6)))))) (kF (k))) ((wF bl) (k)))), nw (s 4), nw (s 5), nw (s 6)] (S_row 0 rfl 144 (.tmp 5) (.tmp 95) rfl kr #[nw (add32 (add32 (add32 (add32 (add32 (s 7) (((((rotr (s 4) 6) ^^^ (rotr (s 4) 11))) ^^^ (rotr (s 4) 25)))) (((((s 4) &&& (s 5))) ^^^ ((((4294967295 - s 4)) &&& (s 6)))))) (kF (k))) ((wF bl) (k))) (add32 (((((rotr (s 0) 2) ^^^ (rotr (s 0) 13))) ^^^ (rotr (s 0) 22))) (((((((s 0) &&& (s 1))) ^^^ (((s 0) &&& (s 2))))) ^^^ (((s 1) &&& (s 2))))))), nw (s 0), nw (s 1), nw (s 2), nw (add32 (s 3) (add32 (add32 (add32 (add32 (s 7) (((((rotr (s 4) 6) ^^^ (rotr (s 4) 11))) ^^^ (rotr (s 4) 25)))) (((((s 4) &&& (s 5))) ^^^ ((((4294967295 - s 4)) &&& (s 6)))))) (kF (k))) ((wF bl) (k)))), nw (s 4), nw (s 5), nw (s 6)] kr kr kr kr) [bk aq6 #[nw (add32 (add32 (add32 (add32 (add32 (s 7) (((((rotr (s 4) 6) ^^^ (rotr (s 4) 11))) ^^^ (rotr (s 4) 25)))) (((((s 4) &&& (s 5))) ^^^ ((((4294967295 - s 4)) &&& (s 6)))))) (kF (k))) ((wF bl) (k))) (add32 (((((rotr (s 0) 2) ^^^ (rotr (s 0) 13))) ^^^ (rotr (s 0) 22))) (((((((s 0) &&& (s 1))) ^^^ (((s 0) &&& (s 2))))) ^^^ (((s 1) &&& (s 2))))))), nw (s 0), nw (s 1), nw (s 2), nw (add32 (s 3) (add32 (add32 (add32 (add32 (s 7) (((((rotr (s 4) 6) ^^^ (rotr (s 4) 11))) ^^^ (rotr (s 4) 25)))) (((((s 4) &&& (s 5))) ^^^ ((((4294967295 - s 4)) &&& (s 6)))))) (kF (k))) ((wF bl) (k)))), nw (s 4), nw (s 5), nw (s 6)] 144, bk aq2 (arrF .u32 8 st) 144, bk aq4 #[.int .u32 0, .int .u32 0, .int .u32 0, .int .u32 0, .int .u32 0, .int .u32 0, .int .u32 0, .int .u32 0] 144, br 1 (arrF .u32 64 kF) 159] rfl ?_
    clear F H; intro a v F H
    refine wpList_nil ?_
    rw [show (#[nw (add32 (add32 (add32 (add32 (add32 (s 7) (((((rotr (s 4) 6) ^^^ (rotr (s 4) 11))) ^^^ (rotr (s 4) 25)))) (((((s 4) &&& (s 5))) ^^^ ((((4294967295 - s 4)) &&& (s 6)))))) (kF (k))) ((wF bl) (k))) (add32 (((((rotr (s 0) 2) ^^^ (rotr (s 0) 13))) ^^^ (rotr (s 0) 22))) (((((((s 0) &&& (s 1))) ^^^ (((s 0) &&& (s 2))))) ^^^ (((s 1) &&& (s 2))))))), nw (s 0), nw (s 1), nw (s 2), nw (add32 (s 3) (add32 (add32 (add32 (add32 (s 7) (((((rotr (s 4) 6) ^^^ (rotr (s 4) 11))) ^^^ (rotr (s 4) 25)))) (((((s 4) &&& (s 5))) ^^^ ((((4294967295 - s 4)) &&& (s 6)))))) (kF (k))) ((wF bl) (k)))), nw (s 4), nw (s 5), nw (s 6)] : Array Value) = (arrF .u32 8 (rnd (kF k) (wF bl k) s)) from kr, ← hS] at H
    refine hK11 _ _ ?_
    clear hK11
    try clear K11
    refine C_region ?_
    refine T_val F H kr (ni (k + 1)) (fun w _ => R_bin (x := (.tmp 20)) (y := (.const (.int .i64 1))) rfl (k := .i64) (a := ((k : Nat) : Int)) (b := ((1 : Nat) : Int)) kr kr (i_addn64 (a := k) (b := 1) (by omega)) w) ?_
    clear F; intro a F
    refine T_k F H (ni (k + 1)) ?_
    clear F; intro a F
    refine wpList_nil ?_
    replace F : Fm 110 [] [(20, ni (k + 1)), (19, .agg (arrF .u32 64 (wF bl))), (2, pt aq2 0), (4, pt aq4 0), (5, pt aq6 0)] a := F.weak _ (subL_of kr)
    replace H : Hp [] w [bk aq6 (arrF .u32 8 (rnds bl st (k + 1))) 144, bk aq2 (arrF .u32 8 st) 144, bk aq4 #[.int .u32 0, .int .u32 0, .int .u32 0, .int .u32 0, .int .u32 0, .int .u32 0, .int .u32 0, .int .u32 0] 144, br 1 (arrF .u32 64 kF) 159] v := H
    exact ⟨m, Nat.lt_succ_self m, k + 1, by omega, F, H⟩
  have hkt : k = 64 := by omega
  try rw [hkt] at F
  try rw [hkt] at H
  clear hk
  refine C_seqK (fun K16 hK16 => ?_)
  refine C_region ?_
  refine T_val F H kr (.bool false) (fun w _ => R_bin (x := (.tmp 20)) (y := (.const (.int .i64 64))) rfl (k := .i64) (a := ((64 : Nat) : Int)) (b := ((64 : Nat) : Int)) kr kr (i_nlt (by omega)) w) ?_
  clear F; intro a F
  refine wpList_nil ?_
  refine hK16 _ _ ?_
  clear hK16
  try clear K16
  refine C_seqK (fun K17 hK17 => ?_)
  refine C_if F false rfl rfl ?_
  refine wp_exit ?_
  refine hK7 _ _ ?_
  clear hK7
  try clear K7
  refine C_seqK (fun K18 hK18 => ?_)
  refine C_seqK (fun K19 hK19 => ?_)
  refine C_region ?_
  refine T_k F H (ni 0) ?_
  clear F; intro a F
  refine wpList_nil ?_
  replace F : Fm 110 [] [(97, ni 0), (2, pt aq2 0), (4, pt aq4 0), (5, pt aq6 0)] a := F.weak _ (subL_of kr)
  have hs := rnds_lt (bl := bl) hst 64
  have hc : arrF .u32 8 (sumP (rnds bl st 64) st 8) = arrF .u32 8 cb := arrF_congr fun i hi => by rw [hcb]; simp only [sumP, comp]; rw [if_pos hi]
  clear hcb
  rw [show arrF .u32 8 (rnds bl st 64) = arrF .u32 8 (sumP (rnds bl st 64) st 0) from arrF_congr fun i _ => by simp [sumP]] at H
  generalize rnds bl st 64 = s at H hs hc
  refine hK19 _ _ ?_
  clear hK19
  try clear K19
  refine wp_block ?_
  refine C_loop (fun m a v => ∃ k, k + m = 8 ∧ Fm 110 [] [(97, ni k), (2, pt aq2 0), (4, pt aq4 0), (5, pt aq6 0)] a ∧ Hp [] w [bk aq6 (arrF .u32 8 (sumP s st (k))) 144, bk aq2 (arrF .u32 8 st) 144, bk aq4 #[.int .u32 0, .int .u32 0, .int .u32 0, .int .u32 0, .int .u32 0, .int .u32 0, .int .u32 0, .int .u32 0] 144, br 1 (arrF .u32 64 kF) 159] v) (8) ⟨0, Nat.zero_add _, F, H⟩ ?_
  clear F H
  intro m a v ⟨k, hk, F, H⟩
  rcases m with _ | m
  rotate_left
  · skip
    refine C_seqK (fun K20 hK20 => ?_)
    refine C_region ?_
    refine T_val F H kr (.bool true) (fun w _ => R_bin (x := (.tmp 97)) (y := (.const (.int .i64 8))) rfl (k := .i64) (a := ((k : Nat) : Int)) (b := ((8 : Nat) : Int)) kr kr (i_lt (by omega)) w) ?_
    clear F; intro a F
    refine wpList_nil ?_
    refine hK20 _ _ ?_
    clear hK20
    try clear K20
    refine C_seqK (fun K21 hK21 => ?_)
    refine C_if F true rfl rfl ?_
    refine wp_skip ?_
    refine hK21 _ _ ?_
    clear hK21
    try clear K21
    refine C_seqK (fun K22 hK22 => ?_)
    refine wp_block ?_
    refine C_seqK (fun K23 hK23 => ?_)
    refine C_region ?_
    refine T_k F H (ni k) ?_
    clear F; intro a F
    refine T_k F H (ni k) ?_
    clear F; intro a F
    refine wpList_nil ?_
    refine hK23 _ _ ?_
    clear hK23
    try clear K23
    refine E_region F H (fun β => [(100, ni k), (101, pt aq6 (0 + (k) * 1)), (102, nw ((sumP s st (k)) (k))), (103, ni k), (104, pt aq2 (0 + (k) * 1)), (105, nw (st (k))), (106, nw (add32 ((sumP s st (k)) (k)) (st (k)))), (107, pt aq6 (0 + (k) * 1))]) [100, 101, 102, 103, 104, 105, 106, 107] [⟨none, none, aq6, [], fun q_ => ce (arrF .u32 8 (sumP s st (k))) 144, gT, [⟨8, [], fun q_ => ce (arrF .u32 8 (upd (sumP s st (k)) (k) (add32 ((sumP s st (k)) (k)) (st (k))))) 144, gT⟩]⟩] [bk aq2 (arrF .u32 8 st) 144, bk aq4 #[.int .u32 0, .int .u32 0, .int .u32 0, .int .u32 0, .int .u32 0, .int .u32 0, .int .u32 0, .int .u32 0] 144, br 1 (arrF .u32 64 kF) 159] [0, 1, 2, 3] 2 [] kr kr kr (fun β => rfl) ⟨fun _ _ => trivial, trivial⟩ ⟨?_, ?_, ?_, ?_, ?_, ?_, ?_, ?_, ?_, trivial⟩ ?_
    · exact E_k 110 (fun β => ni k) 100 2
    · exact E_v 110 (fun β => pt aq6 (0 + (k) * 1)) 101 2 [] (fun β w hk hl hq => R_index (k := .i64) (g := aq6) (off := 0) (x := (.tmp 5)) (y := (.tmp 100)) rfl Tryd.underlying144 kr (k) kr (by omega) (sz := 1) kr w)
    · exact E_v 110 (fun β => nw ((sumP s st (k)) (k))) 102 2 [(0, 0)] (fun β w hk hl hq => R_cellH hl (own := true) (g := aq6) (all := (arrF .u32 8 (sumP s st (k)))) (t := 144) (fr := (0, 0)) 0 kr 53 (.tmp 101) rfl (0 + (k) * 1) kr (nw ((sumP s st (k)) (k))) ((congrArg (fun q => ((arrF .u32 8 (sumP s st (k))))[q]?) (show (0 + (k) * 1) = k by omega)).trans (arrF_get (sumP s st (k)) (by omega))) _ Tryd.underlying53 rfl)
    · exact E_k 110 (fun β => ni k) 103 2
    · exact E_v 110 (fun β => pt aq2 (0 + (k) * 1)) 104 2 [] (fun β w hk hl hq => R_index (k := .i64) (g := aq2) (off := 0) (x := (.tmp 2)) (y := (.tmp 103)) rfl Tryd.underlying144 kr (k) kr (by omega) (sz := 1) kr w)
    · exact E_v 110 (fun β => nw (st (k))) 105 2 [] (fun β w hk hl hq => R_cellH hl (own := true) (g := aq2) (all := (arrF .u32 8 st)) (t := 144) (fr := (0, 0)) 0 kr 53 (.tmp 104) rfl (0 + (k) * 1) kr (nw (st (k))) ((congrArg (fun q => ((arrF .u32 8 st))[q]?) (show (0 + (k) * 1) = k by omega)).trans (arrF_get st (by omega))) _ Tryd.underlying53 rfl)
    · exact E_v 110 (fun β => nw (add32 ((sumP s st (k)) (k)) (st (k)))) 106 2 [] (fun β w hk hl hq => R_bin (x := (.tmp 102)) (y := (.tmp 105)) rfl (k := .u32) (a := (((sumP s st (k)) (k) : Nat) : Int)) (b := ((st (k) : Nat) : Int)) kr kr (i_add32 (a := (sumP s st (k)) (k)) (b := st (k))) w)
    · exact E_v 110 (fun β => pt aq6 (0 + (k) * 1)) 107 2 [] (fun β w hk hl hq => R_index (k := .i64) (g := aq6) (off := 0) (x := (.tmp 5)) (y := (.tmp 100)) rfl Tryd.underlying144 kr (k) kr (by omega) (sz := 1) kr w)
    · exact E_store 110 kq rfl 2 [] 0 0 _ _ rfl rfl kr rfl (fun _ => trivial) (fun β w hk hl hq hm => let ⟨w', h1, h2, h3⟩ := P_cell (off := (0 + (k) * 1)) (old := (arrF .u32 8 (sumP s st (k)))) (v := nw (add32 ((sumP s st (k)) (k)) (st (k)))) (Z := ce (arrF .u32 8 (sumP s st (k))) 144) (R := ce (arrF .u32 8 (upd (sumP s st (k)) (k) (add32 ((sumP s st (k)) (k)) (st (k))))) 144) rfl (by rw [show (0 + (k) * 1) = k by omega, arrF_upd _ (by omega)]) (ty := 53) (x := (.tmp 107)) (y := (.tmp 106)) rfl kr kr rfl (by rw [arrF_size]; omega) Tryd.underlying53 rfl kr hm; ⟨w', h1, h2, h3⟩)
    clear F H; intro β a v Q F H
    replace H : Hp [] w [bk aq6 (arrF .u32 8 (upd (sumP s st (k)) (k) (add32 ((sumP s st (k)) (k)) (st (k))))) 144, bk aq2 (arrF .u32 8 st) 144, bk aq4 #[.int .u32 0, .int .u32 0, .int .u32 0, .int .u32 0, .int .u32 0, .int .u32 0, .int .u32 0, .int .u32 0] 144, br 1 (arrF .u32 64 kF) 159] v := H
    replace F : Fm 110 [] [(107, pt aq6 (0 + (k) * 1)), (106, nw (add32 ((sumP s st (k)) (k)) (st (k)))), (105, nw (st (k))), (104, pt aq2 (0 + (k) * 1)), (103, ni k), (102, nw ((sumP s st (k)) (k))), (101, pt aq6 (0 + (k) * 1)), (100, ni k), (16, ni k), (99, ni k), (98, .bool true), (97, ni k), (2, pt aq2 0), (4, pt aq4 0), (5, pt aq6 0)] a := F.weak _ (subL_of kr)
    clear Q
    refine ?_
    rw [sumP_step] at H
    refine hK22 _ _ ?_
    clear hK22
    try clear K22
    refine C_region ?_
    refine T_val F H kr (ni (k + 1)) (fun w _ => R_bin (x := (.tmp 97)) (y := (.const (.int .i64 1))) rfl (k := .i64) (a := ((k : Nat) : Int)) (b := ((1 : Nat) : Int)) kr kr (i_addn64 (a := k) (b := 1) (by omega)) w) ?_
    clear F; intro a F
    refine T_k F H (ni (k + 1)) ?_
    clear F; intro a F
    refine wpList_nil ?_
    replace F : Fm 110 [] [(97, ni (k + 1)), (2, pt aq2 0), (4, pt aq4 0), (5, pt aq6 0)] a := F.weak _ (subL_of kr)
    replace H : Hp [] w [bk aq6 (arrF .u32 8 (sumP s st (k + 1))) 144, bk aq2 (arrF .u32 8 st) 144, bk aq4 #[.int .u32 0, .int .u32 0, .int .u32 0, .int .u32 0, .int .u32 0, .int .u32 0, .int .u32 0, .int .u32 0] 144, br 1 (arrF .u32 64 kF) 159] v := H
    exact ⟨m, Nat.lt_succ_self m, k + 1, by omega, F, H⟩
  have hkt : k = 8 := by omega
  try rw [hkt] at F
  try rw [hkt] at H
  clear hk
  refine C_seqK (fun K24 hK24 => ?_)
  refine C_region ?_
  refine T_val F H kr (.bool false) (fun w _ => R_bin (x := (.tmp 97)) (y := (.const (.int .i64 8))) rfl (k := .i64) (a := ((8 : Nat) : Int)) (b := ((8 : Nat) : Int)) kr kr (i_nlt (by omega)) w) ?_
  clear F; intro a F
  refine wpList_nil ?_
  refine hK24 _ _ ?_
  clear hK24
  try clear K24
  refine C_seqK (fun K25 hK25 => ?_)
  refine C_if F false rfl rfl ?_
  refine wp_exit ?_
  refine hK18 _ _ ?_
  clear hK18
  try clear K18
  refine C_seqK (fun K26 hK26 => ?_)
  rw [hc] at H
  refine C_region ?_
  refine T_val F H kr (.agg (arrF .u32 8 cb)) (R_load (own := true) (g := aq6) (all := (arrF .u32 8 cb)) (t := 144) (fr := (0, 0)) 0 kr 144 (.tmp 5) rfl 0 kr (arrF .u32 8 cb) (part_all _) _ Tryd.underlying144 rfl (by rw [arrF_size]; kernel_rfl)) ?_
  clear F; intro a F
  refine T_set F H kr rfl 2 rfl (arrF .u32 8 cb) (S_row 2 rfl 144 (.tmp 4) (.tmp 109) rfl kr (arrF .u32 8 cb) kr (by rw [arrF_size]; kernel_rfl) (by rw [arrF_size]; kernel_rfl) (arrF_one _ _ _)) [bk aq6 (arrF .u32 8 cb) 144, bk aq2 (arrF .u32 8 st) 144, bk aq4 (arrF .u32 8 cb) 144, br 1 (arrF .u32 64 kF) 159] rfl ?_
  clear F H; intro a v F H
  refine wpList_nil ?_
  refine hK26 _ _ ?_
  clear hK26
  try clear K26
  refine wp_ret ?_
  exact C_ret F H (rs := [.cell 4 144]) rfl (vs := [.agg (arrF .u32 8 cb)]) (.row 2 rfl rfl _ Tryd.underlying144 rfl kr .nil) (.agg (arrF .u32 8 cb)) rfl ⟨rfl, H.kept⟩
end Go.Proofs.YtdejhenkdbjakaaDoor
