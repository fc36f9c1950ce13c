/- Walks: the reference's compression. -/
import Derived.Test.YtdejhenkdbjakaaDoorV1
set_option linter.unusedVariables false
set_option linter.unusedSimpArgs false
namespace Go.Proofs.YtdejhenkdbjakaaDoor
open Go Go.RowKit
theorem C_lastK {P : Program} {Q : Exit → Act → World → Prop} {x : Code} {a : Act} {w : World} (h : ∀ K : Act → World → Prop, (∀ a w, Q .normal a w → K a w) → x.wp P (Exit.then K Q) a w) : x.wp P Q a w :=
  Code.wp_mono (by intro e a w q; cases e <;> exact q) (h (Q .normal) fun _ _ h => h)
theorem sh_or (a b : Nat) (hb : b < 256) (i : Nat) : a <<< (8 + i) ||| b <<< i = (a * 256 + b) <<< i := by
  rw [Nat.shiftLeft_add, ← Nat.shiftLeft_or_distrib, ← Nat.shiftLeft_add_eq_or_of_lt (i := 8) (by simpa using hb), show a <<< 8 = a * 256 from Nat.shiftLeft_eq _ _]
theorem or4 (a b c d : Nat) (ha : a < 256) (hb : b < 256) (hc : c < 256) (hd : d < 256) : ((((a <<< 24) % 4294967296) ||| ((b <<< 16) % 4294967296)) ||| ((c <<< 8) % 4294967296)) ||| d = ((a * 256 + b) * 256 + c) * 256 + d := by
  rw [Nat.mod_eq_of_lt (a := a <<< 24) (by rw [Nat.shiftLeft_eq]; omega), Nat.mod_eq_of_lt (a := b <<< 16) (by rw [Nat.shiftLeft_eq]; omega), Nat.mod_eq_of_lt (a := c <<< 8) (by rw [Nat.shiftLeft_eq]; omega)]
  rw [show a <<< 24 = a <<< (8 + 16) from rfl, sh_or a b hb 16, show (a * 256 + b) <<< 16 = (a * 256 + b) <<< (8 + 8) from rfl, sh_or _ c hc 8]
  rw [← Nat.shiftLeft_add_eq_or_of_lt (i := 8) (by simpa using hd), Nat.shiftLeft_eq]
theorem hi4 (bl : Nat → Nat) (hb : ∀ i, bl i < 256) (k : Nat) : (((((bl (4 * k)) <<< 24) % 4294967296) ||| (((bl (4 * k + 1)) <<< 16) % 4294967296)) ||| (((bl (4 * k + 2)) <<< 8) % 4294967296)) ||| (bl (4 * k + 3)) = hiW bl (4 * k) 4 := by
  rw [or4 _ _ _ _ (hb _) (hb _) (hb _) (hb _)]
  simp [hiW]
theorem wP_hi2 (bl : Nat → Nat) {k : Nat} (h : 16 ≤ k) (h2 : k < 64) {v : Nat} (hv : v = add32 (add32 (add32 (wP bl k (k - 16)) (sg0 (wP bl k (k - 15)))) (wP bl k (k - 7))) (sg1 (wP bl k (k - 2)))) : upd (wP bl k) k v = wP bl (k + 1) := by
  refine wP_step bl ?_
  rw [hv, wF_hi bl h h2, wP_at bl (by omega), wP_at bl (by omega), wP_at bl (by omega), wP_at bl (by omega)]

set_option maxRecDepth 100000 in
set_option maxHeartbeats 4000000 in
theorem blockR_any (st bl : Nat → Nat) (hst : ∀ i, st i < 4294967296) (hbl : ∀ i, bl i < 256) (w : World) : Calls Tryd.prog 101 #[.agg (arrF .u32 8 st), .agg (arrF .u8 64 bl)] w fun e w' => e = .returned (.agg (arrF .u32 8 (comp st bl))) ∧ Kept [] w w' := by
  obtain ⟨cb, hcb⟩ : ∃ cb, cb = comp st bl := ⟨_, rfl⟩
  rw [← hcb]
  refine C_enter Tryd.func101 rfl 208 Tryd.ntmps101 (Nat.le_of_ble_eq_true rfl) (fun a F => ?_)
  have H := Hp.start [] w
  replace F : Fm 208 [] [(0, .agg (arrF .u32 8 st)), (1, .agg (arrF .u8 64 bl))] a := F.weak _ (subL_of kr)
  refine C_seqK (fun K1 hK1 => ?_)
  refine C_region ?_
  refine T_new F H kr (fun ad => pt ad 0) (ce (arrF .u32 8 st) 144) (fun w => kr) ?_
  clear F H; intro aq2 a v F H
  refine T_new F H kr (fun ad => pt ad 0) (ce (arrF .u8 64 bl) 140) (fun w => kr) ?_
  clear F H; intro aq3 a v F H
  refine T_new F H kr (fun ad => pt ad 0) (ce #[.int .u32 0, .int .u32 0, .int .u32 0, .int .u32 0, .int .u32 0, .int .u32 0, .int .u32 0, .int .u32 0] 144) (fun w => kr) ?_
  clear F H; intro aq4 a v F H
  refine wpList_nil ?_
  refine hK1 _ _ ?_
  clear hK1
  try clear K1
  refine C_seqK (fun K5 hK5 => ?_)
  refine C_region ?_
  refine T_k F H (.agg (arrF .u32 64 kF)) ?_
  clear F; intro a F
  refine T_new F H kr (fun ad => pt ad 0) (ce #[.int .u32 0, .int .u32 0, .int .u32 0, .int .u32 0, .int .u32 0, .int .u32 0, .int .u32 0, .int .u32 0, .int .u32 0, .int .u32 0, .int .u32 0, .int .u32 0, .int .u32 0, .int .u32 0, .int .u32 0, .int .u32 0, .int .u32 0, .int .u32 0, .int .u32 0, .int .u32 0, .int .u32 0, .int .u32 0, .int .u32 0, .int .u32 0, .int .u32 0, .int .u32 0, .int .u32 0, .int .u32 0, .int .u32 0, .int .u32 0, .int .u32 0, .int .u32 0, .int .u32 0, .int .u32 0, .int .u32 0, .int .u32 0, .int .u32 0, .int .u32 0, .int .u32 0, .int .u32 0, .int .u32 0, .int .u32 0, .int .u32 0, .int .u32 0, .int .u32 0, .int .u32 0, .int .u32 0, .int .u32 0, .int .u32 0, .int .u32 0, .int .u32 0, .int .u32 0, .int .u32 0, .int .u32 0, .int .u32 0, .int .u32 0, .int .u32 0, .int .u32 0, .int .u32 0, .int .u32 0, .int .u32 0, .int .u32 0, .int .u32 0, .int .u32 0] 159) (fun w => kr) ?_
  clear F H; intro aq6 a v F H
  refine T_set F H kr rfl 0 rfl (arrF .u32 64 kF) (S_row 0 rfl 159 (.tmp 5) (.tmp 21) rfl kr (arrF .u32 64 kF) kr (by rw [arrF_size]; kernel_rfl) (by rw [arrF_size]; kernel_rfl) (arrF_one _ _ _)) [bk aq6 (arrF .u32 64 kF) 159, bk aq4 #[.int .u32 0, .int .u32 0, .int .u32 0, .int .u32 0, .int .u32 0, .int .u32 0, .int .u32 0, .int .u32 0] 144, bk aq3 (arrF .u8 64 bl) 140, bk aq2 (arrF .u32 8 st) 144] rfl ?_
  clear F H; intro a v F H
  refine wpList_nil ?_
  refine hK5 _ _ ?_
  clear hK5
  try clear K5
  refine C_seqK (fun K7 hK7 => ?_)
  refine C_region ?_
  refine T_new F H kr (fun ad => pt ad 0) (ce #[.int .u32 0, .int .u32 0, .int .u32 0, .int .u32 0, .int .u32 0, .int .u32 0, .int .u32 0, .int .u32 0, .int .u32 0, .int .u32 0, .int .u32 0, .int .u32 0, .int .u32 0, .int .u32 0, .int .u32 0, .int .u32 0, .int .u32 0, .int .u32 0, .int .u32 0, .int .u32 0, .int .u32 0, .int .u32 0, .int .u32 0, .int .u32 0, .int .u32 0, .int .u32 0, .int .u32 0, .int .u32 0, .int .u32 0, .int .u32 0, .int .u32 0, .int .u32 0, .int .u32 0, .int .u32 0, .int .u32 0, .int .u32 0, .int .u32 0, .int .u32 0, .int .u32 0, .int .u32 0, .int .u32 0, .int .u32 0, .int .u32 0, .int .u32 0, .int .u32 0, .int .u32 0, .int .u32 0, .int .u32 0, .int .u32 0, .int .u32 0, .int .u32 0, .int .u32 0, .int .u32 0, .int .u32 0, .int .u32 0, .int .u32 0, .int .u32 0, .int .u32 0, .int .u32 0, .int .u32 0, .int .u32 0, .int .u32 0, .int .u32 0, .int .u32 0] 159) (fun w => kr) ?_
  clear F H; intro aq8 a v F H
  refine wpList_nil ?_
  rw [show (#[.int .u32 0, .int .u32 0, .int .u32 0, .int .u32 0, .int .u32 0, .int .u32 0, .int .u32 0, .int .u32 0, .int .u32 0, .int .u32 0, .int .u32 0, .int .u32 0, .int .u32 0, .int .u32 0, .int .u32 0, .int .u32 0, .int .u32 0, .int .u32 0, .int .u32 0, .int .u32 0, .int .u32 0, .int .u32 0, .int .u32 0, .int .u32 0, .int .u32 0, .int .u32 0, .int .u32 0, .int .u32 0, .int .u32 0, .int .u32 0, .int .u32 0, .int .u32 0, .int .u32 0, .int .u32 0, .int .u32 0, .int .u32 0, .int .u32 0, .int .u32 0, .int .u32 0, .int .u32 0, .int .u32 0, .int .u32 0, .int .u32 0, .int .u32 0, .int .u32 0, .int .u32 0, .int .u32 0, .int .u32 0, .int .u32 0, .int .u32 0, .int .u32 0, .int .u32 0, .int .u32 0, .int .u32 0, .int .u32 0, .int .u32 0, .int .u32 0, .int .u32 0, .int .u32 0, .int .u32 0, .int .u32 0, .int .u32 0, .int .u32 0, .int .u32 0] : Array Value) = (arrF .u32 64 (wP bl 0)) from kr] at H
  refine hK7 _ _ ?_
  clear hK7
  try clear K7
  refine C_seqK (fun K9 hK9 => ?_)
  refine C_seqK (fun K10 hK10 => ?_)
  refine C_region ?_
  refine T_k F H (ni 0) ?_
  clear F; intro a F
  refine wpList_nil ?_
  replace F : Fm 208 [] [(7, ni 0), (6, pt aq8 0), (5, pt aq6 0), (4, pt aq4 0), (3, pt aq3 0), (2, pt aq2 0)] a := F.weak _ (subL_of kr)
  replace H : Hp [] w [bk aq8 (arrF .u32 64 (wP bl 0)) 159, bk aq6 (arrF .u32 64 kF) 159, bk aq3 (arrF .u8 64 bl) 140, bk aq2 (arrF .u32 8 st) 144, bk aq4 #[.int .u32 0, .int .u32 0, .int .u32 0, .int .u32 0, .int .u32 0, .int .u32 0, .int .u32 0, .int .u32 0] 144] v := H.pick [0, 1, 3, 4, 2] kr _ rfl
  refine hK10 _ _ ?_
  clear hK10
  try clear K10
  refine wp_block ?_
  refine C_loop (fun m a v => ∃ k, k + m = 64 ∧ Fm 208 [] [(7, ni k), (6, pt aq8 0), (5, pt aq6 0), (4, pt aq4 0), (3, pt aq3 0), (2, pt aq2 0)] a ∧ Hp [] w [bk aq8 (arrF .u32 64 (wP bl k)) 159, bk aq6 (arrF .u32 64 kF) 159, bk aq3 (arrF .u8 64 bl) 140, bk aq2 (arrF .u32 8 st) 144, bk aq4 #[.int .u32 0, .int .u32 0, .int .u32 0, .int .u32 0, .int .u32 0, .int .u32 0, .int .u32 0, .int .u32 0] 144] v) (64) ⟨0, Nat.zero_add _, F, H⟩ ?_
  clear F H
  intro m a v ⟨k, hk, F, H⟩
  rcases m with _ | m
  rotate_left
  · skip
    have hb0 := hbl (4 * k)
    have hb1 := hbl (4 * k + 1)
    have hb2 := hbl (4 * k + 2)
    have hb3 := hbl (4 * k + 3)
    refine C_seqK (fun K11 hK11 => ?_)
    refine C_seqK (fun K12 hK12 => ?_)
    refine C_region ?_
    refine T_k F H (ni k) ?_
    clear F; intro a F
    refine T_val F H kr (.bool true) (fun w _ => R_bin (x := (.tmp 22)) (y := (.const (.int .i64 64))) rfl (k := .i64) (a := ((k : Nat) : Int)) (b := ((64 : Nat) : Int)) kr kr (i_lt (by omega)) w) ?_
    clear F; intro a F
    refine wpList_nil ?_
    refine hK12 _ _ ?_
    clear hK12
    try clear K12
    refine C_if F true rfl rfl ?_
    refine wp_skip ?_
    refine hK11 _ _ ?_
    clear hK11
    try clear K11
    refine C_seqK (fun K13 hK13 => ?_)
    refine wp_block ?_
    refine C_seqK (fun K14 hK14 => ?_)
    refine C_region ?_
    refine T_k F H (ni k) ?_
    clear F; intro a F
    refine T_val F H kr (.bool (decide (k < 16))) (fun w _ => R_bin (x := (.tmp 26)) (y := (.const (.int .i64 16))) rfl (k := .i64) (a := ((k : Nat) : Int)) (b := ((16 : Nat) : Int)) kr kr i_ltn w) ?_
    clear F; intro a F
    refine wpList_nil ?_
    refine hK14 _ _ ?_
    clear hK14
    try clear K14
    refine C_lastK (fun K15 hK15 => ?_)
    refine (fun (hN : ∀ a v, Fm 208 [] [(7, ni k), (6, pt aq8 0), (5, pt aq6 0), (4, pt aq4 0), (3, pt aq3 0), (2, pt aq2 0)] a → Hp [] w [bk aq8 (arrF .u32 64 (wP bl (k + 1))) 159, bk aq6 (arrF .u32 64 kF) 159, bk aq3 (arrF .u8 64 bl) 140, bk aq2 (arrF .u32 8 st) 144, bk aq4 #[.int .u32 0, .int .u32 0, .int .u32 0, .int .u32 0, .int .u32 0, .int .u32 0, .int .u32 0, .int .u32 0] 144] v → K15 a v) => ?_) (fun a v F H => hK15 _ _ ?_)
    · clear hK15
      by_cases hc : k < 16
      · rw [decide_eq_true hc] at F
        refine C_if F true rfl rfl ?_
        refine E_region F H (fun β => [(28, ni k), (29, ni k), (30, ni (4 * k)), (31, pt aq3 (0 + ((4 * k)) * 1)), (32, nb (bl ((4 * k)))), (33, nw (bl ((4 * k)))), (34, nw (((bl ((4 * k))) <<< (24)) % 4294967296)), (35, ni k), (36, ni (4 * k)), (37, ni ((4 * k) + 1)), (38, pt aq3 (0 + (((4 * k) + 1)) * 1)), (39, nb (bl (((4 * k) + 1)))), (40, nw (bl (((4 * k) + 1)))), (41, nw (((bl (((4 * k) + 1))) <<< (16)) % 4294967296)), (42, nw (((((bl ((4 * k))) <<< (24)) % 4294967296)) ||| ((((bl (((4 * k) + 1))) <<< (16)) % 4294967296)))), (43, ni k), (44, ni (4 * k)), (45, ni ((4 * k) + 2)), (46, pt aq3 (0 + (((4 * k) + 2)) * 1)), (47, nb (bl (((4 * k) + 2)))), (48, nw (bl (((4 * k) + 2)))), (49, nw (((bl (((4 * k) + 2))) <<< (8)) % 4294967296)), (50, nw (((((((bl ((4 * k))) <<< (24)) % 4294967296)) ||| ((((bl (((4 * k) + 1))) <<< (16)) % 4294967296)))) ||| ((((bl (((4 * k) + 2))) <<< (8)) % 4294967296)))), (51, ni k), (52, ni (4 * k)), (53, ni ((4 * k) + 3)), (54, pt aq3 (0 + (((4 * k) + 3)) * 1)), (55, nb (bl (((4 * k) + 3)))), (56, nw (bl (((4 * k) + 3)))), (57, nw (((((((((bl ((4 * k))) <<< (24)) % 4294967296)) ||| ((((bl (((4 * k) + 1))) <<< (16)) % 4294967296)))) ||| ((((bl (((4 * k) + 2))) <<< (8)) % 4294967296)))) ||| (bl (((4 * k) + 3))))), (58, pt aq8 (0 + (k) * 1))]) [28, 29, 30, 31, 32, 33, 34, 35, 36, 37, 38, 39, 40, 41, 42, 43, 44, 45, 46, 47, 48, 49, 50, 51, 52, 53, 54, 55, 56, 57, 58] [⟨none, none, aq8, [], fun q_ => ce (arrF .u32 64 (wP bl k)) 159, gT, [⟨31, [], fun q_ => ce (arrF .u32 64 (upd (wP bl k) (k) ((((((((((bl ((4 * k))) <<< (24)) % 4294967296)) ||| ((((bl (((4 * k) + 1))) <<< (16)) % 4294967296)))) ||| ((((bl (((4 * k) + 2))) <<< (8)) % 4294967296)))) ||| (bl (((4 * k) + 3))))))) 159, gT⟩]⟩] [bk aq6 (arrF .u32 64 kF) 159, bk aq3 (arrF .u8 64 bl) 140, bk aq2 (arrF .u32 8 st) 144, bk aq4 #[.int .u32 0, .int .u32 0, .int .u32 0, .int .u32 0, .int .u32 0, .int .u32 0, .int .u32 0, .int .u32 0] 144] [0, 1, 2, 3, 4] 2 [] kr kr kr (fun β => rfl) ⟨fun _ _ => trivial, trivial⟩ ⟨?_, ?_, ?_, ?_, ?_, ?_, ?_, ?_, ?_, ?_, ?_, ?_, ?_, ?_, ?_, ?_, ?_, ?_, ?_, ?_, ?_, ?_, ?_, ?_, ?_, ?_, ?_, ?_, ?_, ?_, ?_, ?_, trivial⟩ ?_
        · exact E_k 208 (fun β => ni k) 28 2
        · exact E_k 208 (fun β => ni k) 29 2
        · exact E_v 208 (fun β => ni (4 * k)) 30 2 [] (fun β w hk hl hq => R_bin (x := (.const (.int .i64 4))) (y := (.tmp 29)) rfl (k := .i64) (a := ((4 : Nat) : Int)) (b := ((k : Nat) : Int)) kr kr (i_muln64 (a := 4) (b := k) (by omega)) w)
        · exact E_v 208 (fun β => pt aq3 (0 + ((4 * k)) * 1)) 31 2 [] (fun β w hk hl hq => R_index (k := .i64) (g := aq3) (off := 0) (x := (.tmp 3)) (y := (.tmp 30)) rfl Tryd.underlying140 kr ((4 * k)) kr (by omega) (sz := 1) kr w)
        · exact E_v 208 (fun β => nb (bl ((4 * k)))) 32 2 [] (fun β w hk hl hq => R_cellH hl (own := true) (g := aq3) (all := (arrF .u8 64 bl)) (t := 140) (fr := (0, 0)) 1 kr 5 (.tmp 31) rfl (0 + ((4 * k)) * 1) kr (nb (bl ((4 * k)))) ((congrArg (fun q => ((arrF .u8 64 bl))[q]?) (show (0 + ((4 * k)) * 1) = (4 * k) by omega)).trans (arrF_get bl (by omega))) _ Tryd.underlying5 rfl)
        · exact E_v 208 (fun β => nw (bl ((4 * k)))) 33 2 [] (fun β w hk hl hq => R_conv (x := (.tmp 32)) rfl (k0 := .u8) kr kr (k := .u8) (a := ((bl ((4 * k)) : Nat) : Int)) kr (wru32 (a := bl ((4 * k))) (by omega)) w)
        · exact E_v 208 (fun β => nw (((bl ((4 * k))) <<< (24)) % 4294967296)) 34 2 [] (fun β w hk hl hq => R_shl (x := (.tmp 33)) (y := (.const (.int .u64 24))) rfl (k := .u32) (yk := .u64) (a := ((bl ((4 * k)) : Nat) : Int)) (b := ((24 : Nat) : Int)) kr kr (Int.natCast_nonneg _) (shl32_val (by omega)) w)
        · exact E_k 208 (fun β => ni k) 35 2
        · exact E_v 208 (fun β => ni (4 * k)) 36 2 [] (fun β w hk hl hq => R_bin (x := (.const (.int .i64 4))) (y := (.tmp 35)) rfl (k := .i64) (a := ((4 : Nat) : Int)) (b := ((k : Nat) : Int)) kr kr (i_muln64 (a := 4) (b := k) (by omega)) w)
        · exact E_v 208 (fun β => ni ((4 * k) + 1)) 37 2 [] (fun β w hk hl hq => R_bin (x := (.tmp 36)) (y := (.const (.int .i64 1))) rfl (k := .i64) (a := (((4 * k) : Nat) : Int)) (b := ((1 : Nat) : Int)) kr kr (i_addn64 (a := (4 * k)) (b := 1) (by omega)) w)
        · exact E_v 208 (fun β => pt aq3 (0 + (((4 * k) + 1)) * 1)) 38 2 [] (fun β w hk hl hq => R_index (k := .i64) (g := aq3) (off := 0) (x := (.tmp 3)) (y := (.tmp 37)) rfl Tryd.underlying140 kr (((4 * k) + 1)) kr (by omega) (sz := 1) kr w)
        · exact E_v 208 (fun β => nb (bl (((4 * k) + 1)))) 39 2 [] (fun β w hk hl hq => R_cellH hl (own := true) (g := aq3) (all := (arrF .u8 64 bl)) (t := 140) (fr := (0, 0)) 1 kr 5 (.tmp 38) rfl (0 + (((4 * k) + 1)) * 1) kr (nb (bl (((4 * k) + 1)))) ((congrArg (fun q => ((arrF .u8 64 bl))[q]?) (show (0 + (((4 * k) + 1)) * 1) = ((4 * k) + 1) by omega)).trans (arrF_get bl (by omega))) _ Tryd.underlying5 rfl)
        · exact E_v 208 (fun β => nw (bl (((4 * k) + 1)))) 40 2 [] (fun β w hk hl hq => R_conv (x := (.tmp 39)) rfl (k0 := .u8) kr kr (k := .u8) (a := ((bl (((4 * k) + 1)) : Nat) : Int)) kr (wru32 (a := bl (((4 * k) + 1))) (by omega)) w)
        · exact E_v 208 (fun β => nw (((bl (((4 * k) + 1))) <<< (16)) % 4294967296)) 41 2 [] (fun β w hk hl hq => R_shl (x := (.tmp 40)) (y := (.const (.int .u64 16))) rfl (k := .u32) (yk := .u64) (a := ((bl (((4 * k) + 1)) : Nat) : Int)) (b := ((16 : Nat) : Int)) kr kr (Int.natCast_nonneg _) (shl32_val (by omega)) w)
        · exact E_v 208 (fun β => nw (((((bl ((4 * k))) <<< (24)) % 4294967296)) ||| ((((bl (((4 * k) + 1))) <<< (16)) % 4294967296)))) 42 2 [] (fun β w hk hl hq => R_bin (x := (.tmp 34)) (y := (.tmp 41)) rfl (k := .u32) (a := (((((bl ((4 * k))) <<< (24)) % 4294967296) : Nat) : Int)) (b := (((((bl (((4 * k) + 1))) <<< (16)) % 4294967296) : Nat) : Int)) kr kr (i_or32 (a := (((bl ((4 * k))) <<< (24)) % 4294967296)) (b := (((bl (((4 * k) + 1))) <<< (16)) % 4294967296)) (Nat.mod_lt _ (by decide)) (Nat.mod_lt _ (by decide))) w)
        · exact E_k 208 (fun β => ni k) 43 2
        · exact E_v 208 (fun β => ni (4 * k)) 44 2 [] (fun β w hk hl hq => R_bin (x := (.const (.int .i64 4))) (y := (.tmp 43)) rfl (k := .i64) (a := ((4 : Nat) : Int)) (b := ((k : Nat) : Int)) kr kr (i_muln64 (a := 4) (b := k) (by omega)) w)
        · exact E_v 208 (fun β => ni ((4 * k) + 2)) 45 2 [] (fun β w hk hl hq => R_bin (x := (.tmp 44)) (y := (.const (.int .i64 2))) rfl (k := .i64) (a := (((4 * k) : Nat) : Int)) (b := ((2 : Nat) : Int)) kr kr (i_addn64 (a := (4 * k)) (b := 2) (by omega)) w)
        · exact E_v 208 (fun β => pt aq3 (0 + (((4 * k) + 2)) * 1)) 46 2 [] (fun β w hk hl hq => R_index (k := .i64) (g := aq3) (off := 0) (x := (.tmp 3)) (y := (.tmp 45)) rfl Tryd.underlying140 kr (((4 * k) + 2)) kr (by omega) (sz := 1) kr w)
        · exact E_v 208 (fun β => nb (bl (((4 * k) + 2)))) 47 2 [] (fun β w hk hl hq => R_cellH hl (own := true) (g := aq3) (all := (arrF .u8 64 bl)) (t := 140) (fr := (0, 0)) 1 kr 5 (.tmp 46) rfl (0 + (((4 * k) + 2)) * 1) kr (nb (bl (((4 * k) + 2)))) ((congrArg (fun q => ((arrF .u8 64 bl))[q]?) (show (0 + (((4 * k) + 2)) * 1) = ((4 * k) + 2) by omega)).trans (arrF_get bl (by omega))) _ Tryd.underlying5 rfl)
        · exact E_v 208 (fun β => nw (bl (((4 * k) + 2)))) 48 2 [] (fun β w hk hl hq => R_conv (x := (.tmp 47)) rfl (k0 := .u8) kr kr (k := .u8) (a := ((bl (((4 * k) + 2)) : Nat) : Int)) kr (wru32 (a := bl (((4 * k) + 2))) (by omega)) w)
        · exact E_v 208 (fun β => nw (((bl (((4 * k) + 2))) <<< (8)) % 4294967296)) 49 2 [] (fun β w hk hl hq => R_shl (x := (.tmp 48)) (y := (.const (.int .u64 8))) rfl (k := .u32) (yk := .u64) (a := ((bl (((4 * k) + 2)) : Nat) : Int)) (b := ((8 : Nat) : Int)) kr kr (Int.natCast_nonneg _) (shl32_val (by omega)) w)
        · exact E_v 208 (fun β => nw (((((((bl ((4 * k))) <<< (24)) % 4294967296)) ||| ((((bl (((4 * k) + 1))) <<< (16)) % 4294967296)))) ||| ((((bl (((4 * k) + 2))) <<< (8)) % 4294967296)))) 50 2 [] (fun β w hk hl hq => R_bin (x := (.tmp 42)) (y := (.tmp 49)) rfl (k := .u32) (a := (((((((bl ((4 * k))) <<< (24)) % 4294967296)) ||| ((((bl (((4 * k) + 1))) <<< (16)) % 4294967296))) : Nat) : Int)) (b := (((((bl (((4 * k) + 2))) <<< (8)) % 4294967296) : Nat) : Int)) kr kr (i_or32 (a := (((((bl ((4 * k))) <<< (24)) % 4294967296)) ||| ((((bl (((4 * k) + 1))) <<< (16)) % 4294967296)))) (b := (((bl (((4 * k) + 2))) <<< (8)) % 4294967296)) (Nat.or_lt_two_pow (n := 32) (Nat.mod_lt _ (by decide)) (Nat.mod_lt _ (by decide))) (Nat.mod_lt _ (by decide))) w)
        · exact E_k 208 (fun β => ni k) 51 2
        · exact E_v 208 (fun β => ni (4 * k)) 52 2 [] (fun β w hk hl hq => R_bin (x := (.const (.int .i64 4))) (y := (.tmp 51)) rfl (k := .i64) (a := ((4 : Nat) : Int)) (b := ((k : Nat) : Int)) kr kr (i_muln64 (a := 4) (b := k) (by omega)) w)
        · exact E_v 208 (fun β => ni ((4 * k) + 3)) 53 2 [] (fun β w hk hl hq => R_bin (x := (.tmp 52)) (y := (.const (.int .i64 3))) rfl (k := .i64) (a := (((4 * k) : Nat) : Int)) (b := ((3 : Nat) : Int)) kr kr (i_addn64 (a := (4 * k)) (b := 3) (by omega)) w)
        · exact E_v 208 (fun β => pt aq3 (0 + (((4 * k) + 3)) * 1)) 54 2 [] (fun β w hk hl hq => R_index (k := .i64) (g := aq3) (off := 0) (x := (.tmp 3)) (y := (.tmp 53)) rfl Tryd.underlying140 kr (((4 * k) + 3)) kr (by omega) (sz := 1) kr w)
        · exact E_v 208 (fun β => nb (bl (((4 * k) + 3)))) 55 2 [] (fun β w hk hl hq => R_cellH hl (own := true) (g := aq3) (all := (arrF .u8 64 bl)) (t := 140) (fr := (0, 0)) 1 kr 5 (.tmp 54) rfl (0 + (((4 * k) + 3)) * 1) kr (nb (bl (((4 * k) + 3)))) ((congrArg (fun q => ((arrF .u8 64 bl))[q]?) (show (0 + (((4 * k) + 3)) * 1) = ((4 * k) + 3) by omega)).trans (arrF_get bl (by omega))) _ Tryd.underlying5 rfl)
        · exact E_v 208 (fun β => nw (bl (((4 * k) + 3)))) 56 2 [] (fun β w hk hl hq => R_conv (x := (.tmp 55)) rfl (k0 := .u8) kr kr (k := .u8) (a := ((bl (((4 * k) + 3)) : Nat) : Int)) kr (wru32 (a := bl (((4 * k) + 3))) (by omega)) w)
        · exact E_v 208 (fun β => nw (((((((((bl ((4 * k))) <<< (24)) % 4294967296)) ||| ((((bl (((4 * k) + 1))) <<< (16)) % 4294967296)))) ||| ((((bl (((4 * k) + 2))) <<< (8)) % 4294967296)))) ||| (bl (((4 * k) + 3))))) 57 2 [] (fun β w hk hl hq => R_bin (x := (.tmp 50)) (y := (.tmp 56)) rfl (k := .u32) (a := (((((((((bl ((4 * k))) <<< (24)) % 4294967296)) ||| ((((bl (((4 * k) + 1))) <<< (16)) % 4294967296)))) ||| ((((bl (((4 * k) + 2))) <<< (8)) % 4294967296))) : Nat) : Int)) (b := ((bl (((4 * k) + 3)) : Nat) : Int)) kr kr (i_or32 (a := (((((((bl ((4 * k))) <<< (24)) % 4294967296)) ||| ((((bl (((4 * k) + 1))) <<< (16)) % 4294967296)))) ||| ((((bl (((4 * k) + 2))) <<< (8)) % 4294967296)))) (b := bl (((4 * k) + 3))) (Nat.or_lt_two_pow (n := 32) (Nat.or_lt_two_pow (n := 32) (Nat.mod_lt _ (by decide)) (Nat.mod_lt _ (by decide))) (Nat.mod_lt _ (by decide))) (by omega)) w)
        · exact E_v 208 (fun β => pt aq8 (0 + (k) * 1)) 58 2 [] (fun β w hk hl hq => R_index (k := .i64) (g := aq8) (off := 0) (x := (.tmp 6)) (y := (.tmp 28)) rfl Tryd.underlying159 kr (k) kr (by omega) (sz := 1) kr w)
        · exact E_store 208 kq rfl 2 [] 0 0 _ _ rfl rfl kr rfl (fun _ => trivial) (fun β w hk hl hq hm => let ⟨w', h1, h2, h3⟩ := P_cell (off := (0 + (k) * 1)) (old := (arrF .u32 64 (wP bl k))) (v := nw (((((((((bl ((4 * k))) <<< (24)) % 4294967296)) ||| ((((bl (((4 * k) + 1))) <<< (16)) % 4294967296)))) ||| ((((bl (((4 * k) + 2))) <<< (8)) % 4294967296)))) ||| (bl (((4 * k) + 3))))) (Z := ce (arrF .u32 64 (wP bl k)) 159) (R := ce (arrF .u32 64 (upd (wP bl k) (k) ((((((((((bl ((4 * k))) <<< (24)) % 4294967296)) ||| ((((bl (((4 * k) + 1))) <<< (16)) % 4294967296)))) ||| ((((bl (((4 * k) + 2))) <<< (8)) % 4294967296)))) ||| (bl (((4 * k) + 3))))))) 159) rfl (by rw [show (0 + (k) * 1) = k by omega, arrF_upd _ (by omega)]) (ty := 53) (x := (.tmp 58)) (y := (.tmp 57)) rfl kr kr rfl (by rw [arrF_size]; omega) Tryd.underlying53 rfl kr hm; ⟨w', h1, h2, h3⟩)
        clear F H; intro β a v Q F H
        replace H : Hp [] w [bk aq8 (arrF .u32 64 (upd (wP bl k) (k) ((((((((((bl ((4 * k))) <<< (24)) % 4294967296)) ||| ((((bl (((4 * k) + 1))) <<< (16)) % 4294967296)))) ||| ((((bl (((4 * k) + 2))) <<< (8)) % 4294967296)))) ||| (bl (((4 * k) + 3))))))) 159, bk aq6 (arrF .u32 64 kF) 159, bk aq3 (arrF .u8 64 bl) 140, bk aq2 (arrF .u32 8 st) 144, bk aq4 #[.int .u32 0, .int .u32 0, .int .u32 0, .int .u32 0, .int .u32 0, .int .u32 0, .int .u32 0, .int .u32 0] 144] v := H
        replace F : Fm 208 [] [(58, pt aq8 (0 + (k) * 1)), (57, nw (((((((((bl ((4 * k))) <<< (24)) % 4294967296)) ||| ((((bl (((4 * k) + 1))) <<< (16)) % 4294967296)))) ||| ((((bl (((4 * k) + 2))) <<< (8)) % 4294967296)))) ||| (bl (((4 * k) + 3))))), (56, nw (bl (((4 * k) + 3)))), (55, nb (bl (((4 * k) + 3)))), (54, pt aq3 (0 + (((4 * k) + 3)) * 1)), (53, ni ((4 * k) + 3)), (52, ni (4 * k)), (51, ni k), (50, nw (((((((bl ((4 * k))) <<< (24)) % 4294967296)) ||| ((((bl (((4 * k) + 1))) <<< (16)) % 4294967296)))) ||| ((((bl (((4 * k) + 2))) <<< (8)) % 4294967296)))), (49, nw (((bl (((4 * k) + 2))) <<< (8)) % 4294967296)), (48, nw (bl (((4 * k) + 2)))), (47, nb (bl (((4 * k) + 2)))), (46, pt aq3 (0 + (((4 * k) + 2)) * 1)), (45, ni ((4 * k) + 2)), (44, ni (4 * k)), (43, ni k), (42, nw (((((bl ((4 * k))) <<< (24)) % 4294967296)) ||| ((((bl (((4 * k) + 1))) <<< (16)) % 4294967296)))), (41, nw (((bl (((4 * k) + 1))) <<< (16)) % 4294967296)), (40, nw (bl (((4 * k) + 1)))), (39, nb (bl (((4 * k) + 1)))), (38, pt aq3 (0 + (((4 * k) + 1)) * 1)), (37, ni ((4 * k) + 1)), (36, ni (4 * k)), (35, ni k), (34, nw (((bl ((4 * k))) <<< (24)) % 4294967296)), (33, nw (bl ((4 * k)))), (32, nb (bl ((4 * k)))), (31, pt aq3 (0 + ((4 * k)) * 1)), (30, ni (4 * k)), (29, ni k), (28, ni k), (27, .bool true), (26, ni k), (23, .bool true), (22, ni k), (7, ni k), (6, pt aq8 0), (5, pt aq6 0), (4, pt aq4 0), (3, pt aq3 0), (2, pt aq2 0)] a := F.weak _ (subL_of kr)
        clear Q
        refine ?_
        rw [hi4 bl hbl k, wP_lo bl hc] at H
        replace H : Hp [] w [bk aq8 (arrF .u32 64 (wP bl (k + 1))) 159, bk aq6 (arrF .u32 64 kF) 159, bk aq3 (arrF .u8 64 bl) 140, bk aq2 (arrF .u32 8 st) 144, bk aq4 #[.int .u32 0, .int .u32 0, .int .u32 0, .int .u32 0, .int .u32 0, .int .u32 0, .int .u32 0, .int .u32 0] 144] v := H.pick [0, 1, 2, 3, 4] kr _ rfl
        exact hN _ _ (F.weak _ (subL_of kr)) H
      · rw [decide_eq_false hc] at F
        refine C_if F false rfl rfl ?_
        refine C_seqK (fun K16 hK16 => ?_)
        refine C_region ?_
        refine T_k F H (ni k) ?_
        clear F; intro a F
        refine T_val F H kr (ni (k - 15)) (fun w _ => R_bin (x := (.tmp 59)) (y := (.const (.int .i64 15))) rfl (k := .i64) (a := ((k : Nat) : Int)) (b := ((15 : Nat) : Int)) kr kr (i_subn64 (a := k) (b := 15) (by omega) (by omega)) w) ?_
        clear F; intro a F
        refine T_val F H kr (pt aq8 (0 + ((k - 15)) * 1)) (fun w _ => R_index (k := .i64) (g := aq8) (off := 0) (x := (.tmp 6)) (y := (.tmp 60)) rfl Tryd.underlying159 kr ((k - 15)) kr (by omega) (sz := 1) kr w) ?_
        clear F; intro a F
        refine T_val F H kr (nw ((wP bl k) ((k - 15)))) (R_cell (own := true) (g := aq8) (all := (arrF .u32 64 (wP bl k))) (t := 159) (fr := (0, 0)) 0 kr 53 (.tmp 61) rfl (0 + ((k - 15)) * 1) kr (nw ((wP bl k) ((k - 15)))) ((congrArg (fun q => ((arrF .u32 64 (wP bl k)))[q]?) (show (0 + ((k - 15)) * 1) = (k - 15) by omega)).trans (arrF_get (wP bl k) (by omega))) _ Tryd.underlying53 rfl) ?_
        clear F; intro a F
        refine T_k F H (nw ((wP bl k) ((k - 15)))) ?_
        clear F; intro a F
        refine wpList_nil ?_
        refine hK16 _ _ ?_
        clear hK16
        try clear K16
        refine C_seqK (fun K17 hK17 => ?_)
        refine C_region ?_
        refine T_k F H (ni k) ?_
        clear F; intro a F
        refine T_val F H kr (ni (k - 2)) (fun w _ => R_bin (x := (.tmp 63)) (y := (.const (.int .i64 2))) rfl (k := .i64) (a := ((k : Nat) : Int)) (b := ((2 : Nat) : Int)) kr kr (i_subn64 (a := k) (b := 2) (by omega) (by omega)) w) ?_
        clear F; intro a F
        refine T_val F H kr (pt aq8 (0 + ((k - 2)) * 1)) (fun w _ => R_index (k := .i64) (g := aq8) (off := 0) (x := (.tmp 6)) (y := (.tmp 64)) rfl Tryd.underlying159 kr ((k - 2)) kr (by omega) (sz := 1) kr w) ?_
        clear F; intro a F
        refine T_val F H kr (nw ((wP bl k) ((k - 2)))) (R_cell (own := true) (g := aq8) (all := (arrF .u32 64 (wP bl k))) (t := 159) (fr := (0, 0)) 0 kr 53 (.tmp 65) rfl (0 + ((k - 2)) * 1) kr (nw ((wP bl k) ((k - 2)))) ((congrArg (fun q => ((arrF .u32 64 (wP bl k)))[q]?) (show (0 + ((k - 2)) * 1) = (k - 2) by omega)).trans (arrF_get (wP bl k) (by omega))) _ Tryd.underlying53 rfl) ?_
        clear F; intro a F
        refine T_k F H (nw ((wP bl k) ((k - 2)))) ?_
        clear F; intro a F
        refine wpList_nil ?_
        refine hK17 _ _ ?_
        clear hK17
        try clear K17
        refine E_region F H (fun β => [(67, ni k), (68, ni k), (69, ni (k - 16)), (70, pt aq8 (0 + ((k - 16)) * 1)), (71, nw ((wP bl k) ((k - 16)))), (72, nw ((wP bl k) ((k - 15)))), (73, nw (rotr ((wP bl k) ((k - 15))) 7)), (74, nw ((wP bl k) ((k - 15)))), (75, nw (rotr ((wP bl k) ((k - 15))) 18)), (76, nw ((rotr ((wP bl k) ((k - 15))) 7) ^^^ (rotr ((wP bl k) ((k - 15))) 18))), (77, nw ((wP bl k) ((k - 15)))), (78, nw (((wP bl k) ((k - 15))) >>> 3)), (79, nw ((((rotr ((wP bl k) ((k - 15))) 7) ^^^ (rotr ((wP bl k) ((k - 15))) 18))) ^^^ ((((wP bl k) ((k - 15))) >>> 3)))), (80, nw (add32 ((wP bl k) ((k - 16))) (((((rotr ((wP bl k) ((k - 15))) 7) ^^^ (rotr ((wP bl k) ((k - 15))) 18))) ^^^ ((((wP bl k) ((k - 15))) >>> 3)))))), (81, ni k), (82, ni (k - 7)), (83, pt aq8 (0 + ((k - 7)) * 1)), (84, nw ((wP bl k) ((k - 7)))), (85, nw (add32 (add32 ((wP bl k) ((k - 16))) (((((rotr ((wP bl k) ((k - 15))) 7) ^^^ (rotr ((wP bl k) ((k - 15))) 18))) ^^^ ((((wP bl k) ((k - 15))) >>> 3))))) ((wP bl k) ((k - 7))))), (86, nw ((wP bl k) ((k - 2)))), (87, nw (rotr ((wP bl k) ((k - 2))) 17)), (88, nw ((wP bl k) ((k - 2)))), (89, nw (rotr ((wP bl k) ((k - 2))) 19)), (90, nw ((rotr ((wP bl k) ((k - 2))) 17) ^^^ (rotr ((wP bl k) ((k - 2))) 19))), (91, nw ((wP bl k) ((k - 2)))), (92, nw (((wP bl k) ((k - 2))) >>> 10)), (93, nw ((((rotr ((wP bl k) ((k - 2))) 17) ^^^ (rotr ((wP bl k) ((k - 2))) 19))) ^^^ ((((wP bl k) ((k - 2))) >>> 10)))), (94, nw (add32 (add32 (add32 ((wP bl k) ((k - 16))) (((((rotr ((wP bl k) ((k - 15))) 7) ^^^ (rotr ((wP bl k) ((k - 15))) 18))) ^^^ ((((wP bl k) ((k - 15))) >>> 3))))) ((wP bl k) ((k - 7)))) (((((rotr ((wP bl k) ((k - 2))) 17) ^^^ (rotr ((wP bl k) ((k - 2))) 19))) ^^^ ((((wP bl k) ((k - 2))) >>> 10)))))), (95, pt aq8 (0 + (k) * 1))]) [67, 68, 69, 70, 71, 72, 73, 74, 75, 76, 77, 78, 79, 80, 81, 82, 83, 84, 85, 86, 87, 88, 89, 90, 91, 92, 93, 94, 95] [⟨none, none, aq8, [], fun q_ => ce (arrF .u32 64 (wP bl k)) 159, gT, [⟨29, [], fun q_ => ce (arrF .u32 64 (upd (wP bl k) (k) (add32 (add32 (add32 ((wP bl k) ((k - 16))) (((((rotr ((wP bl k) ((k - 15))) 7) ^^^ (rotr ((wP bl k) ((k - 15))) 18))) ^^^ ((((wP bl k) ((k - 15))) >>> 3))))) ((wP bl k) ((k - 7)))) (((((rotr ((wP bl k) ((k - 2))) 17) ^^^ (rotr ((wP bl k) ((k - 2))) 19))) ^^^ ((((wP bl k) ((k - 2))) >>> 10))))))) 159, gT⟩]⟩] [bk aq6 (arrF .u32 64 kF) 159, bk aq3 (arrF .u8 64 bl) 140, bk aq2 (arrF .u32 8 st) 144, bk aq4 #[.int .u32 0, .int .u32 0, .int .u32 0, .int .u32 0, .int .u32 0, .int .u32 0, .int .u32 0, .int .u32 0] 144] [0, 1, 2, 3, 4] 2 [] kr kr kr (fun β => rfl) ⟨fun _ _ => trivial, trivial⟩ ⟨?_, ?_, ?_, ?_, ?_, ?_, ?_, ?_, ?_, ?_, ?_, ?_, ?_, ?_, ?_, ?_, ?_, ?_, ?_, ?_, ?_, ?_, ?_, ?_, ?_, ?_, ?_, ?_, ?_, ?_, trivial⟩ ?_
        · exact E_k 208 (fun β => ni k) 67 2
        · exact E_k 208 (fun β => ni k) 68 2
        · exact E_v 208 (fun β => ni (k - 16)) 69 2 [] (fun β w hk hl hq => R_bin (x := (.tmp 68)) (y := (.const (.int .i64 16))) rfl (k := .i64) (a := ((k : Nat) : Int)) (b := ((16 : Nat) : Int)) kr kr (i_subn64 (a := k) (b := 16) (by omega) (by omega)) w)
        · exact E_v 208 (fun β => pt aq8 (0 + ((k - 16)) * 1)) 70 2 [] (fun β w hk hl hq => R_index (k := .i64) (g := aq8) (off := 0) (x := (.tmp 6)) (y := (.tmp 69)) rfl Tryd.underlying159 kr ((k - 16)) kr (by omega) (sz := 1) kr w)
        · exact E_v 208 (fun β => nw ((wP bl k) ((k - 16)))) 71 2 [(0, 0)] (fun β w hk hl hq => R_cellH hl (own := true) (g := aq8) (all := (arrF .u32 64 (wP bl k))) (t := 159) (fr := (0, 0)) 0 kr 53 (.tmp 70) rfl (0 + ((k - 16)) * 1) kr (nw ((wP bl k) ((k - 16)))) ((congrArg (fun q => ((arrF .u32 64 (wP bl k)))[q]?) (show (0 + ((k - 16)) * 1) = (k - 16) by omega)).trans (arrF_get (wP bl k) (by omega))) _ Tryd.underlying53 rfl)
        · exact E_k 208 (fun β => nw ((wP bl k) ((k - 15)))) 72 2
        · exact E_call 208 kq (fun β => nw (rotr ((wP bl k) ((k - 15))) 7)) 73 rfl kq 119 (fun β => #[nw ((wP bl k) ((k - 15))), ni 7]) (fun β w => kr) 2 [] kr rfl (fun β w hk hl hq => turn_any ((wP bl k) ((k - 15))) 7 (wP_lt hbl k ((k - 15))) (by decide) (by decide) _)
        · exact E_k 208 (fun β => nw ((wP bl k) ((k - 15)))) 74 2
        · exact E_call 208 kq (fun β => nw (rotr ((wP bl k) ((k - 15))) 18)) 75 rfl kq 119 (fun β => #[nw ((wP bl k) ((k - 15))), ni 18]) (fun β w => kr) 2 [] kr rfl (fun β w hk hl hq => turn_any ((wP bl k) ((k - 15))) 18 (wP_lt hbl k ((k - 15))) (by decide) (by decide) _)
        · exact E_v 208 (fun β => nw ((rotr ((wP bl k) ((k - 15))) 7) ^^^ (rotr ((wP bl k) ((k - 15))) 18))) 76 2 [] (fun β w hk hl hq => R_bin (x := (.tmp 73)) (y := (.tmp 75)) rfl (k := .u32) (a := ((rotr ((wP bl k) ((k - 15))) 7 : Nat) : Int)) (b := ((rotr ((wP bl k) ((k - 15))) 18 : Nat) : Int)) kr kr (i_xor32 (a := rotr ((wP bl k) ((k - 15))) 7) (b := rotr ((wP bl k) ((k - 15))) 18) (rotr_lt (wP_lt hbl k ((k - 15)))) (rotr_lt (wP_lt hbl k ((k - 15))))) w)
        · exact E_k 208 (fun β => nw ((wP bl k) ((k - 15)))) 77 2
        · exact E_v 208 (fun β => nw (((wP bl k) ((k - 15))) >>> 3)) 78 2 [] (fun β w hk hl hq => R_bin (x := (.tmp 77)) (y := (.const (.int .u32 8))) rfl (k := .u32) (a := (((wP bl k) ((k - 15)) : Nat) : Int)) (b := ((8 : Nat) : Int)) kr kr ((i_quou32 (by decide) (wP_lt hbl k ((k - 15)))).trans (congrArg (fun q : Nat => some (Value.int .u32 (q : Int))) (Nat.shiftRight_eq_div_pow _ 3).symm)) w)
        · exact E_v 208 (fun β => nw ((((rotr ((wP bl k) ((k - 15))) 7) ^^^ (rotr ((wP bl k) ((k - 15))) 18))) ^^^ ((((wP bl k) ((k - 15))) >>> 3)))) 79 2 [] (fun β w hk hl hq => R_bin (x := (.tmp 76)) (y := (.tmp 78)) rfl (k := .u32) (a := ((((rotr ((wP bl k) ((k - 15))) 7) ^^^ (rotr ((wP bl k) ((k - 15))) 18)) : Nat) : Int)) (b := (((((wP bl k) ((k - 15))) >>> 3) : Nat) : Int)) kr kr (i_xor32 (a := ((rotr ((wP bl k) ((k - 15))) 7) ^^^ (rotr ((wP bl k) ((k - 15))) 18))) (b := (((wP bl k) ((k - 15))) >>> 3)) (xor32 (rotr_lt (wP_lt hbl k ((k - 15)))) (rotr_lt (wP_lt hbl k ((k - 15))))) (shr32 (wP_lt hbl k ((k - 15))))) w)
        · exact E_v 208 (fun β => nw (add32 ((wP bl k) ((k - 16))) (((((rotr ((wP bl k) ((k - 15))) 7) ^^^ (rotr ((wP bl k) ((k - 15))) 18))) ^^^ ((((wP bl k) ((k - 15))) >>> 3)))))) 80 2 [] (fun β w hk hl hq => R_bin (x := (.tmp 71)) (y := (.tmp 79)) rfl (k := .u32) (a := (((wP bl k) ((k - 16)) : Nat) : Int)) (b := ((((((rotr ((wP bl k) ((k - 15))) 7) ^^^ (rotr ((wP bl k) ((k - 15))) 18))) ^^^ ((((wP bl k) ((k - 15))) >>> 3))) : Nat) : Int)) kr kr (i_add32 (a := (wP bl k) ((k - 16))) (b := ((((rotr ((wP bl k) ((k - 15))) 7) ^^^ (rotr ((wP bl k) ((k - 15))) 18))) ^^^ ((((wP bl k) ((k - 15))) >>> 3))))) w)
        · exact E_k 208 (fun β => ni k) 81 2
        · exact E_v 208 (fun β => ni (k - 7)) 82 2 [] (fun β w hk hl hq => R_bin (x := (.tmp 81)) (y := (.const (.int .i64 7))) rfl (k := .i64) (a := ((k : Nat) : Int)) (b := ((7 : Nat) : Int)) kr kr (i_subn64 (a := k) (b := 7) (by omega) (by omega)) w)
        · exact E_v 208 (fun β => pt aq8 (0 + ((k - 7)) * 1)) 83 2 [] (fun β w hk hl hq => R_index (k := .i64) (g := aq8) (off := 0) (x := (.tmp 6)) (y := (.tmp 82)) rfl Tryd.underlying159 kr ((k - 7)) kr (by omega) (sz := 1) kr w)
        · exact E_v 208 (fun β => nw ((wP bl k) ((k - 7)))) 84 2 [(0, 0)] (fun β w hk hl hq => R_cellH hl (own := true) (g := aq8) (all := (arrF .u32 64 (wP bl k))) (t := 159) (fr := (0, 0)) 0 kr 53 (.tmp 83) rfl (0 + ((k - 7)) * 1) kr (nw ((wP bl k) ((k - 7)))) ((congrArg (fun q => ((arrF .u32 64 (wP bl k)))[q]?) (show (0 + ((k - 7)) * 1) = (k - 7) by omega)).trans (arrF_get (wP bl k) (by omega))) _ Tryd.underlying53 rfl)
        · exact E_v 208 (fun β => nw (add32 (add32 ((wP bl k) ((k - 16))) (((((rotr ((wP bl k) ((k - 15))) 7) ^^^ (rotr ((wP bl k) ((k - 15))) 18))) ^^^ ((((wP bl k) ((k - 15))) >>> 3))))) ((wP bl k) ((k - 7))))) 85 2 [] (fun β w hk hl hq => R_bin (x := (.tmp 80)) (y := (.tmp 84)) rfl (k := .u32) (a := ((add32 ((wP bl k) ((k - 16))) (((((rotr ((wP bl k) ((k - 15))) 7) ^^^ (rotr ((wP bl k) ((k - 15))) 18))) ^^^ ((((wP bl k) ((k - 15))) >>> 3)))) : Nat) : Int)) (b := (((wP bl k) ((k - 7)) : Nat) : Int)) kr kr (i_add32 (a := add32 ((wP bl k) ((k - 16))) (((((rotr ((wP bl k) ((k - 15))) 7) ^^^ (rotr ((wP bl k) ((k - 15))) 18))) ^^^ ((((wP bl k) ((k - 15))) >>> 3))))) (b := (wP bl k) ((k - 7)))) w)
        · exact E_k 208 (fun β => nw ((wP bl k) ((k - 2)))) 86 2
        · exact E_call 208 kq (fun β => nw (rotr ((wP bl k) ((k - 2))) 17)) 87 rfl kq 119 (fun β => #[nw ((wP bl k) ((k - 2))), ni 17]) (fun β w => kr) 2 [] kr rfl (fun β w hk hl hq => turn_any ((wP bl k) ((k - 2))) 17 (wP_lt hbl k ((k - 2))) (by decide) (by decide) _)
        · exact E_k 208 (fun β => nw ((wP bl k) ((k - 2)))) 88 2
        · exact E_call 208 kq (fun β => nw (rotr ((wP bl k) ((k - 2))) 19)) 89 rfl kq 119 (fun β => #[nw ((wP bl k) ((k - 2))), ni 19]) (fun β w => kr) 2 [] kr rfl (fun β w hk hl hq => turn_any ((wP bl k) ((k - 2))) 19 (wP_lt hbl k ((k - 2))) (by decide) (by decide) _)
        · exact E_v 208 (fun β => nw ((rotr ((wP bl k) ((k - 2))) 17) ^^^ (rotr ((wP bl k) ((k - 2))) 19))) 90 2 [] (fun β w hk hl hq => R_bin (x := (.tmp 87)) (y := (.tmp 89)) rfl (k := .u32) (a := ((rotr ((wP bl k) ((k - 2))) 17 : Nat) : Int)) (b := ((rotr ((wP bl k) ((k - 2))) 19 : Nat) : Int)) kr kr (i_xor32 (a := rotr ((wP bl k) ((k - 2))) 17) (b := rotr ((wP bl k) ((k - 2))) 19) (rotr_lt (wP_lt hbl k ((k - 2)))) (rotr_lt (wP_lt hbl k ((k - 2))))) w)
        · exact E_k 208 (fun β => nw ((wP bl k) ((k - 2)))) 91 2
        · exact E_v 208 (fun β => nw (((wP bl k) ((k - 2))) >>> 10)) 92 2 [] (fun β w hk hl hq => R_bin (x := (.tmp 91)) (y := (.const (.int .u32 1024))) rfl (k := .u32) (a := (((wP bl k) ((k - 2)) : Nat) : Int)) (b := ((1024 : Nat) : Int)) kr kr ((i_quou32 (by decide) (wP_lt hbl k ((k - 2)))).trans (congrArg (fun q : Nat => some (Value.int .u32 (q : Int))) (Nat.shiftRight_eq_div_pow _ 10).symm)) w)
        · exact E_v 208 (fun β => nw ((((rotr ((wP bl k) ((k - 2))) 17) ^^^ (rotr ((wP bl k) ((k - 2))) 19))) ^^^ ((((wP bl k) ((k - 2))) >>> 10)))) 93 2 [] (fun β w hk hl hq => R_bin (x := (.tmp 90)) (y := (.tmp 92)) rfl (k := .u32) (a := ((((rotr ((wP bl k) ((k - 2))) 17) ^^^ (rotr ((wP bl k) ((k - 2))) 19)) : Nat) : Int)) (b := (((((wP bl k) ((k - 2))) >>> 10) : Nat) : Int)) kr kr (i_xor32 (a := ((rotr ((wP bl k) ((k - 2))) 17) ^^^ (rotr ((wP bl k) ((k - 2))) 19))) (b := (((wP bl k) ((k - 2))) >>> 10)) (xor32 (rotr_lt (wP_lt hbl k ((k - 2)))) (rotr_lt (wP_lt hbl k ((k - 2))))) (shr32 (wP_lt hbl k ((k - 2))))) w)
        · exact E_v 208 (fun β => nw (add32 (add32 (add32 ((wP bl k) ((k - 16))) (((((rotr ((wP bl k) ((k - 15))) 7) ^^^ (rotr ((wP bl k) ((k - 15))) 18))) ^^^ ((((wP bl k) ((k - 15))) >>> 3))))) ((wP bl k) ((k - 7)))) (((((rotr ((wP bl k) ((k - 2))) 17) ^^^ (rotr ((wP bl k) ((k - 2))) 19))) ^^^ ((((wP bl k) ((k - 2))) >>> 10)))))) 94 2 [] (fun β w hk hl hq => R_bin (x := (.tmp 85)) (y := (.tmp 93)) rfl (k := .u32) (a := ((add32 (add32 ((wP bl k) ((k - 16))) (((((rotr ((wP bl k) ((k - 15))) 7) ^^^ (rotr ((wP bl k) ((k - 15))) 18))) ^^^ ((((wP bl k) ((k - 15))) >>> 3))))) ((wP bl k) ((k - 7))) : Nat) : Int)) (b := ((((((rotr ((wP bl k) ((k - 2))) 17) ^^^ (rotr ((wP bl k) ((k - 2))) 19))) ^^^ ((((wP bl k) ((k - 2))) >>> 10))) : Nat) : Int)) kr kr (i_add32 (a := add32 (add32 ((wP bl k) ((k - 16))) (((((rotr ((wP bl k) ((k - 15))) 7) ^^^ (rotr ((wP bl k) ((k - 15))) 18))) ^^^ ((((wP bl k) ((k - 15))) >>> 3))))) ((wP bl k) ((k - 7)))) (b := ((((rotr ((wP bl k) ((k - 2))) 17) ^^^ (rotr ((wP bl k) ((k - 2))) 19))) ^^^ ((((wP bl k) ((k - 2))) >>> 10))))) w)
        · exact E_v 208 (fun β => pt aq8 (0 + (k) * 1)) 95 2 [] (fun β w hk hl hq => R_index (k := .i64) (g := aq8) (off := 0) (x := (.tmp 6)) (y := (.tmp 67)) rfl Tryd.underlying159 kr (k) kr (by omega) (sz := 1) kr w)
        · exact E_store 208 kq rfl 2 [] 0 0 _ _ rfl rfl kr rfl (fun _ => trivial) (fun β w hk hl hq hm => let ⟨w', h1, h2, h3⟩ := P_cell (off := (0 + (k) * 1)) (old := (arrF .u32 64 (wP bl k))) (v := nw (add32 (add32 (add32 ((wP bl k) ((k - 16))) (((((rotr ((wP bl k) ((k - 15))) 7) ^^^ (rotr ((wP bl k) ((k - 15))) 18))) ^^^ ((((wP bl k) ((k - 15))) >>> 3))))) ((wP bl k) ((k - 7)))) (((((rotr ((wP bl k) ((k - 2))) 17) ^^^ (rotr ((wP bl k) ((k - 2))) 19))) ^^^ ((((wP bl k) ((k - 2))) >>> 10)))))) (Z := ce (arrF .u32 64 (wP bl k)) 159) (R := ce (arrF .u32 64 (upd (wP bl k) (k) (add32 (add32 (add32 ((wP bl k) ((k - 16))) (((((rotr ((wP bl k) ((k - 15))) 7) ^^^ (rotr ((wP bl k) ((k - 15))) 18))) ^^^ ((((wP bl k) ((k - 15))) >>> 3))))) ((wP bl k) ((k - 7)))) (((((rotr ((wP bl k) ((k - 2))) 17) ^^^ (rotr ((wP bl k) ((k - 2))) 19))) ^^^ ((((wP bl k) ((k - 2))) >>> 10))))))) 159) rfl (by rw [show (0 + (k) * 1) = k by omega, arrF_upd _ (by omega)]) (ty := 53) (x := (.tmp 95)) (y := (.tmp 94)) rfl kr kr rfl (by rw [arrF_size]; omega) Tryd.underlying53 rfl kr hm; ⟨w', h1, h2, h3⟩)
        clear F H; intro β a v Q F H
        replace H : Hp [] w [bk aq8 (arrF .u32 64 (upd (wP bl k) (k) (add32 (add32 (add32 ((wP bl k) ((k - 16))) (((((rotr ((wP bl k) ((k - 15))) 7) ^^^ (rotr ((wP bl k) ((k - 15))) 18))) ^^^ ((((wP bl k) ((k - 15))) >>> 3))))) ((wP bl k) ((k - 7)))) (((((rotr ((wP bl k) ((k - 2))) 17) ^^^ (rotr ((wP bl k) ((k - 2))) 19))) ^^^ ((((wP bl k) ((k - 2))) >>> 10))))))) 159, bk aq6 (arrF .u32 64 kF) 159, bk aq3 (arrF .u8 64 bl) 140, bk aq2 (arrF .u32 8 st) 144, bk aq4 #[.int .u32 0, .int .u32 0, .int .u32 0, .int .u32 0, .int .u32 0, .int .u32 0, .int .u32 0, .int .u32 0] 144] v := H
        replace F : Fm 208 [] [(95, pt aq8 (0 + (k) * 1)), (94, nw (add32 (add32 (add32 ((wP bl k) ((k - 16))) (((((rotr ((wP bl k) ((k - 15))) 7) ^^^ (rotr ((wP bl k) ((k - 15))) 18))) ^^^ ((((wP bl k) ((k - 15))) >>> 3))))) ((wP bl k) ((k - 7)))) (((((rotr ((wP bl k) ((k - 2))) 17) ^^^ (rotr ((wP bl k) ((k - 2))) 19))) ^^^ ((((wP bl k) ((k - 2))) >>> 10)))))), (93, nw ((((rotr ((wP bl k) ((k - 2))) 17) ^^^ (rotr ((wP bl k) ((k - 2))) 19))) ^^^ ((((wP bl k) ((k - 2))) >>> 10)))), (92, nw (((wP bl k) ((k - 2))) >>> 10)), (91, nw ((wP bl k) ((k - 2)))), (90, nw ((rotr ((wP bl k) ((k - 2))) 17) ^^^ (rotr ((wP bl k) ((k - 2))) 19))), (89, nw (rotr ((wP bl k) ((k - 2))) 19)), (88, nw ((wP bl k) ((k - 2)))), (87, nw (rotr ((wP bl k) ((k - 2))) 17)), (86, nw ((wP bl k) ((k - 2)))), (85, nw (add32 (add32 ((wP bl k) ((k - 16))) (((((rotr ((wP bl k) ((k - 15))) 7) ^^^ (rotr ((wP bl k) ((k - 15))) 18))) ^^^ ((((wP bl k) ((k - 15))) >>> 3))))) ((wP bl k) ((k - 7))))), (84, nw ((wP bl k) ((k - 7)))), (83, pt aq8 (0 + ((k - 7)) * 1)), (82, ni (k - 7)), (81, ni k), (80, nw (add32 ((wP bl k) ((k - 16))) (((((rotr ((wP bl k) ((k - 15))) 7) ^^^ (rotr ((wP bl k) ((k - 15))) 18))) ^^^ ((((wP bl k) ((k - 15))) >>> 3)))))), (79, nw ((((rotr ((wP bl k) ((k - 15))) 7) ^^^ (rotr ((wP bl k) ((k - 15))) 18))) ^^^ ((((wP bl k) ((k - 15))) >>> 3)))), (78, nw (((wP bl k) ((k - 15))) >>> 3)), (77, nw ((wP bl k) ((k - 15)))), (76, nw ((rotr ((wP bl k) ((k - 15))) 7) ^^^ (rotr ((wP bl k) ((k - 15))) 18))), (75, nw (rotr ((wP bl k) ((k - 15))) 18)), (74, nw ((wP bl k) ((k - 15)))), (73, nw (rotr ((wP bl k) ((k - 15))) 7)), (72, nw ((wP bl k) ((k - 15)))), (71, nw ((wP bl k) ((k - 16)))), (70, pt aq8 (0 + ((k - 16)) * 1)), (69, ni (k - 16)), (68, ni k), (67, ni k), (9, nw ((wP bl k) ((k - 2)))), (66, nw ((wP bl k) ((k - 2)))), (65, pt aq8 (0 + ((k - 2)) * 1)), (64, ni (k - 2)), (63, ni k), (8, nw ((wP bl k) ((k - 15)))), (62, nw ((wP bl k) ((k - 15)))), (61, pt aq8 (0 + ((k - 15)) * 1)), (60, ni (k - 15)), (59, ni k), (27, .bool false), (26, ni k), (23, .bool true), (22, ni k), (7, ni k), (6, pt aq8 0), (5, pt aq6 0), (4, pt aq4 0), (3, pt aq3 0), (2, pt aq2 0)] a := F.weak _ (subL_of kr)
        clear Q
        refine ?_
        rw [show (upd (wP bl k) (k) (add32 (add32 (add32 ((wP bl k) ((k - 16))) (((((rotr ((wP bl k) ((k - 15))) 7) ^^^ (rotr ((wP bl k) ((k - 15))) 18))) ^^^ ((((wP bl k) ((k - 15))) >>> 3))))) ((wP bl k) ((k - 7)))) (((((rotr ((wP bl k) ((k - 2))) 17) ^^^ (rotr ((wP bl k) ((k - 2))) 19))) ^^^ ((((wP bl k) ((k - 2))) >>> 10)))))) = wP bl (k + 1) from wP_hi2 bl (by omega) (by omega) rfl] at H
        replace H : Hp [] w [bk aq8 (arrF .u32 64 (wP bl (k + 1))) 159, bk aq6 (arrF .u32 64 kF) 159, bk aq3 (arrF .u8 64 bl) 140, bk aq2 (arrF .u32 8 st) 144, bk aq4 #[.int .u32 0, .int .u32 0, .int .u32 0, .int .u32 0, .int .u32 0, .int .u32 0, .int .u32 0, .int .u32 0] 144] v := H.pick [0, 1, 2, 3, 4] kr _ rfl
        exact hN _ _ (F.weak _ (subL_of kr)) H
    clear hK15
    try clear K15
    refine hK13 _ _ ?_
    clear hK13
    try clear K13
    refine C_region ?_
    refine T_k F H (ni k) ?_
    clear F; intro a F
    refine T_val F H kr (ni (k + 1)) (fun w _ => R_bin (x := (.tmp 24)) (y := (.const (.int .i64 1))) rfl (k := .i64) (a := ((k : Nat) : Int)) (b := ((1 : Nat) : Int)) kr kr (i_addn64 (a := k) (b := 1) (by omega)) w) ?_
    clear F; intro a F
    refine T_k F H (ni (k + 1)) ?_
    clear F; intro a F
    refine wpList_nil ?_
    replace F : Fm 208 [] [(7, ni (k + 1)), (6, pt aq8 0), (5, pt aq6 0), (4, pt aq4 0), (3, pt aq3 0), (2, pt aq2 0)] a := F.weak _ (subL_of kr)
    replace H : Hp [] w [bk aq8 (arrF .u32 64 (wP bl (k + 1))) 159, bk aq6 (arrF .u32 64 kF) 159, bk aq3 (arrF .u8 64 bl) 140, bk aq2 (arrF .u32 8 st) 144, bk aq4 #[.int .u32 0, .int .u32 0, .int .u32 0, .int .u32 0, .int .u32 0, .int .u32 0, .int .u32 0, .int .u32 0] 144] v := H
    exact ⟨m, Nat.lt_succ_self m, k + 1, by omega, F, H⟩
  have hkt : k = 64 := by omega
  try rw [hkt] at F
  try rw [hkt] at H
  clear hk
  refine C_seqK (fun K18 hK18 => ?_)
  refine C_seqK (fun K19 hK19 => ?_)
  refine C_region ?_
  refine T_k F H (ni 64) ?_
  clear F; intro a F
  refine T_val F H kr (.bool false) (fun w _ => R_bin (x := (.tmp 22)) (y := (.const (.int .i64 64))) rfl (k := .i64) (a := ((64 : Nat) : Int)) (b := ((64 : Nat) : Int)) kr kr (i_nlt (by omega)) w) ?_
  clear F; intro a F
  refine wpList_nil ?_
  refine hK19 _ _ ?_
  clear hK19
  try clear K19
  refine C_if F false rfl rfl ?_
  refine wp_exit ?_
  refine hK9 _ _ ?_
  clear hK9
  try clear K9
  refine C_seqK (fun K20 hK20 => ?_)
  rw [show arrF .u32 64 (wP bl 64) = arrF .u32 64 (wF bl) from wP_all bl] at H
  refine C_region ?_
  refine T_k F H (pt aq2 0) ?_
  clear F; intro a F
  refine T_val F H kr (nw (st 0)) (R_cell (own := true) (g := aq2) (all := (arrF .u32 8 st)) (t := 144) (fr := (0, 0)) 3 kr 53 (.tmp 96) rfl 0 kr (nw (st 0)) kr _ Tryd.underlying53 rfl) ?_
  clear F; intro a F
  refine T_k F H (nw (st 0)) ?_
  clear F; intro a F
  refine wpList_nil ?_
  refine hK20 _ _ ?_
  clear hK20
  try clear K20
  refine C_seqK (fun K21 hK21 => ?_)
  refine C_region ?_
  refine T_k F H (pt aq2 1) ?_
  clear F; intro a F
  refine T_val F H kr (nw (st 1)) (R_cell (own := true) (g := aq2) (all := (arrF .u32 8 st)) (t := 144) (fr := (0, 0)) 3 kr 53 (.tmp 98) rfl 1 kr (nw (st 1)) kr _ Tryd.underlying53 rfl) ?_
  clear F; intro a F
  refine T_k F H (nw (st 1)) ?_
  clear F; intro a F
  refine wpList_nil ?_
  refine hK21 _ _ ?_
  clear hK21
  try clear K21
  refine C_seqK (fun K22 hK22 => ?_)
  refine C_region ?_
  refine T_k F H (pt aq2 2) ?_
  clear F; intro a F
  refine T_val F H kr (nw (st 2)) (R_cell (own := true) (g := aq2) (all := (arrF .u32 8 st)) (t := 144) (fr := (0, 0)) 3 kr 53 (.tmp 100) rfl 2 kr (nw (st 2)) kr _ Tryd.underlying53 rfl) ?_
  clear F; intro a F
  refine T_k F H (nw (st 2)) ?_
  clear F; intro a F
  refine wpList_nil ?_
  refine hK22 _ _ ?_
  clear hK22
  try clear K22
  refine C_seqK (fun K23 hK23 => ?_)
  refine C_region ?_
  refine T_k F H (pt aq2 3) ?_
  clear F; intro a F
  refine T_val F H kr (nw (st 3)) (R_cell (own := true) (g := aq2) (all := (arrF .u32 8 st)) (t := 144) (fr := (0, 0)) 3 kr 53 (.tmp 102) rfl 3 kr (nw (st 3)) kr _ Tryd.underlying53 rfl) ?_
  clear F; intro a F
  refine T_k F H (nw (st 3)) ?_
  clear F; intro a F
  refine wpList_nil ?_
  refine hK23 _ _ ?_
  clear hK23
  try clear K23
  refine C_seqK (fun K24 hK24 => ?_)
  refine C_region ?_
  refine T_k F H (pt aq2 4) ?_
  clear F; intro a F
  refine T_val F H kr (nw (st 4)) (R_cell (own := true) (g := aq2) (all := (arrF .u32 8 st)) (t := 144) (fr := (0, 0)) 3 kr 53 (.tmp 104) rfl 4 kr (nw (st 4)) kr _ Tryd.underlying53 rfl) ?_
  clear F; intro a F
  refine T_k F H (nw (st 4)) ?_
  clear F; intro a F
  refine wpList_nil ?_
  refine hK24 _ _ ?_
  clear hK24
  try clear K24
  refine C_seqK (fun K25 hK25 => ?_)
  refine C_region ?_
  refine T_k F H (pt aq2 5) ?_
  clear F; intro a F
  refine T_val F H kr (nw (st 5)) (R_cell (own := true) (g := aq2) (all := (arrF .u32 8 st)) (t := 144) (fr := (0, 0)) 3 kr 53 (.tmp 106) rfl 5 kr (nw (st 5)) kr _ Tryd.underlying53 rfl) ?_
  clear F; intro a F
  refine T_k F H (nw (st 5)) ?_
  clear F; intro a F
  refine wpList_nil ?_
  refine hK25 _ _ ?_
  clear hK25
  try clear K25
  refine C_seqK (fun K26 hK26 => ?_)
  refine C_region ?_
  refine T_k F H (pt aq2 6) ?_
  clear F; intro a F
  refine T_val F H kr (nw (st 6)) (R_cell (own := true) (g := aq2) (all := (arrF .u32 8 st)) (t := 144) (fr := (0, 0)) 3 kr 53 (.tmp 108) rfl 6 kr (nw (st 6)) kr _ Tryd.underlying53 rfl) ?_
  clear F; intro a F
  refine T_k F H (nw (st 6)) ?_
  clear F; intro a F
  refine wpList_nil ?_
  refine hK26 _ _ ?_
  clear hK26
  try clear K26
  refine C_seqK (fun K27 hK27 => ?_)
  refine C_region ?_
  refine T_k F H (pt aq2 7) ?_
  clear F; intro a F
  refine T_val F H kr (nw (st 7)) (R_cell (own := true) (g := aq2) (all := (arrF .u32 8 st)) (t := 144) (fr := (0, 0)) 3 kr 53 (.tmp 110) rfl 7 kr (nw (st 7)) kr _ Tryd.underlying53 rfl) ?_
  clear F; intro a F
  refine T_k F H (nw (st 7)) ?_
  clear F; intro a F
  refine wpList_nil ?_
  refine hK27 _ _ ?_
  clear hK27
  try clear K27
  refine C_seqK (fun K28 hK28 => ?_)
  refine C_seqK (fun K29 hK29 => ?_)
  refine C_region ?_
  refine T_k F H (ni 0) ?_
  clear F; intro a F
  refine wpList_nil ?_
  replace F : Fm 208 [] [(18, ni 0), (10, nw (st 0)), (11, nw (st 1)), (12, nw (st 2)), (13, nw (st 3)), (14, nw (st 4)), (15, nw (st 5)), (16, nw (st 6)), (17, nw (st 7)), (5, pt aq6 0), (6, pt aq8 0), (4, pt aq4 0), (2, pt aq2 0)] a := F.weak _ (subL_of kr)
  refine hK29 _ _ ?_
  clear hK29
  try clear K29
  refine wp_block ?_
  refine C_loop (fun m a v => ∃ k, k + m = 64 ∧ Fm 208 [] [(18, ni k), (10, nw (rnds bl st k 0)), (11, nw (rnds bl st k 1)), (12, nw (rnds bl st k 2)), (13, nw (rnds bl st k 3)), (14, nw (rnds bl st k 4)), (15, nw (rnds bl st k 5)), (16, nw (rnds bl st k 6)), (17, nw (rnds bl st k 7)), (5, pt aq6 0), (6, pt aq8 0), (4, pt aq4 0), (2, pt aq2 0)] a ∧ Hp [] w [bk aq8 (arrF .u32 64 (wF bl)) 159, bk aq6 (arrF .u32 64 kF) 159, bk aq3 (arrF .u8 64 bl) 140, bk aq2 (arrF .u32 8 st) 144, bk aq4 #[.int .u32 0, .int .u32 0, .int .u32 0, .int .u32 0, .int .u32 0, .int .u32 0, .int .u32 0, .int .u32 0] 144] v) (64) ⟨0, Nat.zero_add _, F, H⟩ ?_
  clear F H
  intro m a v ⟨k, hk, F, H⟩
  rcases m with _ | m
  rotate_left
  · skip
    have hs := rnds_lt (bl := bl) hst k
    generalize hS : rnds bl st k = s at F hs
    refine C_seqK (fun K30 hK30 => ?_)
    refine C_seqK (fun K31 hK31 => ?_)
    refine C_region ?_
    refine T_k F H (ni k) ?_
    clear F; intro a F
    refine T_val F H kr (.bool true) (fun w _ => R_bin (x := (.tmp 112)) (y := (.const (.int .i64 64))) rfl (k := .i64) (a := ((k : Nat) : Int)) (b := ((64 : Nat) : Int)) kr kr (i_lt (by omega)) w) ?_
    clear F; intro a F
    refine wpList_nil ?_
    refine hK31 _ _ ?_
    clear hK31
    try clear K31
    refine C_if F true rfl rfl ?_
    refine wp_skip ?_
    refine hK30 _ _ ?_
    clear hK30
    try clear K30
    refine C_seqK (fun K32 hK32 => ?_)
    refine wp_block ?_
    refine C_seqK (fun K33 hK33 => ?_)
    refine E_region F H (fun β => [(116, nw (s 7)), (117, nw (s 4)), (118, nw (rotr (s 4) 6)), (119, nw (s 4)), (120, nw (rotr (s 4) 11)), (121, nw ((rotr (s 4) 6) ^^^ (rotr (s 4) 11))), (122, nw (s 4)), (123, nw (rotr (s 4) 25)), (124, nw ((((rotr (s 4) 6) ^^^ (rotr (s 4) 11))) ^^^ (rotr (s 4) 25))), (125, nw (add32 (s 7) (((((rotr (s 4) 6) ^^^ (rotr (s 4) 11))) ^^^ (rotr (s 4) 25))))), (126, nw (s 4)), (127, nw (s 5)), (128, nw ((s 4) &&& (s 5))), (129, nw (s 4)), (130, nw (4294967295 - s 4)), (131, nw (s 6)), (132, nw (((4294967295 - s 4)) &&& (s 6))), (133, nw ((((s 4) &&& (s 5))) ^^^ ((((4294967295 - s 4)) &&& (s 6))))), (134, nw (add32 (add32 (s 7) (((((rotr (s 4) 6) ^^^ (rotr (s 4) 11))) ^^^ (rotr (s 4) 25)))) (((((s 4) &&& (s 5))) ^^^ ((((4294967295 - s 4)) &&& (s 6))))))), (135, ni k), (136, pt aq6 (0 + (k) * 1)), (137, nw (kF (k))), (138, nw (add32 (add32 (add32 (s 7) (((((rotr (s 4) 6) ^^^ (rotr (s 4) 11))) ^^^ (rotr (s 4) 25)))) (((((s 4) &&& (s 5))) ^^^ ((((4294967295 - s 4)) &&& (s 6)))))) (kF (k)))), (139, ni k), (140, pt aq8 (0 + (k) * 1)), (141, nw ((wF bl) (k))), (142, nw (add32 (add32 (add32 (add32 (s 7) (((((rotr (s 4) 6) ^^^ (rotr (s 4) 11))) ^^^ (rotr (s 4) 25)))) (((((s 4) &&& (s 5))) ^^^ ((((4294967295 - s 4)) &&& (s 6)))))) (kF (k))) ((wF bl) (k)))), (19, nw (add32 (add32 (add32 (add32 (s 7) (((((rotr (s 4) 6) ^^^ (rotr (s 4) 11))) ^^^ (rotr (s 4) 25)))) (((((s 4) &&& (s 5))) ^^^ ((((4294967295 - s 4)) &&& (s 6)))))) (kF (k))) ((wF bl) (k))))]) [116, 117, 118, 119, 120, 121, 122, 123, 124, 125, 126, 127, 128, 129, 130, 131, 132, 133, 134, 135, 136, 137, 138, 139, 140, 141, 142, 19] [] [bk aq8 (arrF .u32 64 (wF bl)) 159, bk aq6 (arrF .u32 64 kF) 159, bk aq3 (arrF .u8 64 bl) 140, bk aq2 (arrF .u32 8 st) 144, bk aq4 #[.int .u32 0, .int .u32 0, .int .u32 0, .int .u32 0, .int .u32 0, .int .u32 0, .int .u32 0, .int .u32 0] 144] [0, 1, 2, 3, 4] 2 [] kr kr kr (fun β => rfl) trivial ⟨?_, ?_, ?_, ?_, ?_, ?_, ?_, ?_, ?_, ?_, ?_, ?_, ?_, ?_, ?_, ?_, ?_, ?_, ?_, ?_, ?_, ?_, ?_, ?_, ?_, ?_, ?_, ?_, trivial⟩ ?_
    · exact E_k 208 (fun β => nw (s 7)) 116 2
    · exact E_k 208 (fun β => nw (s 4)) 117 2
    · exact E_call 208 kq (fun β => nw (rotr (s 4) 6)) 118 rfl kq 119 (fun β => #[nw (s 4), ni 6]) (fun β w => kr) 2 [] kr rfl (fun β w hk hl hq => turn_any (s 4) 6 (hs 4) (by decide) (by decide) _)
    · exact E_k 208 (fun β => nw (s 4)) 119 2
    · exact E_call 208 kq (fun β => nw (rotr (s 4) 11)) 120 rfl kq 119 (fun β => #[nw (s 4), ni 11]) (fun β w => kr) 2 [] kr rfl (fun β w hk hl hq => turn_any (s 4) 11 (hs 4) (by decide) (by decide) _)
    · exact E_v 208 (fun β => nw ((rotr (s 4) 6) ^^^ (rotr (s 4) 11))) 121 2 [] (fun β w hk hl hq => R_bin (x := (.tmp 118)) (y := (.tmp 120)) rfl (k := .u32) (a := ((rotr (s 4) 6 : Nat) : Int)) (b := ((rotr (s 4) 11 : Nat) : Int)) kr kr (i_xor32 (a := rotr (s 4) 6) (b := rotr (s 4) 11) (rotr_lt (hs 4)) (rotr_lt (hs 4))) w)
    · exact E_k 208 (fun β => nw (s 4)) 122 2
    · exact E_call 208 kq (fun β => nw (rotr (s 4) 25)) 123 rfl kq 119 (fun β => #[nw (s 4), ni 25]) (fun β w => kr) 2 [] kr rfl (fun β w hk hl hq => turn_any (s 4) 25 (hs 4) (by decide) (by decide) _)
    · exact E_v 208 (fun β => nw ((((rotr (s 4) 6) ^^^ (rotr (s 4) 11))) ^^^ (rotr (s 4) 25))) 124 2 [] (fun β w hk hl hq => R_bin (x := (.tmp 121)) (y := (.tmp 123)) rfl (k := .u32) (a := ((((rotr (s 4) 6) ^^^ (rotr (s 4) 11)) : Nat) : Int)) (b := ((rotr (s 4) 25 : Nat) : Int)) kr kr (i_xor32 (a := ((rotr (s 4) 6) ^^^ (rotr (s 4) 11))) (b := rotr (s 4) 25) (xor32 (rotr_lt (hs 4)) (rotr_lt (hs 4))) (rotr_lt (hs 4))) w)
    · exact E_v 208 (fun β => nw (add32 (s 7) (((((rotr (s 4) 6) ^^^ (rotr (s 4) 11))) ^^^ (rotr (s 4) 25))))) 125 2 [] (fun β w hk hl hq => R_bin (x := (.tmp 116)) (y := (.tmp 124)) rfl (k := .u32) (a := ((s 7 : Nat) : Int)) (b := ((((((rotr (s 4) 6) ^^^ (rotr (s 4) 11))) ^^^ (rotr (s 4) 25)) : Nat) : Int)) kr kr (i_add32 (a := s 7) (b := ((((rotr (s 4) 6) ^^^ (rotr (s 4) 11))) ^^^ (rotr (s 4) 25)))) w)
    · exact E_k 208 (fun β => nw (s 4)) 126 2
    · exact E_k 208 (fun β => nw (s 5)) 127 2
    · exact E_v 208 (fun β => nw ((s 4) &&& (s 5))) 128 2 [] (fun β w hk hl hq => R_bin (x := (.tmp 126)) (y := (.tmp 127)) rfl (k := .u32) (a := ((s 4 : Nat) : Int)) (b := ((s 5 : Nat) : Int)) kr kr (i_and32 (a := s 4) (b := s 5) (hs 4) (hs 5)) w)
    · exact E_k 208 (fun β => nw (s 4)) 129 2
    · exact E_v 208 (fun β => nw (4294967295 - s 4)) 130 2 [] (fun β w hk hl hq => R_bin (x := (.const (.int .u32 4294967295))) (y := (.tmp 129)) rfl (k := .u32) (a := ((4294967295 : Nat) : Int)) (b := ((s 4 : Nat) : Int)) kr kr (i_sub32 (a := s 4) (hs 4)) w)
    · exact E_k 208 (fun β => nw (s 6)) 131 2
    · exact E_v 208 (fun β => nw (((4294967295 - s 4)) &&& (s 6))) 132 2 [] (fun β w hk hl hq => R_bin (x := (.tmp 130)) (y := (.tmp 131)) rfl (k := .u32) (a := (((4294967295 - s 4) : Nat) : Int)) (b := ((s 6 : Nat) : Int)) kr kr (i_and32 (a := (4294967295 - s 4)) (b := s 6) (by omega) (hs 6)) w)
    · exact E_v 208 (fun β => nw ((((s 4) &&& (s 5))) ^^^ ((((4294967295 - s 4)) &&& (s 6))))) 133 2 [] (fun β w hk hl hq => R_bin (x := (.tmp 128)) (y := (.tmp 132)) rfl (k := .u32) (a := ((((s 4) &&& (s 5)) : Nat) : Int)) (b := (((((4294967295 - s 4)) &&& (s 6)) : Nat) : Int)) kr kr (i_xor32 (a := ((s 4) &&& (s 5))) (b := (((4294967295 - s 4)) &&& (s 6))) (and32 (hs 4)) (and32 (by omega))) w)
    · exact E_v 208 (fun β => nw (add32 (add32 (s 7) (((((rotr (s 4) 6) ^^^ (rotr (s 4) 11))) ^^^ (rotr (s 4) 25)))) (((((s 4) &&& (s 5))) ^^^ ((((4294967295 - s 4)) &&& (s 6))))))) 134 2 [] (fun β w hk hl hq => R_bin (x := (.tmp 125)) (y := (.tmp 133)) rfl (k := .u32) (a := ((add32 (s 7) (((((rotr (s 4) 6) ^^^ (rotr (s 4) 11))) ^^^ (rotr (s 4) 25))) : Nat) : Int)) (b := ((((((s 4) &&& (s 5))) ^^^ ((((4294967295 - s 4)) &&& (s 6)))) : Nat) : Int)) kr kr (i_add32 (a := add32 (s 7) (((((rotr (s 4) 6) ^^^ (rotr (s 4) 11))) ^^^ (rotr (s 4) 25)))) (b := ((((s 4) &&& (s 5))) ^^^ ((((4294967295 - s 4)) &&& (s 6)))))) w)
    · exact E_k 208 (fun β => ni k) 135 2
    · exact E_v 208 (fun β => pt aq6 (0 + (k) * 1)) 136 2 [] (fun β w hk hl hq => R_index (k := .i64) (g := aq6) (off := 0) (x := (.tmp 5)) (y := (.tmp 135)) rfl Tryd.underlying159 kr (k) kr (by omega) (sz := 1) kr w)
    · exact E_v 208 (fun β => nw (kF (k))) 137 2 [] (fun β w hk hl hq => R_cellH hl (own := true) (g := aq6) (all := (arrF .u32 64 kF)) (t := 159) (fr := (0, 0)) 1 kr 53 (.tmp 136) rfl (0 + (k) * 1) kr (nw (kF (k))) ((congrArg (fun q => ((arrF .u32 64 kF))[q]?) (show (0 + (k) * 1) = k by omega)).trans (arrF_get kF (by omega))) _ Tryd.underlying53 rfl)
    · exact E_v 208 (fun β => nw (add32 (add32 (add32 (s 7) (((((rotr (s 4) 6) ^^^ (rotr (s 4) 11))) ^^^ (rotr (s 4) 25)))) (((((s 4) &&& (s 5))) ^^^ ((((4294967295 - s 4)) &&& (s 6)))))) (kF (k)))) 138 2 [] (fun β w hk hl hq => R_bin (x := (.tmp 134)) (y := (.tmp 137)) rfl (k := .u32) (a := ((add32 (add32 (s 7) (((((rotr (s 4) 6) ^^^ (rotr (s 4) 11))) ^^^ (rotr (s 4) 25)))) (((((s 4) &&& (s 5))) ^^^ ((((4294967295 - s 4)) &&& (s 6))))) : Nat) : Int)) (b := ((kF (k) : Nat) : Int)) kr kr (i_add32 (a := add32 (add32 (s 7) (((((rotr (s 4) 6) ^^^ (rotr (s 4) 11))) ^^^ (rotr (s 4) 25)))) (((((s 4) &&& (s 5))) ^^^ ((((4294967295 - s 4)) &&& (s 6)))))) (b := kF (k))) w)
    · exact E_k 208 (fun β => ni k) 139 2
    · exact E_v 208 (fun β => pt aq8 (0 + (k) * 1)) 140 2 [] (fun β w hk hl hq => R_index (k := .i64) (g := aq8) (off := 0) (x := (.tmp 6)) (y := (.tmp 139)) rfl Tryd.underlying159 kr (k) kr (by omega) (sz := 1) kr w)
    · exact E_v 208 (fun β => nw ((wF bl) (k))) 141 2 [] (fun β w hk hl hq => R_cellH hl (own := true) (g := aq8) (all := (arrF .u32 64 (wF bl))) (t := 159) (fr := (0, 0)) 0 kr 53 (.tmp 140) rfl (0 + (k) * 1) kr (nw ((wF bl) (k))) ((congrArg (fun q => ((arrF .u32 64 (wF bl)))[q]?) (show (0 + (k) * 1) = k by omega)).trans (arrF_get (wF bl) (by omega))) _ Tryd.underlying53 rfl)
    · exact E_v 208 (fun β => nw (add32 (add32 (add32 (add32 (s 7) (((((rotr (s 4) 6) ^^^ (rotr (s 4) 11))) ^^^ (rotr (s 4) 25)))) (((((s 4) &&& (s 5))) ^^^ ((((4294967295 - s 4)) &&& (s 6)))))) (kF (k))) ((wF bl) (k)))) 142 2 [] (fun β w hk hl hq => R_bin (x := (.tmp 138)) (y := (.tmp 141)) rfl (k := .u32) (a := ((add32 (add32 (add32 (s 7) (((((rotr (s 4) 6) ^^^ (rotr (s 4) 11))) ^^^ (rotr (s 4) 25)))) (((((s 4) &&& (s 5))) ^^^ ((((4294967295 - s 4)) &&& (s 6)))))) (kF (k)) : Nat) : Int)) (b := (((wF bl) (k) : Nat) : Int)) kr kr (i_add32 (a := add32 (add32 (add32 (s 7) (((((rotr (s 4) 6) ^^^ (rotr (s 4) 11))) ^^^ (rotr (s 4) 25)))) (((((s 4) &&& (s 5))) ^^^ ((((4294967295 - s 4)) &&& (s 6)))))) (kF (k))) (b := (wF bl) (k))) w)
    · exact E_k 208 (fun β => nw (add32 (add32 (add32 (add32 (s 7) (((((rotr (s 4) 6) ^^^ (rotr (s 4) 11))) ^^^ (rotr (s 4) 25)))) (((((s 4) &&& (s 5))) ^^^ ((((4294967295 - s 4)) &&& (s 6)))))) (kF (k))) ((wF bl) (k)))) 19 2
    clear F H; intro β a v Q F H
    replace H : Hp [] w [bk aq8 (arrF .u32 64 (wF bl)) 159, bk aq6 (arrF .u32 64 kF) 159, bk aq3 (arrF .u8 64 bl) 140, bk aq2 (arrF .u32 8 st) 144, bk aq4 #[.int .u32 0, .int .u32 0, .int .u32 0, .int .u32 0, .int .u32 0, .int .u32 0, .int .u32 0, .int .u32 0] 144] v := H
    replace F : Fm 208 [] [(19, nw (add32 (add32 (add32 (add32 (s 7) (((((rotr (s 4) 6) ^^^ (rotr (s 4) 11))) ^^^ (rotr (s 4) 25)))) (((((s 4) &&& (s 5))) ^^^ ((((4294967295 - s 4)) &&& (s 6)))))) (kF (k))) ((wF bl) (k)))), (142, nw (add32 (add32 (add32 (add32 (s 7) (((((rotr (s 4) 6) ^^^ (rotr (s 4) 11))) ^^^ (rotr (s 4) 25)))) (((((s 4) &&& (s 5))) ^^^ ((((4294967295 - s 4)) &&& (s 6)))))) (kF (k))) ((wF bl) (k)))), (141, nw ((wF bl) (k))), (140, pt aq8 (0 + (k) * 1)), (139, ni k), (138, nw (add32 (add32 (add32 (s 7) (((((rotr (s 4) 6) ^^^ (rotr (s 4) 11))) ^^^ (rotr (s 4) 25)))) (((((s 4) &&& (s 5))) ^^^ ((((4294967295 - s 4)) &&& (s 6)))))) (kF (k)))), (137, nw (kF (k))), (136, pt aq6 (0 + (k) * 1)), (135, ni k), (134, nw (add32 (add32 (s 7) (((((rotr (s 4) 6) ^^^ (rotr (s 4) 11))) ^^^ (rotr (s 4) 25)))) (((((s 4) &&& (s 5))) ^^^ ((((4294967295 - s 4)) &&& (s 6))))))), (133, nw ((((s 4) &&& (s 5))) ^^^ ((((4294967295 - s 4)) &&& (s 6))))), (132, nw (((4294967295 - s 4)) &&& (s 6))), (131, nw (s 6)), (130, nw (4294967295 - s 4)), (129, nw (s 4)), (128, nw ((s 4) &&& (s 5))), (127, nw (s 5)), (126, nw (s 4)), (125, nw (add32 (s 7) (((((rotr (s 4) 6) ^^^ (rotr (s 4) 11))) ^^^ (rotr (s 4) 25))))), (124, nw ((((rotr (s 4) 6) ^^^ (rotr (s 4) 11))) ^^^ (rotr (s 4) 25))), (123, nw (rotr (s 4) 25)), (122, nw (s 4)), (121, nw ((rotr (s 4) 6) ^^^ (rotr (s 4) 11))), (120, nw (rotr (s 4) 11)), (119, nw (s 4)), (118, nw (rotr (s 4) 6)), (117, nw (s 4)), (116, nw (s 7)), (113, .bool true), (112, ni k), (18, ni k), (10, nw (s 0)), (11, nw (s 1)), (12, nw (s 2)), (13, nw (s 3)), (14, nw (s 4)), (15, nw (s 5)), (16, nw (s 6)), (17, nw (s 7)), (5, pt aq6 0), (6, pt aq8 0), (4, pt aq4 0), (2, pt aq2 0)] a := F.weak _ (subL_of kr)
    clear Q
    refine ?_
    refine hK33 _ _ ?_
    clear hK33
    try clear K33
    refine C_seqK (fun K34 hK34 => ?_)
    refine C_region ?_
    refine T_k F H (nw (s 0)) ?_
    clear F; intro a F
    refine T_call F H kr 119 #[nw (s 0), ni 2] (nw (rotr (s 0) 2)) (fun w => kr) (turn_any (s 0) 2 (hs 0) (by decide) (by decide) _) ?_
    clear F H; intro a v F H
    refine T_k F H (nw (s 0)) ?_
    clear F; intro a F
    refine T_call F H kr 119 #[nw (s 0), ni 13] (nw (rotr (s 0) 13)) (fun w => kr) (turn_any (s 0) 13 (hs 0) (by decide) (by decide) _) ?_
    clear F H; intro a v F H
    refine T_val F H kr (nw ((rotr (s 0) 2) ^^^ (rotr (s 0) 13))) (fun w _ => R_bin (x := (.tmp 144)) (y := (.tmp 146)) rfl (k := .u32) (a := ((rotr (s 0) 2 : Nat) : Int)) (b := ((rotr (s 0) 13 : Nat) : Int)) kr kr (i_xor32 (a := rotr (s 0) 2) (b := rotr (s 0) 13) (rotr_lt (hs 0)) (rotr_lt (hs 0))) w) ?_
    clear F; intro a F
    refine T_k F H (nw (s 0)) ?_
    clear F; intro a F
    refine T_call F H kr 119 #[nw (s 0), ni 22] (nw (rotr (s 0) 22)) (fun w => kr) (turn_any (s 0) 22 (hs 0) (by decide) (by decide) _) ?_
    clear F H; intro a v F H
    refine T_val F H kr (nw ((((rotr (s 0) 2) ^^^ (rotr (s 0) 13))) ^^^ (rotr (s 0) 22))) (fun w _ => R_bin (x := (.tmp 147)) (y := (.tmp 149)) rfl (k := .u32) (a := ((((rotr (s 0) 2) ^^^ (rotr (s 0) 13)) : Nat) : Int)) (b := ((rotr (s 0) 22 : Nat) : Int)) kr kr (i_xor32 (a := ((rotr (s 0) 2) ^^^ (rotr (s 0) 13))) (b := rotr (s 0) 22) (xor32 (rotr_lt (hs 0)) (rotr_lt (hs 0))) (rotr_lt (hs 0))) w) ?_
    clear F; intro a F
    refine T_k F H (nw (s 0)) ?_
    clear F; intro a F
    refine T_k F H (nw (s 1)) ?_
    clear F; intro a F
    refine T_val F H kr (nw ((s 0) &&& (s 1))) (fun w _ => R_bin (x := (.tmp 151)) (y := (.tmp 152)) rfl (k := .u32) (a := ((s 0 : Nat) : Int)) (b := ((s 1 : Nat) : Int)) kr kr (i_and32 (a := s 0) (b := s 1) (hs 0) (hs 1)) w) ?_
    clear F; intro a F
    refine T_k F H (nw (s 0)) ?_
    clear F; intro a F
    refine T_k F H (nw (s 2)) ?_
    clear F; intro a F
    refine T_val F H kr (nw ((s 0) &&& (s 2))) (fun w _ => R_bin (x := (.tmp 154)) (y := (.tmp 155)) rfl (k := .u32) (a := ((s 0 : Nat) : Int)) (b := ((s 2 : Nat) : Int)) kr kr (i_and32 (a := s 0) (b := s 2) (hs 0) (hs 2)) w) ?_
    clear F; intro a F
    refine T_val F H kr (nw ((((s 0) &&& (s 1))) ^^^ (((s 0) &&& (s 2))))) (fun w _ => R_bin (x := (.tmp 153)) (y := (.tmp 156)) rfl (k := .u32) (a := ((((s 0) &&& (s 1)) : Nat) : Int)) (b := ((((s 0) &&& (s 2)) : Nat) : Int)) kr kr (i_xor32 (a := ((s 0) &&& (s 1))) (b := ((s 0) &&& (s 2))) (and32 (hs 0)) (and32 (hs 0))) w) ?_
    clear F; intro a F
    refine T_k F H (nw (s 1)) ?_
    clear F; intro a F
    refine T_k F H (nw (s 2)) ?_
    clear F; intro a F
    refine T_val F H kr (nw ((s 1) &&& (s 2))) (fun w _ => R_bin (x := (.tmp 158)) (y := (.tmp 159)) rfl (k := .u32) (a := ((s 1 : Nat) : Int)) (b := ((s 2 : Nat) : Int)) kr kr (i_and32 (a := s 1) (b := s 2) (hs 1) (hs 2)) w) ?_
    clear F; intro a F
    refine T_val F H kr (nw ((((((s 0) &&& (s 1))) ^^^ (((s 0) &&& (s 2))))) ^^^ (((s 1) &&& (s 2))))) (fun w _ => R_bin (x := (.tmp 157)) (y := (.tmp 160)) rfl (k := .u32) (a := ((((((s 0) &&& (s 1))) ^^^ (((s 0) &&& (s 2)))) : Nat) : Int)) (b := ((((s 1) &&& (s 2)) : Nat) : Int)) kr kr (i_xor32 (a := ((((s 0) &&& (s 1))) ^^^ (((s 0) &&& (s 2))))) (b := ((s 1) &&& (s 2))) (xor32 (and32 (hs 0)) (and32 (hs 0))) (and32 (hs 1))) w) ?_
    clear F; intro a F
    refine T_val F H kr (nw (add32 (((((rotr (s 0) 2) ^^^ (rotr (s 0) 13))) ^^^ (rotr (s 0) 22))) (((((((s 0) &&& (s 1))) ^^^ (((s 0) &&& (s 2))))) ^^^ (((s 1) &&& (s 2))))))) (fun w _ => R_bin (x := (.tmp 150)) (y := (.tmp 161)) rfl (k := .u32) (a := ((((((rotr (s 0) 2) ^^^ (rotr (s 0) 13))) ^^^ (rotr (s 0) 22)) : Nat) : Int)) (b := ((((((((s 0) &&& (s 1))) ^^^ (((s 0) &&& (s 2))))) ^^^ (((s 1) &&& (s 2)))) : Nat) : Int)) kr kr (i_add32 (a := ((((rotr (s 0) 2) ^^^ (rotr (s 0) 13))) ^^^ (rotr (s 0) 22))) (b := ((((((s 0) &&& (s 1))) ^^^ (((s 0) &&& (s 2))))) ^^^ (((s 1) &&& (s 2)))))) w) ?_
    clear F; intro a F
    refine T_k F H (nw (add32 (((((rotr (s 0) 2) ^^^ (rotr (s 0) 13))) ^^^ (rotr (s 0) 22))) (((((((s 0) &&& (s 1))) ^^^ (((s 0) &&& (s 2))))) ^^^ (((s 1) &&& (s 2))))))) ?_
    clear F; intro a F
    refine wpList_nil ?_
    refine hK34 _ _ ?_
    clear hK34
    try clear K34
    refine C_seqK (fun K35 hK35 => ?_)
    refine C_region ?_
    refine T_k F H (nw (s 6)) ?_
    clear F; intro a F
    refine T_k F H (nw (s 6)) ?_
    clear F; intro a F
    refine wpList_nil ?_
    refine hK35 _ _ ?_
    clear hK35
    try clear K35
    refine C_seqK (fun K36 hK36 => ?_)
    refine C_region ?_
    refine T_k F H (nw (s 5)) ?_
    clear F; intro a F
    refine T_k F H (nw (s 5)) ?_
    clear F; intro a F
    refine wpList_nil ?_
    refine hK36 _ _ ?_
    clear hK36
    try clear K36
    refine C_seqK (fun K37 hK37 => ?_)
    refine C_region ?_
    refine T_k F H (nw (s 4)) ?_
    clear F; intro a F
    refine T_k F H (nw (s 4)) ?_
    clear F; intro a F
    refine wpList_nil ?_
    refine hK37 _ _ ?_
    clear hK37
    try clear K37
    refine C_seqK (fun K38 hK38 => ?_)
    refine C_region ?_
    refine T_k F H (nw (s 3)) ?_
    clear F; intro a F
    refine T_k F H (nw (add32 (add32 (add32 (add32 (s 7) (((((rotr (s 4) 6) ^^^ (rotr (s 4) 11))) ^^^ (rotr (s 4) 25)))) (((((s 4) &&& (s 5))) ^^^ ((((4294967295 - s 4)) &&& (s 6)))))) (kF (k))) ((wF bl) (k)))) ?_
    clear F; intro a F
    refine T_val F H kr (nw (add32 (s 3) (add32 (add32 (add32 (add32 (s 7) (((((rotr (s 4) 6) ^^^ (rotr (s 4) 11))) ^^^ (rotr (s 4) 25)))) (((((s 4) &&& (s 5))) ^^^ ((((4294967295 - s 4)) &&& (s 6)))))) (kF (k))) ((wF bl) (k))))) (fun w _ => R_bin (x := (.tmp 166)) (y := (.tmp 167)) rfl (k := .u32) (a := ((s 3 : Nat) : Int)) (b := ((add32 (add32 (add32 (add32 (s 7) (((((rotr (s 4) 6) ^^^ (rotr (s 4) 11))) ^^^ (rotr (s 4) 25)))) (((((s 4) &&& (s 5))) ^^^ ((((4294967295 - s 4)) &&& (s 6)))))) (kF (k))) ((wF bl) (k)) : Nat) : Int)) kr kr (i_add32 (a := s 3) (b := add32 (add32 (add32 (add32 (s 7) (((((rotr (s 4) 6) ^^^ (rotr (s 4) 11))) ^^^ (rotr (s 4) 25)))) (((((s 4) &&& (s 5))) ^^^ ((((4294967295 - s 4)) &&& (s 6)))))) (kF (k))) ((wF bl) (k)))) w) ?_
    clear F; intro a F
    refine T_k F H (nw (add32 (s 3) (add32 (add32 (add32 (add32 (s 7) (((((rotr (s 4) 6) ^^^ (rotr (s 4) 11))) ^^^ (rotr (s 4) 25)))) (((((s 4) &&& (s 5))) ^^^ ((((4294967295 - s 4)) &&& (s 6)))))) (kF (k))) ((wF bl) (k))))) ?_
    clear F; intro a F
    refine wpList_nil ?_
    refine hK38 _ _ ?_
    clear hK38
    try clear K38
    refine C_seqK (fun K39 hK39 => ?_)
    refine C_region ?_
    refine T_k F H (nw (s 2)) ?_
    clear F; intro a F
    refine T_k F H (nw (s 2)) ?_
    clear F; intro a F
    refine wpList_nil ?_
    refine hK39 _ _ ?_
    clear hK39
    try clear K39
    refine C_seqK (fun K40 hK40 => ?_)
    refine C_region ?_
    refine T_k F H (nw (s 1)) ?_
    clear F; intro a F
    refine T_k F H (nw (s 1)) ?_
    clear F; intro a F
    refine wpList_nil ?_
    refine hK40 _ _ ?_
    clear hK40
    try clear K40
    refine C_seqK (fun K41 hK41 => ?_)
    refine C_region ?_
    refine T_k F H (nw (s 0)) ?_
    clear F; intro a F
    refine T_k F H (nw (s 0)) ?_
    clear F; intro a F
    refine wpList_nil ?_
    refine hK41 _ _ ?_
    clear hK41
    try clear K41
    refine C_region ?_
    refine T_k F H (nw (add32 (add32 (add32 (add32 (s 7) (((((rotr (s 4) 6) ^^^ (rotr (s 4) 11))) ^^^ (rotr (s 4) 25)))) (((((s 4) &&& (s 5))) ^^^ ((((4294967295 - s 4)) &&& (s 6)))))) (kF (k))) ((wF bl) (k)))) ?_
    clear F; intro a F
    refine T_k F H (nw (add32 (((((rotr (s 0) 2) ^^^ (rotr (s 0) 13))) ^^^ (rotr (s 0) 22))) (((((((s 0) &&& (s 1))) ^^^ (((s 0) &&& (s 2))))) ^^^ (((s 1) &&& (s 2))))))) ?_
    clear F; intro a F
    refine T_val F H kr (nw (add32 (add32 (add32 (add32 (add32 (s 7) (((((rotr (s 4) 6) ^^^ (rotr (s 4) 11))) ^^^ (rotr (s 4) 25)))) (((((s 4) &&& (s 5))) ^^^ ((((4294967295 - s 4)) &&& (s 6)))))) (kF (k))) ((wF bl) (k))) (add32 (((((rotr (s 0) 2) ^^^ (rotr (s 0) 13))) ^^^ (rotr (s 0) 22))) (((((((s 0) &&& (s 1))) ^^^ (((s 0) &&& (s 2))))) ^^^ (((s 1) &&& (s 2)))))))) (fun w _ => R_bin (x := (.tmp 172)) (y := (.tmp 173)) rfl (k := .u32) (a := ((add32 (add32 (add32 (add32 (s 7) (((((rotr (s 4) 6) ^^^ (rotr (s 4) 11))) ^^^ (rotr (s 4) 25)))) (((((s 4) &&& (s 5))) ^^^ ((((4294967295 - s 4)) &&& (s 6)))))) (kF (k))) ((wF bl) (k)) : Nat) : Int)) (b := ((add32 (((((rotr (s 0) 2) ^^^ (rotr (s 0) 13))) ^^^ (rotr (s 0) 22))) (((((((s 0) &&& (s 1))) ^^^ (((s 0) &&& (s 2))))) ^^^ (((s 1) &&& (s 2))))) : Nat) : Int)) kr kr (i_add32 (a := add32 (add32 (add32 (add32 (s 7) (((((rotr (s 4) 6) ^^^ (rotr (s 4) 11))) ^^^ (rotr (s 4) 25)))) (((((s 4) &&& (s 5))) ^^^ ((((4294967295 - s 4)) &&& (s 6)))))) (kF (k))) ((wF bl) (k))) (b := add32 (((((rotr (s 0) 2) ^^^ (rotr (s 0) 13))) ^^^ (rotr (s 0) 22))) (((((((s 0) &&& (s 1))) ^^^ (((s 0) &&& (s 2))))) ^^^ (((s 1) &&& (s 2))))))) w) ?_
    clear F; intro a F
    refine T_k F H (nw (add32 (add32 (add32 (add32 (add32 (s 7) (((((rotr (s 4) 6) ^^^ (rotr (s 4) 11))) ^^^ (rotr (s 4) 25)))) (((((s 4) &&& (s 5))) ^^^ ((((4294967295 - s 4)) &&& (s 6)))))) (kF (k))) ((wF bl) (k))) (add32 (((((rotr (s 0) 2) ^^^ (rotr (s 0) 13))) ^^^ (rotr (s 0) 22))) (((((((s 0) &&& (s 1))) ^^^ (((s 0) &&& (s 2))))) ^^^ (((s 1) &&& (s 2)))))))) ?_
    clear F; intro a F
    refine wpList_nil ?_
    replace F : Fm 208 [] [(18, ni k), (10, nw (add32 (add32 (add32 (add32 (add32 (s 7) (((((rotr (s 4) 6) ^^^ (rotr (s 4) 11))) ^^^ (rotr (s 4) 25)))) (((((s 4) &&& (s 5))) ^^^ ((((4294967295 - s 4)) &&& (s 6)))))) (kF (k))) ((wF bl) (k))) (add32 (((((rotr (s 0) 2) ^^^ (rotr (s 0) 13))) ^^^ (rotr (s 0) 22))) (((((((s 0) &&& (s 1))) ^^^ (((s 0) &&& (s 2))))) ^^^ (((s 1) &&& (s 2)))))))), (11, nw (s 0)), (12, nw (s 1)), (13, nw (s 2)), (14, nw (add32 (s 3) (add32 (add32 (add32 (add32 (s 7) (((((rotr (s 4) 6) ^^^ (rotr (s 4) 11))) ^^^ (rotr (s 4) 25)))) (((((s 4) &&& (s 5))) ^^^ ((((4294967295 - s 4)) &&& (s 6)))))) (kF (k))) ((wF bl) (k))))), (15, nw (s 4)), (16, nw (s 5)), (17, nw (s 6)), (5, pt aq6 0), (6, pt aq8 0), (4, pt aq4 0), (2, pt aq2 0)] a := F.weak _ (subL_of kr)
    replace F : Fm 208 [] [(18, ni k), (10, nw (rnd (kF k) (wF bl k) s 0)), (11, nw (rnd (kF k) (wF bl k) s 1)), (12, nw (rnd (kF k) (wF bl k) s 2)), (13, nw (rnd (kF k) (wF bl k) s 3)), (14, nw (rnd (kF k) (wF bl k) s 4)), (15, nw (rnd (kF k) (wF bl k) s 5)), (16, nw (rnd (kF k) (wF bl k) s 6)), (17, nw (rnd (kF k) (wF bl k) s 7)), (5, pt aq6 0), (6, pt aq8 0), (4, pt aq4 0), (2, pt aq2 0)] a := F.weak _ (subL_of kr)
    rw [← hS] at F
    refine hK32 _ _ ?_
    clear hK32
    try clear K32
    refine C_region ?_
    refine T_k F H (ni k) ?_
    clear F; intro a F
    refine T_val F H kr (ni (k + 1)) (fun w _ => R_bin (x := (.tmp 114)) (y := (.const (.int .i64 1))) rfl (k := .i64) (a := ((k : Nat) : Int)) (b := ((1 : Nat) : Int)) kr kr (i_addn64 (a := k) (b := 1) (by omega)) w) ?_
    clear F; intro a F
    refine T_k F H (ni (k + 1)) ?_
    clear F; intro a F
    refine wpList_nil ?_
    replace F : Fm 208 [] [(18, ni (k + 1)), (10, nw (rnds bl st (k + 1) 0)), (11, nw (rnds bl st (k + 1) 1)), (12, nw (rnds bl st (k + 1) 2)), (13, nw (rnds bl st (k + 1) 3)), (14, nw (rnds bl st (k + 1) 4)), (15, nw (rnds bl st (k + 1) 5)), (16, nw (rnds bl st (k + 1) 6)), (17, nw (rnds bl st (k + 1) 7)), (5, pt aq6 0), (6, pt aq8 0), (4, pt aq4 0), (2, pt aq2 0)] a := F.weak _ (subL_of kr)
    replace H : Hp [] w [bk aq8 (arrF .u32 64 (wF bl)) 159, bk aq6 (arrF .u32 64 kF) 159, bk aq3 (arrF .u8 64 bl) 140, bk aq2 (arrF .u32 8 st) 144, bk aq4 #[.int .u32 0, .int .u32 0, .int .u32 0, .int .u32 0, .int .u32 0, .int .u32 0, .int .u32 0, .int .u32 0] 144] v := H
    exact ⟨m, Nat.lt_succ_self m, k + 1, by omega, F, H⟩
  have hkt : k = 64 := by omega
  try rw [hkt] at F
  try rw [hkt] at H
  clear hk
  refine C_seqK (fun K42 hK42 => ?_)
  refine C_seqK (fun K43 hK43 => ?_)
  refine C_region ?_
  refine T_k F H (ni 64) ?_
  clear F; intro a F
  refine T_val F H kr (.bool false) (fun w _ => R_bin (x := (.tmp 112)) (y := (.const (.int .i64 64))) rfl (k := .i64) (a := ((64 : Nat) : Int)) (b := ((64 : Nat) : Int)) kr kr (i_nlt (by omega)) w) ?_
  clear F; intro a F
  refine wpList_nil ?_
  refine hK43 _ _ ?_
  clear hK43
  try clear K43
  refine C_if F false rfl rfl ?_
  refine wp_exit ?_
  refine hK28 _ _ ?_
  clear hK28
  try clear K28
  refine C_seqK (fun K44 hK44 => ?_)
  have hs := rnds_lt (bl := bl) hst 64
  have hc : arrF .u32 8 (fun j => add32 (st j) (rnds bl st 64 j)) = arrF .u32 8 cb := arrF_congr fun i hi => by rw [hcb, comp, add32_comm]
  clear hcb
  generalize rnds bl st 64 = s at F hs hc
  refine C_region ?_
  refine T_k F H (pt aq2 0) ?_
  clear F; intro a F
  refine T_val F H kr (nw (st 0)) (R_cell (own := true) (g := aq2) (all := (arrF .u32 8 st)) (t := 144) (fr := (0, 0)) 3 kr 53 (.tmp 175) rfl 0 kr (nw (st 0)) kr _ Tryd.underlying53 rfl) ?_
  clear F; intro a F
  refine T_k F H (nw (s 0)) ?_
  clear F; intro a F
  refine T_val F H kr (nw (add32 (st 0) (s 0))) (fun w _ => R_bin (x := (.tmp 176)) (y := (.tmp 177)) rfl (k := .u32) (a := ((st 0 : Nat) : Int)) (b := ((s 0 : Nat) : Int)) kr kr (i_add32 (a := st 0) (b := s 0)) w) ?_
  clear F; intro a F
  refine T_k F H (pt aq2 1) ?_
  clear F; intro a F
  refine T_val F H kr (nw (st 1)) (R_cell (own := true) (g := aq2) (all := (arrF .u32 8 st)) (t := 144) (fr := (0, 0)) 3 kr 53 (.tmp 179) rfl 1 kr (nw (st 1)) kr _ Tryd.underlying53 rfl) ?_
  clear F; intro a F
  refine T_k F H (nw (s 1)) ?_
  clear F; intro a F
  refine T_val F H kr (nw (add32 (st 1) (s 1))) (fun w _ => R_bin (x := (.tmp 180)) (y := (.tmp 181)) rfl (k := .u32) (a := ((st 1 : Nat) : Int)) (b := ((s 1 : Nat) : Int)) kr kr (i_add32 (a := st 1) (b := s 1)) w) ?_
  clear F; intro a F
  refine T_k F H (pt aq2 2) ?_
  clear F; intro a F
  refine T_val F H kr (nw (st 2)) (R_cell (own := true) (g := aq2) (all := (arrF .u32 8 st)) (t := 144) (fr := (0, 0)) 3 kr 53 (.tmp 183) rfl 2 kr (nw (st 2)) kr _ Tryd.underlying53 rfl) ?_
  clear F; intro a F
  refine T_k F H (nw (s 2)) ?_
  clear F; intro a F
  refine T_val F H kr (nw (add32 (st 2) (s 2))) (fun w _ => R_bin (x := (.tmp 184)) (y := (.tmp 185)) rfl (k := .u32) (a := ((st 2 : Nat) : Int)) (b := ((s 2 : Nat) : Int)) kr kr (i_add32 (a := st 2) (b := s 2)) w) ?_
  clear F; intro a F
  refine T_k F H (pt aq2 3) ?_
  clear F; intro a F
  refine T_val F H kr (nw (st 3)) (R_cell (own := true) (g := aq2) (all := (arrF .u32 8 st)) (t := 144) (fr := (0, 0)) 3 kr 53 (.tmp 187) rfl 3 kr (nw (st 3)) kr _ Tryd.underlying53 rfl) ?_
  clear F; intro a F
  refine T_k F H (nw (s 3)) ?_
  clear F; intro a F
  refine T_val F H kr (nw (add32 (st 3) (s 3))) (fun w _ => R_bin (x := (.tmp 188)) (y := (.tmp 189)) rfl (k := .u32) (a := ((st 3 : Nat) : Int)) (b := ((s 3 : Nat) : Int)) kr kr (i_add32 (a := st 3) (b := s 3)) w) ?_
  clear F; intro a F
  refine T_k F H (pt aq2 4) ?_
  clear F; intro a F
  refine T_val F H kr (nw (st 4)) (R_cell (own := true) (g := aq2) (all := (arrF .u32 8 st)) (t := 144) (fr := (0, 0)) 3 kr 53 (.tmp 191) rfl 4 kr (nw (st 4)) kr _ Tryd.underlying53 rfl) ?_
  clear F; intro a F
  refine T_k F H (nw (s 4)) ?_
  clear F; intro a F
  refine T_val F H kr (nw (add32 (st 4) (s 4))) (fun w _ => R_bin (x := (.tmp 192)) (y := (.tmp 193)) rfl (k := .u32) (a := ((st 4 : Nat) : Int)) (b := ((s 4 : Nat) : Int)) kr kr (i_add32 (a := st 4) (b := s 4)) w) ?_
  clear F; intro a F
  refine T_k F H (pt aq2 5) ?_
  clear F; intro a F
  refine T_val F H kr (nw (st 5)) (R_cell (own := true) (g := aq2) (all := (arrF .u32 8 st)) (t := 144) (fr := (0, 0)) 3 kr 53 (.tmp 195) rfl 5 kr (nw (st 5)) kr _ Tryd.underlying53 rfl) ?_
  clear F; intro a F
  refine T_k F H (nw (s 5)) ?_
  clear F; intro a F
  refine T_val F H kr (nw (add32 (st 5) (s 5))) (fun w _ => R_bin (x := (.tmp 196)) (y := (.tmp 197)) rfl (k := .u32) (a := ((st 5 : Nat) : Int)) (b := ((s 5 : Nat) : Int)) kr kr (i_add32 (a := st 5) (b := s 5)) w) ?_
  clear F; intro a F
  refine T_k F H (pt aq2 6) ?_
  clear F; intro a F
  refine T_val F H kr (nw (st 6)) (R_cell (own := true) (g := aq2) (all := (arrF .u32 8 st)) (t := 144) (fr := (0, 0)) 3 kr 53 (.tmp 199) rfl 6 kr (nw (st 6)) kr _ Tryd.underlying53 rfl) ?_
  clear F; intro a F
  refine T_k F H (nw (s 6)) ?_
  clear F; intro a F
  refine T_val F H kr (nw (add32 (st 6) (s 6))) (fun w _ => R_bin (x := (.tmp 200)) (y := (.tmp 201)) rfl (k := .u32) (a := ((st 6 : Nat) : Int)) (b := ((s 6 : Nat) : Int)) kr kr (i_add32 (a := st 6) (b := s 6)) w) ?_
  clear F; intro a F
  refine T_k F H (pt aq2 7) ?_
  clear F; intro a F
  refine T_val F H kr (nw (st 7)) (R_cell (own := true) (g := aq2) (all := (arrF .u32 8 st)) (t := 144) (fr := (0, 0)) 3 kr 53 (.tmp 203) rfl 7 kr (nw (st 7)) kr _ Tryd.underlying53 rfl) ?_
  clear F; intro a F
  refine T_k F H (nw (s 7)) ?_
  clear F; intro a F
  refine T_val F H kr (nw (add32 (st 7) (s 7))) (fun w _ => R_bin (x := (.tmp 204)) (y := (.tmp 205)) rfl (k := .u32) (a := ((st 7 : Nat) : Int)) (b := ((s 7 : Nat) : Int)) kr kr (i_add32 (a := st 7) (b := s 7)) w) ?_
  clear F; intro a F
  refine T_val F H kr (.agg (arrF .u32 8 cb)) (fun _ _ => (by rw [← hc]; kernel_rfl)) ?_
  clear F; intro a F
  refine T_set F H kr rfl 4 rfl (arrF .u32 8 cb) (S_row 4 rfl 144 (.tmp 4) (.tmp 207) rfl kr (arrF .u32 8 cb) kr (by rw [arrF_size]; kernel_rfl) (by rw [arrF_size]; kernel_rfl) (arrF_one _ _ _)) [bk aq8 (arrF .u32 64 (wF bl)) 159, bk aq6 (arrF .u32 64 kF) 159, bk aq3 (arrF .u8 64 bl) 140, bk aq2 (arrF .u32 8 st) 144, bk aq4 (arrF .u32 8 cb) 144] rfl ?_
  clear F H; intro a v F H
  refine wpList_nil ?_
  refine hK44 _ _ ?_
  clear hK44
  try clear K44
  refine wp_ret ?_
  exact C_ret F H (rs := [.cell 4 144]) rfl (vs := [.agg (arrF .u32 8 cb)]) (.row 4 rfl rfl _ Tryd.underlying144 rfl kr .nil) (.agg (arrF .u32 8 cb)) rfl ⟨rfl, H.kept⟩
end Go.Proofs.YtdejhenkdbjakaaDoor
