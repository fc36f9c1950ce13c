/- Walks: the reference's digest. -/
import Derived.Test.YtdejhenkdbjakaaDoorV2
import Derived.Test.YtdejhenkdbjakaaDoorW5
set_option linter.unusedVariables false
set_option linter.unusedSimpArgs false
namespace Go.Proofs.YtdejhenkdbjakaaDoor
open Go Go.RowKit
theorem pad_next (k : Nat) : (128 :: List.replicate k 0) ++ [0] = 128 :: List.replicate (k + 1) 0 := by
  rw [List.cons_append, ← List.replicate_succ']
theorem pad_ends (n : Nat) (h : n * 8 < 18446744073709551616) : (128 :: List.replicate ((119 - n % 64) % 64) 0) ++ highL (n * 8) 8 = padL n := by
  rw [padL, Nat.mod_eq_of_lt h, List.cons_append]
def blkP (p : List Nat) (k i : Nat) : Nat → Nat := fun j => if j < i then blkF p k j else 0
theorem blkP_step (p : List Nat) (k i : Nat) : upd (blkP p k i) i (blkF p k i) = blkP p k (i + 1) := by
  funext j
  unfold upd blkP
  by_cases e : j = i
  · subst e; rw [if_pos rfl, if_pos (by omega)]
  · rw [if_neg e]
    by_cases h1 : j < i
    · rw [if_pos h1, if_pos (by omega)]
    · rw [if_neg h1, if_neg (by omega)]
theorem blkP_all (p : List Nat) (k : Nat) : arrF .u8 64 (blkP p k 64) = arrF .u8 64 (blkF p k) := arrF_congr fun i hi => by unfold blkP; rw [if_pos hi]
theorem blkF_at {p : List Nat} {k i : Nat} (h : 64 * k + i < p.length) : p[64 * k + i]? = some (blkF p k i) := by
  unfold blkF; rw [List.getD_eq_getElem?_getD, List.getElem?_eq_getElem h]; rfl
def outQ (l : List Nat) (k : Nat) : Nat → Nat := fun j => if j < k then shaK l j else 0
theorem outQ_step (l : List Nat) (k : Nat) : upd (outQ l k) k ((hashP l (k / 4) >>> (24 - 8 * (k % 4))) % 256) = outQ l (k + 1) := by
  funext j
  unfold upd outQ
  by_cases e : j = k
  · subst e; rw [if_pos rfl, if_pos (by omega)]; rfl
  · rw [if_neg e]
    by_cases h1 : j < k
    · rw [if_pos h1, if_pos (by omega)]
    · rw [if_neg h1, if_neg (by omega)]
theorem outQ_all (l : List Nat) : arrF .u8 32 (outQ l 32) = arrF .u8 32 (shaK l) := arrF_congr fun i hi => by unfold outQ; rw [if_pos hi]

theorem i_nez {k : IntKind} {a : Nat} (h : a ≠ 0) : intRes .neq k (a : Int) ((0 : Nat) : Int) = some (.bool true) := by simp [intRes, h]
theorem i_nnez {k : IntKind} {a : Nat} (h : a = 0) : intRes .neq k (a : Int) ((0 : Nat) : Int) = some (.bool false) := by simp [intRes, h]

set_option maxRecDepth 100000 in
set_option maxHeartbeats 4000000 in
theorem padR_any (n : Nat) (hn : n < 1099511627776) (w : World) : Calls Tryd.prog 100 #[.int .i64 ((n : Nat) : Int)] w (MadeS [] 5 1 (padL n).length (oct (padL n)) w) := by
  refine C_enter Tryd.func100 rfl 23 Tryd.ntmps100 (Nat.le_of_ble_eq_true rfl) (fun a F => ?_)
  have H := Hp.start [] w
  replace F : Fm 23 [] [(0, ni n)] a := F.weak _ (subL_of kr)
  refine C_seqK (fun K1 hK1 => ?_)
  refine C_region ?_
  refine T_k F H (.slice none 0 0) ?_
  clear F; intro a F
  refine wpList_nil ?_
  refine hK1 _ _ ?_
  clear hK1
  try clear K1
  refine C_seqK (fun K2 hK2 => ?_)
  refine C_seqK (fun K3 hK3 => ?_)
  refine C_region ?_
  refine T_k F H (ni n) ?_
  clear F; intro a F
  refine T_val F H kr (.bool false) (fun w _ => R_bin (x := (.tmp 4)) (y := (.const (.int .i64 0))) rfl (k := .i64) (a := ((n : Nat) : Int)) (b := ((0 : Nat) : Int)) kr kr (i_nlt (by omega)) w) ?_
  clear F; intro a F
  refine wpList_nil ?_
  refine hK3 _ _ ?_
  clear hK3
  try clear K3
  refine C_if F false rfl rfl ?_
  refine wp_skip ?_
  refine hK2 _ _ ?_
  clear hK2
  try clear K2
  refine C_seqK (fun K4 hK4 => ?_)
  refine C_region ?_
  refine T_new F H kr (fun ad => sc ad 0 1 1) (ce (sl (ints .u8 [128]) []) 5) (fun w => R_buildS (len := 1) rfl Tryd.underlying54 ((sl (ints .u8 [128]) [])) kr w) ?_
  clear F H; intro aq5 a v F H
  refine T_k F H (sc aq5 0 1 1) ?_
  clear F; intro a F
  refine wpList_nil ?_
  replace F : Fm 23 [] [(3, sc aq5 0 1 1), (0, ni n)] a := F.weak _ (subL_of kr)
  refine hK4 _ _ ?_
  clear hK4
  try clear K4
  refine C_seqK (fun K6 hK6 => ?_)
  refine wp_block ?_
  refine C_loop (fun m a v => ∃ (k : Nat) (r : SlR), k + m = ((119 - n % 64) % 64) ∧ Own (oct (128 :: List.replicate k 0)) r.rest (1 + k) r.cap 1 ∧ Fm 23 [] [(3, sc r.g 0 (1 + k) r.cap), (0, ni n)] a ∧ Hp [] w [bk r.g (sl (oct (128 :: List.replicate k 0)) r.rest) 5] v) (((119 - n % 64) % 64)) ⟨0, ⟨aq5, 1, [], 0⟩, Nat.zero_add _, own_all (by rfl) (by simp only [maxLen]; omega), F, H⟩ ?_
  clear F H
  intro m a v ⟨k, r, hk, hO, F, H⟩
  rcases m with _ | m
  rotate_left
  · skip
    refine C_seqK (fun K7 hK7 => ?_)
    refine C_seqK (fun K8 hK8 => ?_)
    refine C_region ?_
    refine T_k F H (ni n) ?_
    clear F; intro a F
    refine T_k F H (sc r.g 0 (1 + k) r.cap) ?_
    clear F; intro a F
    refine T_k F H (ni (1 + k)) ?_
    clear F; intro a F
    refine T_val F H kr (ni (n + (1 + k))) (fun w _ => R_bin (x := (.tmp 7)) (y := (.tmp 9)) rfl (k := .i64) (a := ((n : Nat) : Int)) (b := (((1 + k) : Nat) : Int)) kr kr (i_addn64 (a := n) (b := 1 + k) (by omega)) w) ?_
    clear F; intro a F
    refine T_val F H kr (ni ((n + (1 + k)) + 8)) (fun w _ => R_bin (x := (.tmp 10)) (y := (.const (.int .i64 8))) rfl (k := .i64) (a := (((n + (1 + k)) : Nat) : Int)) (b := ((8 : Nat) : Int)) kr kr (i_addn64 (a := (n + (1 + k))) (b := 8) (by omega)) w) ?_
    clear F; intro a F
    refine T_val F H kr (ni (((n + (1 + k)) + 8) % 64)) (fun w _ => R_bin (x := (.tmp 11)) (y := (.const (.int .i64 64))) rfl (k := .i64) (a := ((((n + (1 + k)) + 8) : Nat) : Int)) (b := ((64 : Nat) : Int)) kr kr (i_rem64 (a := ((n + (1 + k)) + 8)) (b := 64) (by omega)) w) ?_
    clear F; intro a F
    refine T_val F H kr (.bool true) (fun w _ => R_bin (x := (.tmp 12)) (y := (.const (.int .i64 0))) rfl (k := .i64) (a := (((((n + (1 + k)) + 8) % 64) : Nat) : Int)) (b := ((0 : Nat) : Int)) kr kr (i_nez (by omega)) w) ?_
    clear F; intro a F
    refine wpList_nil ?_
    refine hK8 _ _ ?_
    clear hK8
    try clear K8
    refine C_if F true rfl rfl ?_
    refine wp_skip ?_
    refine hK7 _ _ ?_
    clear hK7
    try clear K7
    refine wp_block ?_
    refine C_region ?_
    refine T_k F H (sc r.g 0 (1 + k) r.cap) ?_
    clear F; intro a F
    refine T_new F H kr (fun ad => sc ad 0 1 1) (ce (sl (ints .u8 [0]) []) 5) (fun w => R_buildS (len := 1) rfl Tryd.underlying54 ((sl (ints .u8 [0]) [])) kr w) ?_
    clear F H; intro aq9 a v F H
    refine T_app F H kr 54 5 (.tmp 14) (.tmp 15) rfl 1 1 kr kr 1 rfl hO kr (1) (ints .u8 [0]) (fun w hk hl => (RdS.all (hl.at_ (k := 0) rfl) (Nat.le_refl _))) (by rw [ints_len]; first | rfl | simp [highL_len, hb_len]) (ints_one _ _) (by simp only [maxLen]; omega) (by omega) _ rfl ?_
    clear F H; intro rq10 a v Qrq10 F H
    refine T_k F H (sc rq10.g 0 ((1 + k) + 1) rq10.cap) ?_
    clear F; intro a F
    refine wpList_nil ?_
    have hc9 : (oct (128 :: List.replicate k 0)) ++ (ints .u8 [0]) = oct (128 :: List.replicate (k + 1) 0) := (ints_app .u8 _ _).symm.trans (congrArg _ (pad_next k))
    rw [hc9] at H Qrq10
    replace Qrq10 : Own (oct (128 :: List.replicate (k + 1) 0)) rq10.rest (1 + (k + 1)) rq10.cap 1 := Qrq10
    replace H : Hp [] w [bk rq10.g (sl (oct (128 :: List.replicate (k + 1) 0)) rq10.rest) 5, bk aq9 (sl (ints .u8 [0]) []) 5] v := H
    replace H : Hp [] w [bk rq10.g (sl (oct (128 :: List.replicate (k + 1) 0)) rq10.rest) 5] v := H.pick [0] kr _ rfl
    replace F : Fm 23 [] [(3, sc rq10.g 0 (1 + (k + 1)) rq10.cap), (0, ni n)] a := F.weak _ (subL_of kr)
    replace H : Hp [] w [bk rq10.g (sl (oct (128 :: List.replicate (k + 1) 0)) rq10.rest) 5] v := H
    exact ⟨m, Nat.lt_succ_self m, k + 1, rq10, by omega, Qrq10, F, H⟩
  have hkt : k = ((119 - n % 64) % 64) := by omega
  rw [hkt] at F H hO
  clear hk
  refine C_seqK (fun K11 hK11 => ?_)
  refine C_seqK (fun K12 hK12 => ?_)
  refine C_region ?_
  refine T_k F H (ni n) ?_
  clear F; intro a F
  refine T_k F H (sc r.g 0 (1 + (((119 - n % 64) % 64))) r.cap) ?_
  clear F; intro a F
  refine T_k F H (ni (1 + (((119 - n % 64) % 64)))) ?_
  clear F; intro a F
  refine T_val F H kr (ni (n + (1 + ((119 - n % 64) % 64)))) (fun w _ => R_bin (x := (.tmp 7)) (y := (.tmp 9)) rfl (k := .i64) (a := ((n : Nat) : Int)) (b := (((1 + (((119 - n % 64) % 64))) : Nat) : Int)) kr kr (i_addn64 (a := n) (b := 1 + ((119 - n % 64) % 64)) (by omega)) w) ?_
  clear F; intro a F
  refine T_val F H kr (ni ((n + (1 + ((119 - n % 64) % 64))) + 8)) (fun w _ => R_bin (x := (.tmp 10)) (y := (.const (.int .i64 8))) rfl (k := .i64) (a := (((n + (1 + ((119 - n % 64) % 64))) : Nat) : Int)) (b := ((8 : Nat) : Int)) kr kr (i_addn64 (a := (n + (1 + ((119 - n % 64) % 64)))) (b := 8) (by omega)) w) ?_
  clear F; intro a F
  refine T_val F H kr (ni (((n + (1 + ((119 - n % 64) % 64))) + 8) % 64)) (fun w _ => R_bin (x := (.tmp 11)) (y := (.const (.int .i64 64))) rfl (k := .i64) (a := ((((n + (1 + ((119 - n % 64) % 64))) + 8) : Nat) : Int)) (b := ((64 : Nat) : Int)) kr kr (i_rem64 (a := ((n + (1 + ((119 - n % 64) % 64))) + 8)) (b := 64) (by omega)) w) ?_
  clear F; intro a F
  refine T_val F H kr (.bool false) (fun w _ => R_bin (x := (.tmp 12)) (y := (.const (.int .i64 0))) rfl (k := .i64) (a := (((((n + (1 + ((119 - n % 64) % 64))) + 8) % 64) : Nat) : Int)) (b := ((0 : Nat) : Int)) kr kr (i_nnez (by omega)) w) ?_
  clear F; intro a F
  refine wpList_nil ?_
  refine hK12 _ _ ?_
  clear hK12
  try clear K12
  refine C_if F false rfl rfl ?_
  refine wp_exit ?_
  refine hK6 _ _ ?_
  clear hK6
  try clear K6
  refine C_seqK (fun K13 hK13 => ?_)
  refine C_region ?_
  refine T_k F H (sc r.g 0 (1 + (((119 - n % 64) % 64))) r.cap) ?_
  clear F; intro a F
  refine T_k F H (ni n) ?_
  clear F; intro a F
  refine T_val F H kr (nu n) (fun w _ => R_conv (x := (.tmp 18)) rfl (k0 := .i64) kr kr (k := .i64) (a := ((n : Nat) : Int)) kr (wru64 (a := n) (by omega)) w) ?_
  clear F; intro a F
  refine T_val F H kr (nu (n * 8)) (fun w _ => R_bin (x := (.tmp 19)) (y := (.const (.int .u64 8))) rfl (k := .u64) (a := ((n : Nat) : Int)) (b := ((8 : Nat) : Int)) kr kr (i_mulu64 (a := n) (b := 8) (by omega)) w) ?_
  clear F; intro a F
  refine T_callX (α := SlR) F H kr 50 #[nu (n * 8), ni 8] (fun rX => sc rX.g 0 8 rX.cap) (fun rX => [bk rX.g (sl (oct (highL (n * 8) 8)) rX.rest) 5, bk r.g (sl (oct (128 :: List.replicate (((119 - n % 64) % 64)) 0)) r.rest) 5]) (fun rX => Own (oct (highL (n * 8) 8)) rX.rest (8) rX.cap 1) (fun w => kr) (fun w H => callsX_newV H (highR_any (n * 8) 8 (by omega) (by decide) (by decide) _)) ?_
  clear F H; intro rq14 a v Qrq14 F H
  refine T_app F H kr 54 5 (.tmp 17) (.tmp 21) rfl 1 1 kr kr 1 rfl hO kr (8) (oct (highL (n * 8) 8)) (fun w hk hl => (RdS.all (hl.at_ (k := 0) rfl) (Own.le Qrq14))) (by rw [ints_len]; first | rfl | simp [highL_len, hb_len]) (ints_one _ _) (by simp only [maxLen]; omega) (by omega) _ rfl ?_
  clear F H; intro rq15 a v Qrq15 F H
  refine T_k F H (sc rq15.g 0 ((1 + (((119 - n % 64) % 64))) + 8) rq15.cap) ?_
  clear F; intro a F
  refine wpList_nil ?_
  refine hK13 _ _ ?_
  clear hK13
  try clear K13
  have hc9 : (oct (128 :: List.replicate (((119 - n % 64) % 64)) 0)) ++ (oct (highL (n * 8) 8)) = oct (padL n) := (ints_app .u8 _ _).symm.trans (congrArg _ (pad_ends n (by omega)))
  rw [hc9] at H Qrq15
  rw [show (1 + ((119 - n % 64) % 64) + 8) = (padL n).length from (padL_len n).symm] at F Qrq15
  replace F : Fm 23 [] [(2, sc rq15.g 0 (padL n).length rq15.cap)] a := F.weak _ (subL_of kr)
  refine wp_ret ?_
  exact C_ret F H (rs := [.tmp 2]) rfl (vs := [sc rq15.g 0 (padL n).length rq15.cap]) (.tmp rfl .nil) (sc rq15.g 0 (padL n).length rq15.cap) rfl (made_ret H (k := 0) rfl Qrq15)

theorem i_len {k : IntKind} {a b : Nat} (h : a ≤ b) : intRes .leq k (a : Int) (b : Int) = some (.bool true) := by simp [intRes, h]
theorem i_nlen {k : IntKind} {a b : Nat} (h : b < a) : intRes .leq k (a : Int) (b : Int) = some (.bool false) := by simp [intRes]; omega

set_option maxRecDepth 100000 in
set_option maxHeartbeats 4000000 in
theorem digestR_any (p : SlP) (hn : p.l.length = p.n) (hl : p.n < 1099511627776) (hb : ∀ x ∈ p.l, x < 256) (w : World) (hrd : RdS w p.v p.n (oct p.l)) : Calls Tryd.prog 82 #[p.v] w fun e w' => e = .returned (.agg (arrF .u8 32 (shaK p.l))) ∧ Kept [] w w' := by
  have hpl : (p.l ++ padL p.n).length = 64 * nBlk p.n := by rw [List.length_append, hn, ← nBlk_len]
  have hpb : 0 < 64 * nBlk p.n ∧ 64 * nBlk p.n < 70368744177664 ∧ 2 < 1000000 := by rw [← nBlk_len, padL_len]; omega
  have hpo : ∀ x ∈ p.l ++ padL p.n, x < 256 := fun x hx => (List.mem_append.1 hx).elim (hb x) (padL_lt _ x)
  have hpn : p.n + (padL p.n).length = 64 * nBlk p.n := nBlk_len _
  obtain ⟨fk, hfk⟩ : ∃ fk, fk = shaK p.l := ⟨_, rfl⟩
  rw [← hfk]
  refine C_enter Tryd.func82 rfl 58 Tryd.ntmps82 (Nat.le_of_ble_eq_true rfl) (fun a F => ?_)
  have H := Hp.start [] w
  replace F : Fm 58 [] [(0, .slice p.ad p.n p.c)] a := F.weak _ (subL_of kr)
  refine C_seqK (fun K1 hK1 => ?_)
  refine C_region ?_
  refine T_new F H kr (fun ad => pt ad 0) (ce z8 23) (fun w => kr) ?_
  clear F H; intro aq2 a v F H
  refine wpList_nil ?_
  refine hK1 _ _ ?_
  clear hK1
  try clear K1
  refine C_seqK (fun K3 hK3 => ?_)
  refine C_region ?_
  refine T_new F H kr (fun ad => sc ad 0 0 0) (ce (sl (ints .u8 []) []) 5) (fun w => R_build0 rfl Tryd.underlying54 kr w) ?_
  clear F H; intro aq4 a v F H
  refine T_k F H (.slice p.ad p.n p.c) ?_
  clear F; intro a F
  refine T_app F H kr 54 5 (.tmp 10) (.tmp 11) rfl 1 1 kr kr 0 rfl (own_all (m := 0) (by rfl) (by simp only [maxLen]; omega)) kr (p.n) (oct (p.l)) (fun w hk hl => (hrd.kept hk (fun _ _ _ _ => List.not_mem_nil))) (by rw [ints_len, Nat.mul_one]; exact hn) (ints_one _ _) (by simp only [maxLen]; omega) (by omega) _ rfl ?_
  clear F H; intro rq5 a v Qrq5 F H
  refine T_k F H (.slice p.ad p.n p.c) ?_
  clear F; intro a F
  refine T_k F H (ni p.n) ?_
  clear F; intro a F
  refine T_callX (α := SlR) F H kr 100 #[ni p.n] (fun rX => sc rX.g 0 (padL p.n).length rX.cap) (fun rX => [bk rX.g (sl (oct (padL p.n)) rX.rest) 5, bk rq5.g (sl ((ints .u8 []) ++ (oct (p.l))) rq5.rest) 5, bk aq2 z8 23]) (fun rX => Own (oct (padL p.n)) rX.rest ((padL p.n).length) rX.cap 1) (fun w => kr) (fun w H => callsX_newV H (padR_any p.n hl _)) ?_
  clear F H; intro rq6 a v Qrq6 F H
  refine T_app F H kr 54 5 (.tmp 12) (.tmp 15) rfl 1 1 kr kr 1 rfl Qrq5 kr ((padL p.n).length) (oct (padL p.n)) (fun w hk hl => (RdS.all (hl.at_ (k := 0) rfl) (Own.le Qrq6))) (by rw [ints_len]; first | rfl | simp [highL_len, hb_len]) (ints_one _ _) (by simp only [maxLen]; omega) (by omega) _ rfl ?_
  clear F H; intro rq7 a v Qrq7 F H
  refine T_k F H (sc rq7.g 0 ((0 + p.n) + (padL p.n).length) rq7.cap) ?_
  clear F; intro a F
  refine wpList_nil ?_
  have hc9 : ((ints .u8 []) ++ (oct (p.l))) ++ (oct (padL p.n)) = oct (p.l ++ padL p.n) := by simp [ints]
  rw [hc9] at H Qrq7
  have hln : ((0 + p.n) + (padL p.n).length) = 64 * nBlk p.n := by omega
  rw [hln] at F Qrq7
  replace F : Fm 58 [] [(3, sc rq7.g 0 (64 * nBlk p.n) rq7.cap), (2, pt aq2 0)] a := F.weak _ (subL_of kr)
  replace H : Hp [] w [bk rq7.g (sl (oct (p.l ++ padL p.n)) rq7.rest) 5, bk aq2 z8 23] v := H.pick [0, 2] kr _ rfl
  refine hK3 _ _ ?_
  clear hK3
  try clear K3
  refine C_seqK (fun K8 hK8 => ?_)
  refine C_region ?_
  refine T_k F H (.agg (arrF .u32 8 st0)) ?_
  clear F; intro a F
  refine T_new F H kr (fun ad => pt ad 0) (ce #[.int .u32 0, .int .u32 0, .int .u32 0, .int .u32 0, .int .u32 0, .int .u32 0, .int .u32 0, .int .u32 0] 144) (fun w => kr) ?_
  clear F H; intro aq9 a v F H
  refine T_set F H kr rfl 0 rfl (arrF .u32 8 st0) (S_row 0 rfl 144 (.tmp 4) (.tmp 17) rfl kr (arrF .u32 8 st0) kr (by rw [arrF_size]; kernel_rfl) (by rw [arrF_size]; kernel_rfl) (arrF_one _ _ _)) [bk aq9 (arrF .u32 8 st0) 144, bk rq7.g (sl (oct (p.l ++ padL p.n)) rq7.rest) 5, bk aq2 z8 23] rfl ?_
  clear F H; intro a v F H
  refine wpList_nil ?_
  refine hK8 _ _ ?_
  clear hK8
  try clear K8
  refine C_seqK (fun K10 hK10 => ?_)
  refine C_seqK (fun K11 hK11 => ?_)
  refine C_region ?_
  refine T_k F H (ni 0) ?_
  clear F; intro a F
  refine wpList_nil ?_
  replace F : Fm 58 [] [(5, ni 0), (4, pt aq9 0), (3, sc rq7.g 0 (64 * nBlk p.n) rq7.cap), (2, pt aq2 0)] a := F.weak _ (subL_of kr)
  replace H : Hp [] w [bk aq9 (arrF .u32 8 st0) 144, bk rq7.g (sl (oct (p.l ++ padL p.n)) rq7.rest) 5, bk aq2 z8 23] v := H.pick [0, 1, 2] kr _ rfl
  refine hK11 _ _ ?_
  clear hK11
  try clear K11
  refine wp_block ?_
  refine C_loop (fun m a v => ∃ k, k + m = nBlk p.n ∧ Fm 58 [] [(5, ni (64 * k)), (4, pt aq9 0), (3, sc rq7.g 0 (64 * nBlk p.n) rq7.cap), (2, pt aq2 0)] a ∧ Hp [] w [bk aq9 (arrF .u32 8 (hashN (p.l ++ padL p.n) k)) 144, bk rq7.g (sl (oct (p.l ++ padL p.n)) rq7.rest) 5, bk aq2 z8 23] v) (nBlk p.n) ⟨0, Nat.zero_add _, F, H⟩ ?_
  clear F H
  intro m a v ⟨k, hk, F, H⟩
  rcases m with _ | m
  rotate_left
  · skip
    refine C_seqK (fun K12 hK12 => ?_)
    refine C_seqK (fun K13 hK13 => ?_)
    refine C_region ?_
    refine T_k F H (ni (64 * k)) ?_
    clear F; intro a F
    refine T_val F H kr (ni (64 * k + 64)) (fun w _ => R_bin (x := (.tmp 18)) (y := (.const (.int .i64 64))) rfl (k := .i64) (a := (((64 * k) : Nat) : Int)) (b := ((64 : Nat) : Int)) kr kr (i_addn64 (a := 64 * k) (b := 64) (by omega)) w) ?_
    clear F; intro a F
    refine T_k F H (sc rq7.g 0 (64 * nBlk p.n) rq7.cap) ?_
    clear F; intro a F
    refine T_k F H (ni (64 * nBlk p.n)) ?_
    clear F; intro a F
    refine T_val F H kr (.bool true) (fun w _ => R_bin (x := (.tmp 19)) (y := (.tmp 21)) rfl (k := .i64) (a := (((64 * k + 64) : Nat) : Int)) (b := (((64 * nBlk p.n) : Nat) : Int)) kr kr (i_len (by omega)) w) ?_
    clear F; intro a F
    refine wpList_nil ?_
    refine hK13 _ _ ?_
    clear hK13
    try clear K13
    refine C_if F true rfl rfl ?_
    refine wp_skip ?_
    refine hK12 _ _ ?_
    clear hK12
    try clear K12
    refine C_seqK (fun K14 hK14 => ?_)
    refine wp_block ?_
    refine C_seqK (fun K15 hK15 => ?_)
    refine C_region ?_
    refine T_new F H kr (fun ad => pt ad 0) (ce #[.int .u8 0, .int .u8 0, .int .u8 0, .int .u8 0, .int .u8 0, .int .u8 0, .int .u8 0, .int .u8 0, .int .u8 0, .int .u8 0, .int .u8 0, .int .u8 0, .int .u8 0, .int .u8 0, .int .u8 0, .int .u8 0, .int .u8 0, .int .u8 0, .int .u8 0, .int .u8 0, .int .u8 0, .int .u8 0, .int .u8 0, .int .u8 0, .int .u8 0, .int .u8 0, .int .u8 0, .int .u8 0, .int .u8 0, .int .u8 0, .int .u8 0, .int .u8 0, .int .u8 0, .int .u8 0, .int .u8 0, .int .u8 0, .int .u8 0, .int .u8 0, .int .u8 0, .int .u8 0, .int .u8 0, .int .u8 0, .int .u8 0, .int .u8 0, .int .u8 0, .int .u8 0, .int .u8 0, .int .u8 0, .int .u8 0, .int .u8 0, .int .u8 0, .int .u8 0, .int .u8 0, .int .u8 0, .int .u8 0, .int .u8 0, .int .u8 0, .int .u8 0, .int .u8 0, .int .u8 0, .int .u8 0, .int .u8 0, .int .u8 0, .int .u8 0] 140) (fun w => kr) ?_
    clear F H; intro aq16 a v F H
    refine wpList_nil ?_
    rw [show (#[.int .u8 0, .int .u8 0, .int .u8 0, .int .u8 0, .int .u8 0, .int .u8 0, .int .u8 0, .int .u8 0, .int .u8 0, .int .u8 0, .int .u8 0, .int .u8 0, .int .u8 0, .int .u8 0, .int .u8 0, .int .u8 0, .int .u8 0, .int .u8 0, .int .u8 0, .int .u8 0, .int .u8 0, .int .u8 0, .int .u8 0, .int .u8 0, .int .u8 0, .int .u8 0, .int .u8 0, .int .u8 0, .int .u8 0, .int .u8 0, .int .u8 0, .int .u8 0, .int .u8 0, .int .u8 0, .int .u8 0, .int .u8 0, .int .u8 0, .int .u8 0, .int .u8 0, .int .u8 0, .int .u8 0, .int .u8 0, .int .u8 0, .int .u8 0, .int .u8 0, .int .u8 0, .int .u8 0, .int .u8 0, .int .u8 0, .int .u8 0, .int .u8 0, .int .u8 0, .int .u8 0, .int .u8 0, .int .u8 0, .int .u8 0, .int .u8 0, .int .u8 0, .int .u8 0, .int .u8 0, .int .u8 0, .int .u8 0, .int .u8 0, .int .u8 0] : Array Value) = (arrF .u8 64 (blkP (p.l ++ padL p.n) k 0)) from kr] at H
    refine hK15 _ _ ?_
    clear hK15
    try clear K15
    refine C_seqK (fun K17 hK17 => ?_)
    refine C_seqK (fun K18 hK18 => ?_)
    refine C_region ?_
    refine T_k F H (ni 0) ?_
    clear F; intro a F
    refine wpList_nil ?_
    replace F : Fm 58 [] [(7, ni 0), (6, pt aq16 0), (5, ni (64 * k)), (4, pt aq9 0), (3, sc rq7.g 0 (64 * nBlk p.n) rq7.cap), (2, pt aq2 0)] a := F.weak _ (subL_of kr)
    replace H : Hp [] w [bk aq16 (arrF .u8 64 (blkP (p.l ++ padL p.n) k 0)) 140, bk aq9 (arrF .u32 8 (hashN (p.l ++ padL p.n) k)) 144, bk rq7.g (sl (oct (p.l ++ padL p.n)) rq7.rest) 5, bk aq2 z8 23] v := H.pick [0, 1, 2, 3] kr _ rfl
    refine hK18 _ _ ?_
    clear hK18
    try clear K18
    refine wp_block ?_
    refine C_loop (fun mi a v => ∃ i, i + mi = 64 ∧ Fm 58 [] [(7, ni i), (6, pt aq16 0), (5, ni (64 * k)), (4, pt aq9 0), (3, sc rq7.g 0 (64 * nBlk p.n) rq7.cap), (2, pt aq2 0)] a ∧ Hp [] w [bk aq16 (arrF .u8 64 (blkP (p.l ++ padL p.n) k i)) 140, bk aq9 (arrF .u32 8 (hashN (p.l ++ padL p.n) k)) 144, bk rq7.g (sl (oct (p.l ++ padL p.n)) rq7.rest) 5, bk aq2 z8 23] v) (64) ⟨0, Nat.zero_add _, F, H⟩ ?_
    clear F H
    intro mi a v ⟨i, hi, F, H⟩
    rcases mi with _ | mi
    rotate_left
    · skip
      have hbi := blkF_lt hpo k i
      refine C_seqK (fun K19 hK19 => ?_)
      refine C_seqK (fun K20 hK20 => ?_)
      refine C_region ?_
      refine T_k F H (ni i) ?_
      clear F; intro a F
      refine T_val F H kr (.bool true) (fun w _ => R_bin (x := (.tmp 25)) (y := (.const (.int .i64 64))) rfl (k := .i64) (a := ((i : Nat) : Int)) (b := ((64 : Nat) : Int)) kr kr (i_lt (by omega)) w) ?_
      clear F; intro a F
      refine wpList_nil ?_
      refine hK20 _ _ ?_
      clear hK20
      try clear K20
      refine C_if F true rfl rfl ?_
      refine wp_skip ?_
      refine hK19 _ _ ?_
      clear hK19
      try clear K19
      refine C_seqK (fun K21 hK21 => ?_)
      refine wp_block ?_
      refine C_region ?_
      refine T_k F H (ni i) ?_
      clear F; intro a F
      refine T_k F H (sc rq7.g 0 (64 * nBlk p.n) rq7.cap) ?_
      clear F; intro a F
      refine T_k F H (ni (64 * k)) ?_
      clear F; intro a F
      refine T_k F H (ni i) ?_
      clear F; intro a F
      refine T_val F H kr (ni (64 * k + i)) (fun w _ => R_bin (x := (.tmp 31)) (y := (.tmp 32)) rfl (k := .i64) (a := (((64 * k) : Nat) : Int)) (b := ((i : Nat) : Int)) kr kr (i_addn64 (a := 64 * k) (b := i) (by omega)) w) ?_
      clear F; intro a F
      refine T_val F H kr (pt rq7.g (0 + ((64 * k + i)) * 1)) (fun w _ => R_indexS (k := .i64) (g := rq7.g) (off := 0) (len := (64 * nBlk p.n)) (cap := rq7.cap) (x := (.tmp 30)) (y := (.tmp 33)) rfl Tryd.underlying54 kr ((64 * k + i)) kr (by omega) (sz := 1) kr w) ?_
      clear F; intro a F
      refine T_val F H kr (nb (blkF (p.l ++ padL p.n) k i)) (R_cell (own := true) (g := rq7.g) (all := (sl (oct (p.l ++ padL p.n)) rq7.rest)) (t := 5) (fr := (0, 0)) 2 kr 5 (.tmp 34) rfl (0 + ((64 * k + i)) * 1) kr (nb (blkF (p.l ++ padL p.n) k i)) ((congrArg (fun q => ((sl (oct (p.l ++ padL p.n)) rq7.rest))[q]?) (show (0 + ((64 * k + i)) * 1) = 64 * k + i by omega)).trans (sl_get (ints_get (blkF_at (by rw [hpl]; omega))))) _ Tryd.underlying5 rfl) ?_
      clear F; intro a F
      refine T_val F H kr (pt aq16 (0 + (i) * 1)) (fun w _ => R_index (k := .i64) (g := aq16) (off := 0) (x := (.tmp 6)) (y := (.tmp 29)) rfl Tryd.underlying140 kr (i) kr (by omega) (sz := 1) kr w) ?_
      clear F; intro a F
      refine T_set F H kr rfl 0 rfl _ (S_cell 0 rfl 5 (.tmp 36) (.tmp 35) rfl (0 + (i) * 1) kr (nb (blkF (p.l ++ padL p.n) k i)) kr rfl (by rw [arrF_size]; omega) _ Tryd.underlying5 rfl kr) [bk aq16 (arrF .u8 64 (upd (blkP (p.l ++ padL p.n) k i) (i) ((blkF (p.l ++ padL p.n) k i)))) 140, bk aq9 (arrF .u32 8 (hashN (p.l ++ padL p.n) k)) 144, bk rq7.g (sl (oct (p.l ++ padL p.n)) rq7.rest) 5, bk aq2 z8 23] (by rw [show (0 + (i) * 1) = i by omega, arrF_upd _ (by omega)]; rfl) ?_
      clear F H; intro a v F H
      refine wpList_nil ?_
      rw [blkP_step] at H
      refine hK21 _ _ ?_
      clear hK21
      try clear K21
      refine C_region ?_
      refine T_k F H (ni i) ?_
      clear F; intro a F
      refine T_val F H kr (ni (i + 1)) (fun w _ => R_bin (x := (.tmp 27)) (y := (.const (.int .i64 1))) rfl (k := .i64) (a := ((i : Nat) : Int)) (b := ((1 : Nat) : Int)) kr kr (i_addn64 (a := i) (b := 1) (by omega)) w) ?_
      clear F; intro a F
      refine T_k F H (ni (i + 1)) ?_
      clear F; intro a F
      refine wpList_nil ?_
      replace F : Fm 58 [] [(7, ni (i + 1)), (6, pt aq16 0), (5, ni (64 * k)), (4, pt aq9 0), (3, sc rq7.g 0 (64 * nBlk p.n) rq7.cap), (2, pt aq2 0)] a := F.weak _ (subL_of kr)
      replace H : Hp [] w [bk aq16 (arrF .u8 64 (blkP (p.l ++ padL p.n) k (i + 1))) 140, bk aq9 (arrF .u32 8 (hashN (p.l ++ padL p.n) k)) 144, bk rq7.g (sl (oct (p.l ++ padL p.n)) rq7.rest) 5, bk aq2 z8 23] v := H
      exact ⟨mi, Nat.lt_succ_self mi, i + 1, by omega, F, H⟩
    have hkt : i = 64 := by omega
    try rw [hkt] at F
    try rw [hkt] at H
    clear hi
    refine C_seqK (fun K22 hK22 => ?_)
    refine C_seqK (fun K23 hK23 => ?_)
    refine C_region ?_
    refine T_k F H (ni 64) ?_
    clear F; intro a F
    refine T_val F H kr (.bool false) (fun w _ => R_bin (x := (.tmp 25)) (y := (.const (.int .i64 64))) rfl (k := .i64) (a := ((64 : Nat) : Int)) (b := ((64 : Nat) : Int)) kr kr (i_nlt (by omega)) w) ?_
    clear F; intro a F
    refine wpList_nil ?_
    refine hK23 _ _ ?_
    clear hK23
    try clear K23
    refine C_if F false rfl rfl ?_
    refine wp_exit ?_
    refine hK17 _ _ ?_
    clear hK17
    try clear K17
    rw [blkP_all] at H
    refine C_region ?_
    refine T_val F H kr (.agg (arrF .u32 8 (hashN (p.l ++ padL p.n) k))) (R_load (own := true) (g := aq9) (all := (arrF .u32 8 (hashN (p.l ++ padL p.n) k))) (t := 144) (fr := (0, 0)) 1 kr 144 (.tmp 4) rfl 0 kr (arrF .u32 8 (hashN (p.l ++ padL p.n) k)) (part_all _) _ Tryd.underlying144 rfl (by rw [arrF_size]; kernel_rfl)) ?_
    clear F; intro a F
    refine T_val F H kr (.agg (arrF .u8 64 (blkF (p.l ++ padL p.n) k))) (R_load (own := true) (g := aq16) (all := (arrF .u8 64 (blkF (p.l ++ padL p.n) k))) (t := 140) (fr := (0, 0)) 0 kr 140 (.tmp 6) rfl 0 kr (arrF .u8 64 (blkF (p.l ++ padL p.n) k)) (part_all _) _ Tryd.underlying140 rfl (by rw [arrF_size]; kernel_rfl)) ?_
    clear F; intro a F
    refine T_call F H kr 101 #[.agg (arrF .u32 8 (hashN (p.l ++ padL p.n) k)), .agg (arrF .u8 64 (blkF (p.l ++ padL p.n) k))] (.agg (arrF .u32 8 (hashN (p.l ++ padL p.n) (k + 1)))) (fun w => kr) (blockR_any (hashN (p.l ++ padL p.n) k) (blkF (p.l ++ padL p.n) k) (hashN_lt _ k) (blkF_lt hpo k) _) ?_
    clear F H; intro a v F H
    refine T_set F H kr rfl 1 rfl (arrF .u32 8 (hashN (p.l ++ padL p.n) (k + 1))) (S_row 1 rfl 144 (.tmp 4) (.tmp 39) rfl kr (arrF .u32 8 (hashN (p.l ++ padL p.n) (k + 1))) kr (by rw [arrF_size]; kernel_rfl) ((arrF_size _ _ _).trans (arrF_size _ _ _).symm) (arrF_one _ _ _)) [bk aq16 (arrF .u8 64 (blkF (p.l ++ padL p.n) k)) 140, bk aq9 (arrF .u32 8 (hashN (p.l ++ padL p.n) (k + 1))) 144, bk rq7.g (sl (oct (p.l ++ padL p.n)) rq7.rest) 5, bk aq2 z8 23] rfl ?_
    clear F H; intro a v F H
    refine wpList_nil ?_
    replace H : Hp [] w [bk aq9 (arrF .u32 8 (hashN (p.l ++ padL p.n) (k + 1))) 144, bk rq7.g (sl (oct (p.l ++ padL p.n)) rq7.rest) 5, bk aq2 z8 23] v := H.pick [1, 2, 3] kr _ rfl
    refine hK14 _ _ ?_
    clear hK14
    try clear K14
    refine C_region ?_
    refine T_k F H (ni (64 * k)) ?_
    clear F; intro a F
    refine T_val F H kr (ni (64 * (k + 1))) (fun w _ => R_bin (x := (.tmp 23)) (y := (.const (.int .i64 64))) rfl (k := .i64) (a := (((64 * k) : Nat) : Int)) (b := ((64 : Nat) : Int)) kr kr ((i_addn64 (a := 64 * k) (b := 64) (by omega)).trans (congrArg (fun q : Nat => some (Value.int .i64 (q : Int))) (show 64 * k + 64 = 64 * (k + 1) by omega))) w) ?_
    clear F; intro a F
    refine T_k F H (ni (64 * (k + 1))) ?_
    clear F; intro a F
    refine wpList_nil ?_
    replace F : Fm 58 [] [(5, ni (64 * (k + 1))), (4, pt aq9 0), (3, sc rq7.g 0 (64 * nBlk p.n) rq7.cap), (2, pt aq2 0)] a := F.weak _ (subL_of kr)
    replace H : Hp [] w [bk aq9 (arrF .u32 8 (hashN (p.l ++ padL p.n) (k + 1))) 144, bk rq7.g (sl (oct (p.l ++ padL p.n)) rq7.rest) 5, bk aq2 z8 23] v := H
    exact ⟨m, Nat.lt_succ_self m, k + 1, by omega, F, H⟩
  have hkt : k = nBlk p.n := by omega
  try rw [hkt] at F
  try rw [hkt] at H
  clear hk
  refine C_seqK (fun K24 hK24 => ?_)
  refine C_seqK (fun K25 hK25 => ?_)
  refine C_region ?_
  refine T_k F H (ni (64 * (nBlk p.n))) ?_
  clear F; intro a F
  refine T_val F H kr (ni (64 * nBlk p.n + 64)) (fun w _ => R_bin (x := (.tmp 18)) (y := (.const (.int .i64 64))) rfl (k := .i64) (a := (((64 * (nBlk p.n)) : Nat) : Int)) (b := ((64 : Nat) : Int)) kr kr (i_addn64 (a := 64 * nBlk p.n) (b := 64) (by omega)) w) ?_
  clear F; intro a F
  refine T_k F H (sc rq7.g 0 (64 * nBlk p.n) rq7.cap) ?_
  clear F; intro a F
  refine T_k F H (ni (64 * nBlk p.n)) ?_
  clear F; intro a F
  refine T_val F H kr (.bool false) (fun w _ => R_bin (x := (.tmp 19)) (y := (.tmp 21)) rfl (k := .i64) (a := (((64 * nBlk p.n + 64) : Nat) : Int)) (b := (((64 * nBlk p.n) : Nat) : Int)) kr kr (i_nlen (by omega)) w) ?_
  clear F; intro a F
  refine wpList_nil ?_
  refine hK25 _ _ ?_
  clear hK25
  try clear K25
  refine C_if F false rfl rfl ?_
  refine wp_exit ?_
  refine hK10 _ _ ?_
  clear hK10
  try clear K10
  refine C_seqK (fun K26 hK26 => ?_)
  refine C_region ?_
  refine T_k F H (.agg z8) ?_
  clear F; intro a F
  refine T_new F H kr (fun ad => pt ad 0) (ce z8 23) (fun w => kr) ?_
  clear F H; intro aq27 a v F H
  refine T_set F H kr rfl 0 rfl z8 (S_row 0 rfl 23 (.tmp 8) (.tmp 40) rfl kr z8 kr kr kr kr) [bk aq27 z8 23, bk aq9 (arrF .u32 8 (hashN (p.l ++ padL p.n) (nBlk p.n))) 144, bk rq7.g (sl (oct (p.l ++ padL p.n)) rq7.rest) 5, bk aq2 z8 23] rfl ?_
  clear F H; intro a v F H
  refine wpList_nil ?_
  rw [show (z8 : Array Value) = (arrF .u8 32 (outQ p.l 0)) from kr] at H
  rw [show hashN (p.l ++ padL p.n) (nBlk p.n) = hashP p.l from by rw [hashP, hn]] at H
  refine hK26 _ _ ?_
  clear hK26
  try clear K26
  refine C_seqK (fun K28 hK28 => ?_)
  refine C_seqK (fun K29 hK29 => ?_)
  refine C_region ?_
  refine T_k F H (ni 0) ?_
  clear F; intro a F
  refine wpList_nil ?_
  replace F : Fm 58 [] [(9, ni 0), (8, pt aq27 0), (4, pt aq9 0), (2, pt aq2 0)] a := F.weak _ (subL_of kr)
  replace H : Hp [] w [bk aq27 (arrF .u8 32 (outQ p.l 0)) 23, bk aq9 (arrF .u32 8 (hashP p.l)) 144, bk aq2 (arrF .u8 32 (outQ p.l 0)) 23] v := H.pick [0, 1, 3] kr _ rfl
  refine hK29 _ _ ?_
  clear hK29
  try clear K29
  refine wp_block ?_
  refine C_loop (fun m a v => ∃ k, k + m = 32 ∧ Fm 58 [] [(9, ni k), (8, pt aq27 0), (4, pt aq9 0), (2, pt aq2 0)] a ∧ Hp [] w [bk aq27 (arrF .u8 32 (outQ p.l k)) 23, bk aq9 (arrF .u32 8 (hashP p.l)) 144, bk aq2 (arrF .u8 32 (outQ p.l 0)) 23] v) (32) ⟨0, Nat.zero_add _, F, H⟩ ?_
  clear F H
  intro m a v ⟨k, hk, F, H⟩
  rcases m with _ | m
  rotate_left
  · skip
    have hhl := hashP_lt p.l (k / 4)
    refine C_seqK (fun K30 hK30 => ?_)
    refine C_seqK (fun K31 hK31 => ?_)
    refine C_region ?_
    refine T_k F H (ni k) ?_
    clear F; intro a F
    refine T_val F H kr (.bool true) (fun w _ => R_bin (x := (.tmp 41)) (y := (.const (.int .i64 32))) rfl (k := .i64) (a := ((k : Nat) : Int)) (b := ((32 : Nat) : Int)) kr kr (i_lt (by omega)) w) ?_
    clear F; intro a F
    refine wpList_nil ?_
    refine hK31 _ _ ?_
    clear hK31
    try clear K31
    refine C_if F true rfl rfl ?_
    refine wp_skip ?_
    refine hK30 _ _ ?_
    clear hK30
    try clear K30
    refine C_seqK (fun K32 hK32 => ?_)
    refine wp_block ?_
    refine C_region ?_
    refine T_k F H (ni k) ?_
    clear F; intro a F
    refine T_k F H (ni k) ?_
    clear F; intro a F
    refine T_val F H kr (ni (k / 4)) (fun w _ => R_bin (x := (.tmp 46)) (y := (.const (.int .i64 4))) rfl (k := .i64) (a := ((k : Nat) : Int)) (b := ((4 : Nat) : Int)) kr kr (i_quo64 (a := k) (b := 4) (by decide) (by omega)) w) ?_
    clear F; intro a F
    refine T_val F H kr (pt aq9 (0 + ((k / 4)) * 1)) (fun w _ => R_index (k := .i64) (g := aq9) (off := 0) (x := (.tmp 4)) (y := (.tmp 47)) rfl Tryd.underlying144 kr ((k / 4)) kr (by omega) (sz := 1) kr w) ?_
    clear F; intro a F
    refine T_val F H kr (nw ((hashP p.l) ((k / 4)))) (R_cell (own := true) (g := aq9) (all := (arrF .u32 8 (hashP p.l))) (t := 144) (fr := (0, 0)) 1 kr 53 (.tmp 48) rfl (0 + ((k / 4)) * 1) kr (nw ((hashP p.l) ((k / 4)))) ((congrArg (fun q => ((arrF .u32 8 (hashP p.l)))[q]?) (show (0 + ((k / 4)) * 1) = (k / 4) by omega)).trans (arrF_get (hashP p.l) (by omega))) _ Tryd.underlying53 rfl) ?_
    clear F; intro a F
    refine T_k F H (ni k) ?_
    clear F; intro a F
    refine T_val F H kr (ni (k % 4)) (fun w _ => R_bin (x := (.tmp 50)) (y := (.const (.int .i64 4))) rfl (k := .i64) (a := ((k : Nat) : Int)) (b := ((4 : Nat) : Int)) kr kr (i_rem64 (a := k) (b := 4) (by decide)) w) ?_
    clear F; intro a F
    refine T_val F H kr (ni (8 * (k % 4))) (fun w _ => R_bin (x := (.const (.int .i64 8))) (y := (.tmp 51)) rfl (k := .i64) (a := ((8 : Nat) : Int)) (b := (((k % 4) : Nat) : Int)) kr kr (i_muln64 (a := 8) (b := (k % 4)) (by omega)) w) ?_
    clear F; intro a F
    refine T_val F H kr (ni (24 - (8 * (k % 4)))) (fun w _ => R_bin (x := (.const (.int .i64 24))) (y := (.tmp 52)) rfl (k := .i64) (a := ((24 : Nat) : Int)) (b := (((8 * (k % 4)) : Nat) : Int)) kr kr (i_subn64 (a := 24) (b := (8 * (k % 4))) (by omega) (by omega)) w) ?_
    clear F; intro a F
    refine T_val F H kr (nw (((hashP p.l) ((k / 4))) >>> ((24 - (8 * (k % 4)))))) (fun w _ => R_shr (x := (.tmp 49)) (y := (.tmp 53)) rfl (k := .u32) (yk := .i64) (a := (((hashP p.l) ((k / 4)) : Nat) : Int)) (b := (((24 - (8 * (k % 4))) : Nat) : Int)) kr kr (Int.natCast_nonneg _) (shr_val (k := .u32) (by show _ ≤ 32; omega)) w) ?_
    clear F; intro a F
    refine T_val F H kr (nb ((hashP p.l (k / 4) >>> (24 - 8 * (k % 4))) % 256)) (fun w _ => R_conv (x := (.tmp 54)) rfl (k0 := .u32) kr kr (k := .u32) (a := (((hashP p.l (k / 4) >>> (24 - 8 * (k % 4))) : Nat) : Int)) kr wr8m w) ?_
    clear F; intro a F
    refine T_val F H kr (pt aq27 (0 + (k) * 1)) (fun w _ => R_index (k := .i64) (g := aq27) (off := 0) (x := (.tmp 8)) (y := (.tmp 45)) rfl Tryd.underlying23 kr (k) kr (by omega) (sz := 1) kr w) ?_
    clear F; intro a F
    refine T_set F H kr rfl 0 rfl _ (S_cell 0 rfl 5 (.tmp 56) (.tmp 55) rfl (0 + (k) * 1) kr (nb ((hashP p.l (k / 4) >>> (24 - 8 * (k % 4))) % 256)) kr rfl (by rw [arrF_size]; omega) _ Tryd.underlying5 rfl kr) [bk aq27 (arrF .u8 32 (upd (outQ p.l k) (k) (((hashP p.l (k / 4) >>> (24 - 8 * (k % 4))) % 256)))) 23, bk aq9 (arrF .u32 8 (hashP p.l)) 144, bk aq2 (arrF .u8 32 (outQ p.l 0)) 23] (by rw [show (0 + (k) * 1) = k by omega, arrF_upd _ (by omega)]; rfl) ?_
    clear F H; intro a v F H
    refine wpList_nil ?_
    rw [outQ_step] at H
    refine hK32 _ _ ?_
    clear hK32
    try clear K32
    refine C_region ?_
    refine T_k F H (ni k) ?_
    clear F; intro a F
    refine T_val F H kr (ni (k + 1)) (fun w _ => R_bin (x := (.tmp 43)) (y := (.const (.int .i64 1))) rfl (k := .i64) (a := ((k : Nat) : Int)) (b := ((1 : Nat) : Int)) kr kr (i_addn64 (a := k) (b := 1) (by omega)) w) ?_
    clear F; intro a F
    refine T_k F H (ni (k + 1)) ?_
    clear F; intro a F
    refine wpList_nil ?_
    replace F : Fm 58 [] [(9, ni (k + 1)), (8, pt aq27 0), (4, pt aq9 0), (2, pt aq2 0)] a := F.weak _ (subL_of kr)
    replace H : Hp [] w [bk aq27 (arrF .u8 32 (outQ p.l (k + 1))) 23, bk aq9 (arrF .u32 8 (hashP p.l)) 144, bk aq2 (arrF .u8 32 (outQ p.l 0)) 23] v := H
    exact ⟨m, Nat.lt_succ_self m, k + 1, by omega, F, H⟩
  have hkt : k = 32 := by omega
  try rw [hkt] at F
  try rw [hkt] at H
  clear hk
  refine C_seqK (fun K33 hK33 => ?_)
  refine C_seqK (fun K34 hK34 => ?_)
  refine C_region ?_
  refine T_k F H (ni 32) ?_
  clear F; intro a F
  refine T_val F H kr (.bool false) (fun w _ => R_bin (x := (.tmp 41)) (y := (.const (.int .i64 32))) rfl (k := .i64) (a := ((32 : Nat) : Int)) (b := ((32 : Nat) : Int)) kr kr (i_nlt (by omega)) w) ?_
  clear F; intro a F
  refine wpList_nil ?_
  refine hK34 _ _ ?_
  clear hK34
  try clear K34
  refine C_if F false rfl rfl ?_
  refine wp_exit ?_
  refine hK28 _ _ ?_
  clear hK28
  try clear K28
  refine C_seqK (fun K35 hK35 => ?_)
  rw [outQ_all, ← hfk] at H
  refine C_region ?_
  refine T_val F H kr (kyV fk) (R_load (own := true) (g := aq27) (all := (arrF .u8 32 fk)) (t := 23) (fr := (0, 0)) 0 kr 23 (.tmp 8) rfl 0 kr (arrF .u8 32 fk) (part_all _) _ Tryd.underlying23 rfl (by rw [arrF_size]; kernel_rfl)) ?_
  clear F; intro a F
  refine T_set F H kr rfl 2 rfl (arrF .u8 32 fk) (S_row 2 rfl 23 (.tmp 2) (.tmp 57) rfl kr (arrF .u8 32 fk) kr (by rw [arrF_size]; kernel_rfl) ((arrF_size _ _ _).trans (arrF_size _ _ _).symm) (arrF_one _ _ _)) [bk aq27 (arrF .u8 32 fk) 23, bk aq9 (arrF .u32 8 (hashP p.l)) 144, bk aq2 (arrF .u8 32 fk) 23] rfl ?_
  clear F H; intro a v F H
  refine wpList_nil ?_
  refine hK35 _ _ ?_
  clear hK35
  try clear K35
  refine wp_ret ?_
  exact C_ret F H (rs := [.cell 2 23]) rfl (vs := [kyV fk]) (.row 2 rfl rfl _ Tryd.underlying23 rfl kr .nil) (kyV fk) rfl ⟨rfl, H.kept⟩
end Go.Proofs.YtdejhenkdbjakaaDoor
