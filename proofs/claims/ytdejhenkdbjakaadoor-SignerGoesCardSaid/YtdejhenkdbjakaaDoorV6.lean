/- Walks: the reference's way along a chain, a digest's digits. -/
import Derived.Test.YtdejhenkdbjakaaDoorV5
set_option linter.unusedVariables false
set_option linter.unusedSimpArgs false
namespace Go.Proofs.YtdejhenkdbjakaaDoor
open Go Go.RowKit

theorem oct4 (a b c d : List Nat) : oct a ++ oct b ++ oct c ++ oct d = oct (a ++ (b ++ (c ++ d))) := by simp [ints]

set_option maxRecDepth 100000 in
set_option maxHeartbeats 4000000 in
theorem lalong_any (gl n : Nat) (tag : Nat → Nat) (ht : ∀ i, i < 32 → tag i < 256) (ch st to : Int) (hst : -4611686018427387904 ≤ st) (hto : to ≤ 4611686018427387904) (vv : Nat → Nat) (hv : ∀ i, i < 32 → vv i < 256) (w : World) (hm : w.heap[gl]? = some (.cells (lgr n) 32 (0, 0))) : Calls Tryd.prog 20 #[.pointer (some ⟨gl, 0, none⟩), .agg (arrF .u8 32 tag), .int .i64 ch, .int .i64 st, .int .i64 to, .agg (arrF .u8 32 vv)] w fun e w' => ∃ r : SlR, e = .returned (.agg (arrF .u8 32 (alF tag ch st vv (to - st).toNat))) ∧ True ∧ Kept [gl] w w' ∧ w'.heap[gl]? = some (.cells (lgr r.n) 32 (0, 0)) := by
  refine C_enter Tryd.func20 rfl 39 Tryd.ntmps20 (Nat.le_of_ble_eq_true rfl) (fun a F => ?_)
  have H := Hp.startX hm
  replace F : Fm 39 [] [(0, pt gl 0), (1, kyV tag), (2, .int .i64 ch), (3, .int .i64 st), (4, .int .i64 to), (5, kyV vv)] a := F.weak _ (subL_of kr)
  refine C_seqK (fun K1 hK1 => ?_)
  refine C_region ?_
  refine T_new F H kr (fun ad => pt ad 0) (ce (arrF .u8 32 tag) 23) (fun w => kr) ?_
  clear F H; intro aq2 a v F H
  refine T_new F H kr (fun ad => pt ad 0) (ce (arrF .u8 32 vv) 23) (fun w => kr) ?_
  clear F H; intro aq3 a v F H
  refine T_new F H kr (fun ad => pt ad 0) (ce z8 23) (fun w => kr) ?_
  clear F H; intro aq4 a v F H
  refine wpList_nil ?_
  refine hK1 _ _ ?_
  clear hK1
  try clear K1
  refine C_seqK (fun K5 hK5 => ?_)
  refine C_seqK (fun K6 hK6 => ?_)
  refine C_region ?_
  refine T_k F H (.int .i64 st) ?_
  clear F; intro a F
  refine T_k F H (.int .i64 st) ?_
  clear F; intro a F
  refine wpList_nil ?_
  replace F : Fm 39 [] [(13, .int .i64 st), (0, pt gl 0), (7, pt aq2 0), (2, .int .i64 ch), (11, pt aq3 0), (4, .int .i64 to), (12, pt aq4 0)] a := F.weak _ (subL_of kr)
  replace H : Hp [gl] w [bk aq3 (arrF .u8 32 vv) 23, bk aq2 (arrF .u8 32 tag) 23, bk aq4 z8 23, bk gl (lgr n) 32] v := H.pick [1, 2, 0, 3] kr _ rfl
  have e0 : st = st + ((0 : Nat) : Int) := by omega
  rw [show (Value.int .i64 st) = .int .i64 (st + ((0 : Nat) : Int)) from congrArg _ e0] at F
  refine hK6 _ _ ?_
  clear hK6
  try clear K6
  refine wp_block ?_
  refine C_loop (fun m a v => ∃ (k : Nat) (r : Nat), k + m = (to - st).toNat ∧ Fm 39 [] [(13, .int .i64 (st + ((k : Nat) : Int))), (0, pt gl 0), (7, pt aq2 0), (2, .int .i64 ch), (11, pt aq3 0), (4, .int .i64 to), (12, pt aq4 0)] a ∧ Hp [gl] w [bk aq3 (arrF .u8 32 (alF tag ch st vv k)) 23, bk aq2 (arrF .u8 32 tag) 23, bk aq4 z8 23, bk gl (lgr r) 32] v) ((to - st).toNat) ⟨0, n, Nat.zero_add _, F, H⟩ ?_
  clear F H
  intro m a v ⟨k, r, hk, F, H⟩
  rcases m with _ | m
  rotate_left
  · skip
    refine C_seqK (fun K7 hK7 => ?_)
    refine C_seqK (fun K8 hK8 => ?_)
    refine C_region ?_
    refine T_k F H (.int .i64 (st + ((k : Nat) : Int))) ?_
    clear F; intro a F
    refine T_k F H (.int .i64 to) ?_
    clear F; intro a F
    refine T_val F H kr (.bool true) (fun w _ => R_bin (x := (.tmp 16)) (y := (.tmp 17)) rfl (k := .i64) (a := (st + ((k : Nat) : Int))) (b := to) kr kr (i_lt (by omega)) w) ?_
    clear F; intro a F
    refine wpList_nil ?_
    refine hK8 _ _ ?_
    clear hK8
    try clear K8
    refine C_if F true rfl rfl ?_
    refine wp_skip ?_
    refine hK7 _ _ ?_
    clear hK7
    try clear K7
    refine C_seqK (fun K9 hK9 => ?_)
    refine wp_block ?_
    refine C_seqK (fun K10 hK10 => ?_)
    refine C_region ?_
    refine T_val F H kr (kyV tag) (R_load (own := true) (g := aq2) (all := (arrF .u8 32 tag)) (t := 23) (fr := (0, 0)) 1 kr 23 (.tmp 7) rfl 0 kr (arrF .u8 32 tag) (part_all _) _ Tryd.underlying23 rfl (by rw [arrF_size]; kernel_rfl)) ?_
    clear F; intro a F
    refine T_callX (α := SlR) F H kr 47 #[kyV tag] (fun rX => sc rX.g 0 32 rX.cap) (fun rX => [bk rX.g (sl (oct (kl tag)) rX.rest) 5, bk aq3 (arrF .u8 32 (alF tag ch st vv k)) 23, bk aq2 (arrF .u8 32 tag) 23, bk aq4 z8 23, bk gl (lgr r) 32]) (fun rX => Own (oct (kl tag)) rX.rest (32) rX.cap 1) (fun w => kr) (fun w H => callsX_newV H (bytesR_any tag _)) ?_
    clear F H; intro rq11 a v Qrq11 F H
    refine T_k F H (.int .i64 ch) ?_
    clear F; intro a F
    refine T_val F H kr (nu (u64n ch)) (fun w _ => R_conv (x := (.tmp 23)) rfl (k0 := .i64) kr kr (k := .i64) (a := ch) kr (wrapu64n _) w) ?_
    clear F; intro a F
    refine T_callX (α := SlR) F H kr 50 #[nu (u64n ch), ni 2] (fun rX => sc rX.g 0 2 rX.cap) (fun rX => [bk rX.g (sl (oct (hb ch 2)) rX.rest) 5, bk rq11.g (sl (oct (kl tag)) rq11.rest) 5, bk aq3 (arrF .u8 32 (alF tag ch st vv k)) 23, bk aq2 (arrF .u8 32 tag) 23, bk aq4 z8 23, bk gl (lgr r) 32]) (fun rX => Own (oct (hb ch 2)) rX.rest (2) rX.cap 1) (fun w => kr) (fun w H => callsX_newV H (highR_any (u64n ch) 2 (u64n_lt _) (by omega) (by omega) _)) ?_
    clear F H; intro rq12 a v Qrq12 F H
    refine T_app F H kr 54 5 (.tmp 22) (.tmp 25) rfl 1 1 kr kr 1 rfl Qrq11 kr (2) (oct (hb ch 2)) (fun w hk hl => (RdS.all (hl.at_ (k := 0) rfl) (Own.le Qrq12))) (by rw [ints_len]; first | rfl | simp [highL_len, hb_len]) (ints_one _ _) (by simp only [maxLen]; omega) (by omega) _ rfl ?_
    clear F H; intro rq13 a v Qrq13 F H
    refine T_k F H (sc rq13.g 0 (32 + 2) rq13.cap) ?_
    clear F; intro a F
    refine wpList_nil ?_
    refine hK10 _ _ ?_
    clear hK10
    try clear K10
    refine C_seqK (fun K14 hK14 => ?_)
    refine C_region ?_
    refine T_k F H (sc rq13.g 0 (32 + 2) rq13.cap) ?_
    clear F; intro a F
    refine T_k F H (.int .i64 (st + ((k : Nat) : Int))) ?_
    clear F; intro a F
    refine T_val F H kr (nu (u64n (st + ((k : Nat) : Int)))) (fun w _ => R_conv (x := (.tmp 28)) rfl (k0 := .i64) kr kr (k := .i64) (a := (st + ((k : Nat) : Int))) kr (wrapu64n _) w) ?_
    clear F; intro a F
    refine T_callX (α := SlR) F H kr 50 #[nu (u64n (st + ((k : Nat) : Int))), ni 2] (fun rX => sc rX.g 0 2 rX.cap) (fun rX => [bk rX.g (sl (oct (hb (st + ((k : Nat) : Int)) 2)) rX.rest) 5, bk rq13.g (sl ((oct (kl tag)) ++ (oct (hb ch 2))) rq13.rest) 5, bk rq12.g (sl (oct (hb ch 2)) rq12.rest) 5, bk aq3 (arrF .u8 32 (alF tag ch st vv k)) 23, bk aq2 (arrF .u8 32 tag) 23, bk aq4 z8 23, bk gl (lgr r) 32]) (fun rX => Own (oct (hb (st + ((k : Nat) : Int)) 2)) rX.rest (2) rX.cap 1) (fun w => kr) (fun w H => callsX_newV H (highR_any (u64n (st + ((k : Nat) : Int))) 2 (u64n_lt _) (by omega) (by omega) _)) ?_
    clear F H; intro rq15 a v Qrq15 F H
    refine T_app F H kr 54 5 (.tmp 27) (.tmp 30) rfl 1 1 kr kr 1 rfl Qrq13 kr (2) (oct (hb (st + ((k : Nat) : Int)) 2)) (fun w hk hl => (RdS.all (hl.at_ (k := 0) rfl) (Own.le Qrq15))) (by rw [ints_len]; first | rfl | simp [highL_len, hb_len]) (ints_one _ _) (by simp only [maxLen]; omega) (by omega) _ rfl ?_
    clear F H; intro rq16 a v Qrq16 F H
    refine T_k F H (sc rq16.g 0 ((32 + 2) + 2) rq16.cap) ?_
    clear F; intro a F
    refine wpList_nil ?_
    refine hK14 _ _ ?_
    clear hK14
    try clear K14
    refine C_region ?_
    refine T_k F H (pt gl 0) ?_
    clear F; intro a F
    refine T_k F H (sc rq16.g 0 ((32 + 2) + 2) rq16.cap) ?_
    clear F; intro a F
    refine T_val F H kr (kyV (alF tag ch st vv k)) (R_load (own := true) (g := aq3) (all := (arrF .u8 32 (alF tag ch st vv k))) (t := 23) (fr := (0, 0)) 3 kr 23 (.tmp 11) rfl 0 kr (arrF .u8 32 (alF tag ch st vv k)) (part_all _) _ Tryd.underlying23 rfl (by rw [arrF_size]; kernel_rfl)) ?_
    clear F; intro a F
    refine T_callX (α := SlR) F H kr 47 #[kyV (alF tag ch st vv k)] (fun rX => sc rX.g 0 32 rX.cap) (fun rX => [bk rX.g (sl (oct (kl (alF tag ch st vv k))) rX.rest) 5, bk rq16.g (sl (((oct (kl tag)) ++ (oct (hb ch 2))) ++ (oct (hb (st + ((k : Nat) : Int)) 2))) rq16.rest) 5, bk rq15.g (sl (oct (hb (st + ((k : Nat) : Int)) 2)) rq15.rest) 5, bk rq12.g (sl (oct (hb ch 2)) rq12.rest) 5, bk aq3 (arrF .u8 32 (alF tag ch st vv k)) 23, bk aq2 (arrF .u8 32 tag) 23, bk aq4 z8 23, bk gl (lgr r) 32]) (fun rX => Own (oct (kl (alF tag ch st vv k))) rX.rest (32) rX.cap 1) (fun w => kr) (fun w H => callsX_newV H (bytesR_any (alF tag ch st vv k) _)) ?_
    clear F H; intro rq17 a v Qrq17 F H
    refine T_app F H kr 54 5 (.tmp 33) (.tmp 35) rfl 1 1 kr kr 1 rfl Qrq16 kr (32) (oct (kl (alF tag ch st vv k))) (fun w hk hl => (RdS.all (hl.at_ (k := 0) rfl) (Own.le Qrq17))) (by rw [ints_len]; first | rfl | simp [highL_len, hb_len]) (ints_one _ _) (by simp only [maxLen]; omega) (by omega) _ rfl ?_
    clear F H; intro rq18 a v Qrq18 F H
    have hc9 : (((oct (kl tag)) ++ (oct (hb ch 2))) ++ (oct (hb (st + ((k : Nat) : Int)) 2))) ++ (oct (kl (alF tag ch st vv k))) = oct (kl tag ++ (hb ch 2 ++ (hb (st + ((k : Nat) : Int)) 2 ++ kl (alF tag ch st vv k)))) := oct4 _ _ _ _
    rw [hc9] at H Qrq18
    refine T_callX (α := SlR) F H kr 51 #[pt gl 0, sc rq18.g 0 (((32 + 2) + 2) + 32) rq18.cap] (fun rX => kyV (alF tag ch st vv (k + 1))) (fun rX => [bk rq18.g (sl (oct (kl tag ++ (hb ch 2 ++ (hb (st + ((k : Nat) : Int)) 2 ++ kl (alF tag ch st vv k))))) rq18.rest) 5, bk rq17.g (sl (oct (kl (alF tag ch st vv k))) rq17.rest) 5, bk rq15.g (sl (oct (hb (st + ((k : Nat) : Int)) 2)) rq15.rest) 5, bk rq12.g (sl (oct (hb ch 2)) rq12.rest) 5, bk aq3 (arrF .u8 32 (alF tag ch st vv k)) 23, bk aq2 (arrF .u8 32 tag) 23, bk aq4 z8 23, bk gl (lgr rX.n) 32]) (fun rX => True) (fun w => kr) (fun w H => callsX_putV H (k := 7) rfl (lsum_blk gl r rq18.g ((((32 + 2) + 2) + 32)) (rq18.cap) (kl tag ++ (hb ch 2 ++ (hb (st + ((k : Nat) : Int)) 2 ++ kl (alF tag ch st vv k)))) _ (by simp only [List.length_append, kl_len, hb_len]) Qrq18.le (by decide) (alF_b ht hv k) _ (H.at_ (k := 0) rfl) (H.at_ (k := 7) rfl))) ?_
    clear F H; intro rq19 a v Qrq19 F H
    refine T_set F H kr rfl 4 rfl (arrF .u8 32 (alF tag ch st vv (k + 1))) (S_row 4 rfl 23 (.tmp 11) (.tmp 37) rfl kr (arrF .u8 32 (alF tag ch st vv (k + 1))) kr (by rw [arrF_size]; kernel_rfl) ((arrF_size _ _ _).trans (arrF_size _ _ _).symm) (arrF_one _ _ _)) [bk rq18.g (sl (oct (kl tag ++ (hb ch 2 ++ (hb (st + ((k : Nat) : Int)) 2 ++ kl (alF tag ch st vv k))))) rq18.rest) 5, bk rq17.g (sl (oct (kl (alF tag ch st vv k))) rq17.rest) 5, bk rq15.g (sl (oct (hb (st + ((k : Nat) : Int)) 2)) rq15.rest) 5, bk rq12.g (sl (oct (hb ch 2)) rq12.rest) 5, bk aq3 (arrF .u8 32 (alF tag ch st vv (k + 1))) 23, bk aq2 (arrF .u8 32 tag) 23, bk aq4 z8 23, bk gl (lgr rq19.n) 32] rfl ?_
    clear F H; intro a v F H
    refine wpList_nil ?_
    replace H : Hp [gl] w [bk aq3 (arrF .u8 32 (alF tag ch st vv (k + 1))) 23, bk aq2 (arrF .u8 32 tag) 23, bk aq4 z8 23, bk gl (lgr rq19.n) 32] v := H.pick [4, 5, 6, 7] kr _ rfl
    refine hK9 _ _ ?_
    clear hK9
    try clear K9
    refine C_region ?_
    refine T_k F H (.int .i64 (st + ((k : Nat) : Int))) ?_
    clear F; intro a F
    refine T_val F H kr (.int .i64 (st + ((k + 1 : Nat) : Int))) (fun w _ => R_bin (x := (.tmp 19)) (y := (.const (.int .i64 1))) rfl (k := .i64) (a := (st + ((k : Nat) : Int))) (b := 1) kr kr (i_add64 (by omega) (by omega)) w) ?_
    clear F; intro a F
    refine T_k F H (.int .i64 (st + ((k + 1 : Nat) : Int))) ?_
    clear F; intro a F
    refine wpList_nil ?_
    replace F : Fm 39 [] [(13, .int .i64 (st + ((k + 1 : Nat) : Int))), (0, pt gl 0), (7, pt aq2 0), (2, .int .i64 ch), (11, pt aq3 0), (4, .int .i64 to), (12, pt aq4 0)] a := F.weak _ (subL_of kr)
    replace H : Hp [gl] w [bk aq3 (arrF .u8 32 (alF tag ch st vv (k + 1))) 23, bk aq2 (arrF .u8 32 tag) 23, bk aq4 z8 23, bk gl (lgr rq19.n) 32] v := H
    exact ⟨m, Nat.lt_succ_self m, k + 1, rq19.n, by omega, F, H⟩
  have hkt : k = (to - st).toNat := by omega
  try rw [hkt] at F
  try rw [hkt] at H
  clear hk
  refine C_seqK (fun K20 hK20 => ?_)
  refine C_seqK (fun K21 hK21 => ?_)
  refine C_region ?_
  refine T_k F H (.int .i64 (st + (((to - st).toNat : Nat) : Int))) ?_
  clear F; intro a F
  refine T_k F H (.int .i64 to) ?_
  clear F; intro a F
  refine T_val F H kr (.bool false) (fun w _ => R_bin (x := (.tmp 16)) (y := (.tmp 17)) rfl (k := .i64) (a := (st + (((to - st).toNat : Nat) : Int))) (b := to) kr kr (i_nlt (by omega)) w) ?_
  clear F; intro a F
  refine wpList_nil ?_
  refine hK21 _ _ ?_
  clear hK21
  try clear K21
  refine C_if F false rfl rfl ?_
  refine wp_exit ?_
  refine hK5 _ _ ?_
  clear hK5
  try clear K5
  refine C_seqK (fun K22 hK22 => ?_)
  refine C_region ?_
  refine T_val F H kr (kyV (alF tag ch st vv ((to - st).toNat))) (R_load (own := true) (g := aq3) (all := (arrF .u8 32 (alF tag ch st vv ((to - st).toNat)))) (t := 23) (fr := (0, 0)) 0 kr 23 (.tmp 11) rfl 0 kr (arrF .u8 32 (alF tag ch st vv ((to - st).toNat))) (part_all _) _ Tryd.underlying23 rfl (by rw [arrF_size]; kernel_rfl)) ?_
  clear F; intro a F
  refine T_set F H kr rfl 2 rfl (arrF .u8 32 (alF tag ch st vv ((to - st).toNat))) (S_row 2 rfl 23 (.tmp 12) (.tmp 38) rfl kr (arrF .u8 32 (alF tag ch st vv ((to - st).toNat))) kr (by rw [arrF_size]; kernel_rfl) (by rw [arrF_size]; kernel_rfl) (arrF_one _ _ _)) [bk aq3 (arrF .u8 32 (alF tag ch st vv ((to - st).toNat))) 23, bk aq2 (arrF .u8 32 tag) 23, bk aq4 (arrF .u8 32 (alF tag ch st vv ((to - st).toNat))) 23, bk gl (lgr r) 32] rfl ?_
  clear F H; intro a v F H
  refine wpList_nil ?_
  refine hK22 _ _ ?_
  clear hK22
  try clear K22
  refine wp_ret ?_
  exact C_ret F H (rs := [.cell 12 23]) rfl (vs := [kyV (alF tag ch st vv ((to - st).toNat))]) (.row 2 rfl rfl _ Tryd.underlying23 rfl kr .nil) (kyV (alF tag ch st vv ((to - st).toNat))) rfl ⟨⟨0, 0, [], r⟩, rfl, trivial, H.kept, H.at_ (k := 3) rfl⟩

/-- One digit; the first k of them. -/
def dgt (f : Nat → Nat) (i : Nat) : Nat := if i % 2 = 1 then f (i / 2) % 16 else f (i / 2) / 16
def dgs (f : Nat → Nat) (k : Nat) : List Nat := (List.range k).map (dgt f)
theorem dgs_next (f : Nat → Nat) (k : Nat) : dgs f k ++ [dgt f k] = dgs f (k + 1) := by unfold dgs; rw [List.range_succ, List.map_append]; rfl
theorem dgs_two (f : Nat → Nat) : ∀ k, dgs f (2 * k) = digB f k
  | 0 => rfl
  | k + 1 => by
    rw [digB, ← dgs_two f k, show 2 * (k + 1) = 2 * k + 1 + 1 from by omega, ← dgs_next, ← dgs_next, List.append_assoc]
    have e1 : dgt f (2 * k) = f k / 16 := by unfold dgt; rw [if_neg (by omega), show 2 * k / 2 = k from by omega]
    have e2 : dgt f (2 * k + 1) = f k % 16 := by unfold dgt; rw [if_pos (by omega), show (2 * k + 1) / 2 = k from by omega]
    rw [e1, e2]; rfl
theorem dgt_lt {f : Nat → Nat} (h : ∀ i, i < 32 → f i < 256) {k : Nat} (hk : k < 64) : dgt f k < 16 := by
  have := h (k / 2) (by omega)
  unfold dgt; split <;> omega
theorem dgs_lack (f : Nat → Nat) (k : Nat) : lackN (dgs f (k + 1)) = lackN (dgs f k) + (15 - dgt f k) := by
  rw [← dgs_next, lackN_app]; simp [lackN]
theorem dgs_le (f : Nat → Nat) (k : Nat) : lackN (dgs f k) ≤ 15 * k := by
  have := lackN_le (dgs f k)
  unfold dgs at this ⊢
  rw [List.length_map, List.length_range] at this
  exact this

theorem i_eqd {k : IntKind} {a b : Nat} : intRes .eql k (a : Int) (b : Int) = some (.bool (decide (a = b))) := by
  by_cases h : a = b
  · rw [decide_eq_true h]; exact i_eq (by omega)
  · rw [decide_eq_false h]; exact i_neq (by omega)

set_option maxRecDepth 100000 in
set_option maxHeartbeats 4000000 in
theorem digitsR_any (fd : Nat → Nat) (hfd : ∀ i, i < 32 → fd i < 256) (w : World) : Calls Tryd.prog 17 #[.agg (arrF .u8 32 fd)] w (MadeS [] 3 1 67 (ints .i64 (digL fd)) w) := by
  refine C_enter Tryd.func17 rfl 44 Tryd.ntmps17 (Nat.le_of_ble_eq_true rfl) (fun a F => ?_)
  have H := Hp.start [] w
  replace F : Fm 44 [] [(0, kyV fd)] a := F.weak _ (subL_of kr)
  refine C_seqK (fun K1 hK1 => ?_)
  refine C_region ?_
  refine T_new F H kr (fun ad => pt ad 0) (ce (arrF .u8 32 fd) 23) (fun w => kr) ?_
  clear F H; intro aq2 a v F H
  refine T_k F H (.slice none 0 0) ?_
  clear F; intro a F
  refine wpList_nil ?_
  refine hK1 _ _ ?_
  clear hK1
  try clear K1
  refine C_seqK (fun K3 hK3 => ?_)
  refine C_region ?_
  refine T_k F H (.slice none 0 0) ?_
  clear F; intro a F
  refine wpList_nil ?_
  refine hK3 _ _ ?_
  clear hK3
  try clear K3
  refine C_seqK (fun K4 hK4 => ?_)
  refine C_region ?_
  refine T_k F H (ni 0) ?_
  clear F; intro a F
  refine wpList_nil ?_
  refine hK4 _ _ ?_
  clear hK4
  try clear K4
  refine C_seqK (fun K5 hK5 => ?_)
  refine C_seqK (fun K6 hK6 => ?_)
  refine C_region ?_
  refine T_k F H (ni 0) ?_
  clear F; intro a F
  refine wpList_nil ?_
  replace F : Fm 44 [] [(5, ni 0), (3, .slice none 0 0), (4, ni 0), (1, pt aq2 0)] a := F.weak _ (subL_of kr)
  refine hK6 _ _ ?_
  clear hK6
  try clear K6
  refine wp_block ?_
  refine C_loop (fun m a v => (m = 64 ∧ Fm 44 [] [(5, ni 0), (3, .slice none 0 0), (4, ni 0), (1, pt aq2 0)] a ∧ Hp [] w [bk aq2 (arrF .u8 32 fd) 23] v) ∨ (∃ (k : Nat) (r : SlR), k + m = 64 ∧ 1 ≤ k ∧ Own (ints .i64 (dgs fd k)) r.rest k r.cap 1 ∧ Fm 44 [] [(5, ni k), (3, sc r.g 0 k r.cap), (4, ni (lackN (dgs fd k))), (1, pt aq2 0)] a ∧ Hp [] w [bk r.g (sl (ints .i64 (dgs fd k)) r.rest) 3, bk aq2 (arrF .u8 32 fd) 23] v)) (64) (.inl ⟨rfl, F, H⟩) ?_
  clear F H
  intro m a v hS
  rcases hS with ⟨hk0, F, H⟩ | ⟨k, r, hk, hk1, hO, F, H⟩
  · obtain ⟨m, rfl⟩ : ∃ q, m = q + 1 := ⟨m - 1, by omega⟩
    have hb9 := hfd (0 / 2) (by omega)
    have hdk := dgt_lt hfd (k := 0) (by omega)
    have hlk := dgs_lack fd 0
    have hle := dgs_le fd (0 + 1)
    have hle0 := dgs_le fd 0
    refine C_seqK (fun K7 hK7 => ?_)
    refine C_seqK (fun K8 hK8 => ?_)
    refine C_region ?_
    refine T_k F H (ni 0) ?_
    clear F; intro a F
    refine T_val F H kr (.bool true) (fun w _ => R_bin (x := (.tmp 7)) (y := (.const (.int .i64 64))) rfl (k := .i64) (a := ((0 : Nat) : Int)) (b := ((64 : Nat) : Int)) kr kr (i_lt (by omega)) w) ?_
    clear F; intro a F
    refine wpList_nil ?_
    refine hK8 _ _ ?_
    clear hK8
    try clear K8
    refine C_if F true rfl rfl ?_
    refine wp_skip ?_
    refine hK7 _ _ ?_
    clear hK7
    try clear K7
    refine C_seqK (fun K9 hK9 => ?_)
    refine wp_block ?_
    refine C_seqK (fun K10 hK10 => ?_)
    refine C_region ?_
    refine T_k F H (ni 0) ?_
    clear F; intro a F
    refine T_val F H kr (ni (0 / 2)) (fun w _ => R_bin (x := (.tmp 11)) (y := (.const (.int .i64 2))) rfl (k := .i64) (a := ((0 : Nat) : Int)) (b := ((2 : Nat) : Int)) kr kr (i_quo64 (a := 0) (b := 2) (by decide) (by omega)) w) ?_
    clear F; intro a F
    refine T_val F H kr (pt aq2 (0 + ((0 / 2)) * 1)) (fun w _ => R_index (k := .i64) (g := aq2) (off := 0) (x := (.tmp 1)) (y := (.tmp 12)) rfl Tryd.underlying23 kr ((0 / 2)) kr (by omega) (sz := 1) kr w) ?_
    clear F; intro a F
    refine T_val F H kr (nb (fd ((0 / 2)))) (R_cell (own := true) (g := aq2) (all := (arrF .u8 32 fd)) (t := 23) (fr := (0, 0)) 0 kr 5 (.tmp 13) rfl (0 + ((0 / 2)) * 1) kr (nb (fd ((0 / 2)))) ((congrArg (fun q => ((arrF .u8 32 fd))[q]?) (show (0 + ((0 / 2)) * 1) = (0 / 2) by omega)).trans (arrF_get fd (by omega))) _ Tryd.underlying5 rfl) ?_
    clear F; intro a F
    refine T_val F H kr (ni (fd ((0 / 2)))) (fun w _ => R_conv (x := (.tmp 14)) rfl (k0 := .u8) kr kr (k := .u8) (a := ((fd ((0 / 2)) : Nat) : Int)) kr (wrn64 (a := fd ((0 / 2))) (by omega)) w) ?_
    clear F; intro a F
    refine T_val F H kr (ni (fd (0 / 2) / 16)) (fun w _ => R_bin (x := (.tmp 15)) (y := (.const (.int .i64 16))) rfl (k := .i64) (a := ((fd ((0 / 2)) : Nat) : Int)) (b := ((16 : Nat) : Int)) kr kr (i_quo64 (a := fd (0 / 2)) (b := 16) (by decide) (by omega)) w) ?_
    clear F; intro a F
    refine T_k F H (ni (fd (0 / 2) / 16)) ?_
    clear F; intro a F
    refine wpList_nil ?_
    refine hK10 _ _ ?_
    clear hK10
    try clear K10
    refine C_seqK (fun K11 hK11 => ?_)
    refine C_seqK (fun K12 hK12 => ?_)
    refine C_region ?_
    refine T_k F H (ni 0) ?_
    clear F; intro a F
    refine T_val F H kr (ni (0 % 2)) (fun w _ => R_bin (x := (.tmp 17)) (y := (.const (.int .i64 2))) rfl (k := .i64) (a := ((0 : Nat) : Int)) (b := ((2 : Nat) : Int)) kr kr (i_rem64 (a := 0) (b := 2) (by decide)) w) ?_
    clear F; intro a F
    refine T_val F H kr (.bool (decide (0 % 2 = 1))) (fun w _ => R_bin (x := (.tmp 18)) (y := (.const (.int .i64 1))) rfl (k := .i64) (a := (((0 % 2) : Nat) : Int)) (b := ((1 : Nat) : Int)) kr kr i_eqd w) ?_
    clear F; intro a F
    refine wpList_nil ?_
    refine hK12 _ _ ?_
    clear hK12
    try clear K12
    refine C_lastK (fun K13 hK13 => ?_)
    refine (fun (hN : ∀ a v, Fm 44 [] [(5, ni 0), (3, .slice none 0 0), (4, ni 0), (1, pt aq2 0), (6, ni (dgt fd 0))] a → Hp [] w [bk aq2 (arrF .u8 32 fd) 23] v → K13 a v) => ?_) (fun a v F H => hK13 _ _ ?_)
    · clear hK13
      by_cases hc : 0 % 2 = 1
      · rw [decide_eq_true hc] at F
        refine C_if F true rfl rfl ?_
        refine C_region ?_
        refine T_k F H (ni 0) ?_
        clear F; intro a F
        refine T_val F H kr (ni (0 / 2)) (fun w _ => R_bin (x := (.tmp 20)) (y := (.const (.int .i64 2))) rfl (k := .i64) (a := ((0 : Nat) : Int)) (b := ((2 : Nat) : Int)) kr kr (i_quo64 (a := 0) (b := 2) (by decide) (by omega)) w) ?_
        clear F; intro a F
        refine T_val F H kr (pt aq2 (0 + ((0 / 2)) * 1)) (fun w _ => R_index (k := .i64) (g := aq2) (off := 0) (x := (.tmp 1)) (y := (.tmp 21)) rfl Tryd.underlying23 kr ((0 / 2)) kr (by omega) (sz := 1) kr w) ?_
        clear F; intro a F
        refine T_val F H kr (nb (fd ((0 / 2)))) (R_cell (own := true) (g := aq2) (all := (arrF .u8 32 fd)) (t := 23) (fr := (0, 0)) 0 kr 5 (.tmp 22) rfl (0 + ((0 / 2)) * 1) kr (nb (fd ((0 / 2)))) ((congrArg (fun q => ((arrF .u8 32 fd))[q]?) (show (0 + ((0 / 2)) * 1) = (0 / 2) by omega)).trans (arrF_get fd (by omega))) _ Tryd.underlying5 rfl) ?_
        clear F; intro a F
        refine T_val F H kr (ni (fd ((0 / 2)))) (fun w _ => R_conv (x := (.tmp 23)) rfl (k0 := .u8) kr kr (k := .u8) (a := ((fd ((0 / 2)) : Nat) : Int)) kr (wrn64 (a := fd ((0 / 2))) (by omega)) w) ?_
        clear F; intro a F
        refine T_val F H kr (ni (fd (0 / 2) % 16)) (fun w _ => R_bin (x := (.tmp 24)) (y := (.const (.int .i64 16))) rfl (k := .i64) (a := ((fd ((0 / 2)) : Nat) : Int)) (b := ((16 : Nat) : Int)) kr kr (i_rem64 (a := fd (0 / 2)) (b := 16) (by decide)) w) ?_
        clear F; intro a F
        refine T_k F H (ni (fd (0 / 2) % 16)) ?_
        clear F; intro a F
        refine wpList_nil ?_
        have hdg : dgt fd 0 = fd (0 / 2) % 16 := if_pos hc
        rw [← hdg] at F
        exact hN _ _ (F.weak _ (subL_of kr)) H
      · rw [decide_eq_false hc] at F
        refine C_if F false rfl rfl ?_
        refine wp_skip ?_
        have hdg : dgt fd 0 = fd (0 / 2) / 16 := if_neg hc
        rw [← hdg] at F
        exact hN _ _ (F.weak _ (subL_of kr)) H
    clear hK13
    try clear K13
    refine hK11 _ _ ?_
    clear hK11
    try clear K11
    refine C_seqK (fun K14 hK14 => ?_)
    refine C_region ?_
    refine T_k F H (.slice none 0 0) ?_
    clear F; intro a F
    refine T_k F H (ni (dgt fd 0)) ?_
    clear F; intro a F
    refine T_new F H kr (fun ad => sc ad 0 1 1) (ce (sl (ints .i64 [dgt fd 0]) []) 3) (fun w => R_buildS (len := 1) rfl Tryd.underlying25 ((sl (ints .i64 [dgt fd 0]) [])) kr w) ?_
    clear F H; intro aq15 a v F H
    refine T_appN F H kr 25 3 (.tmp 26) (.tmp 28) rfl 1 8 kr kr kr (1) (ints .i64 [dgt fd 0]) (fun w hk hl => (RdS.all (hl.at_ (k := 0) rfl) (Nat.le_refl _))) (by rw [ints_len]; first | rfl | simp [highL_len, hb_len]) (by decide) (by simp only [maxLen]; decide) (by decide) ?_
    clear F H; intro rq16 a v Qrq16 F H
    refine T_k F H (sc rq16.g 0 1 rq16.cap) ?_
    clear F; intro a F
    refine wpList_nil ?_
    have hc9 : ints .i64 [dgt fd 0] = ints .i64 (dgs fd 1) := congrArg (ints .i64) (dgs_next fd 0)
    rw [hc9] at H Qrq16
    replace Qrq16 : Own (ints .i64 (dgs fd 1)) rq16.rest 1 rq16.cap 1 := Qrq16
    replace H : Hp [] w [bk rq16.g (sl (ints .i64 (dgs fd 1)) rq16.rest) 3, bk aq2 (arrF .u8 32 fd) 23] v := H.pick [0, 2] kr _ rfl
    refine hK14 _ _ ?_
    clear hK14
    try clear K14
    refine C_region ?_
    refine T_k F H (ni 0) ?_
    clear F; intro a F
    refine T_val F H kr (ni (0 + 15)) (fun w _ => R_bin (x := (.tmp 30)) (y := (.const (.int .i64 15))) rfl (k := .i64) (a := ((0 : Nat) : Int)) (b := ((15 : Nat) : Int)) kr kr (i_addn64 (a := 0) (b := 15) (by omega)) w) ?_
    clear F; intro a F
    refine T_k F H (ni (dgt fd 0)) ?_
    clear F; intro a F
    refine T_val F H kr (ni (lackN (dgs fd 1))) (fun w _ => R_bin (x := (.tmp 31)) (y := (.tmp 32)) rfl (k := .i64) (a := (((0 + 15) : Nat) : Int)) (b := ((dgt fd 0 : Nat) : Int)) kr kr ((i_subn64 (a := 0 + 15) (b := dgt fd 0) (by omega) (by omega)).trans (congrArg (fun q : Nat => some (Value.int .i64 (q : Int))) (show 0 + 15 - dgt fd 0 = lackN (dgs fd 1) from (by rw [show lackN (dgs fd 1) = lackN (dgs fd 0) + (15 - dgt fd 0) from dgs_lack fd 0]; simp [dgs, lackN] <;> omega)))) w) ?_
    clear F; intro a F
    refine T_k F H (ni (lackN (dgs fd 1))) ?_
    clear F; intro a F
    refine wpList_nil ?_
    refine hK9 _ _ ?_
    clear hK9
    try clear K9
    refine C_region ?_
    refine T_k F H (ni 0) ?_
    clear F; intro a F
    refine T_k F H (ni 1) ?_
    clear F; intro a F
    refine T_k F H (ni 1) ?_
    clear F; intro a F
    refine wpList_nil ?_
    replace F : Fm 44 [] [(5, ni 1), (3, sc rq16.g 0 1 rq16.cap), (4, ni (lackN (dgs fd 1))), (1, pt aq2 0)] a := F.weak _ (subL_of kr)
    replace H : Hp [] w [bk rq16.g (sl (ints .i64 (dgs fd 1)) rq16.rest) 3, bk aq2 (arrF .u8 32 fd) 23] v := H
    exact ⟨m, Nat.lt_succ_self m, .inr ⟨1, rq16, by omega, by omega, Qrq16, F, H⟩⟩
  rcases m with _ | m
  rotate_left
  · skip
    have hb9 := hfd (k / 2) (by omega)
    have hdk := dgt_lt hfd (k := k) (by omega)
    have hlk := dgs_lack fd k
    have hle := dgs_le fd (k + 1)
    have hle0 := dgs_le fd k
    refine C_seqK (fun K17 hK17 => ?_)
    refine C_seqK (fun K18 hK18 => ?_)
    refine C_region ?_
    refine T_k F H (ni k) ?_
    clear F; intro a F
    refine T_val F H kr (.bool true) (fun w _ => R_bin (x := (.tmp 7)) (y := (.const (.int .i64 64))) rfl (k := .i64) (a := ((k : Nat) : Int)) (b := ((64 : Nat) : Int)) kr kr (i_lt (by omega)) w) ?_
    clear F; intro a F
    refine wpList_nil ?_
    refine hK18 _ _ ?_
    clear hK18
    try clear K18
    refine C_if F true rfl rfl ?_
    refine wp_skip ?_
    refine hK17 _ _ ?_
    clear hK17
    try clear K17
    refine C_seqK (fun K19 hK19 => ?_)
    refine wp_block ?_
    refine C_seqK (fun K20 hK20 => ?_)
    refine C_region ?_
    refine T_k F H (ni k) ?_
    clear F; intro a F
    refine T_val F H kr (ni (k / 2)) (fun w _ => R_bin (x := (.tmp 11)) (y := (.const (.int .i64 2))) rfl (k := .i64) (a := ((k : Nat) : Int)) (b := ((2 : Nat) : Int)) kr kr (i_quo64 (a := k) (b := 2) (by decide) (by omega)) w) ?_
    clear F; intro a F
    refine T_val F H kr (pt aq2 (0 + ((k / 2)) * 1)) (fun w _ => R_index (k := .i64) (g := aq2) (off := 0) (x := (.tmp 1)) (y := (.tmp 12)) rfl Tryd.underlying23 kr ((k / 2)) kr (by omega) (sz := 1) kr w) ?_
    clear F; intro a F
    refine T_val F H kr (nb (fd ((k / 2)))) (R_cell (own := true) (g := aq2) (all := (arrF .u8 32 fd)) (t := 23) (fr := (0, 0)) 1 kr 5 (.tmp 13) rfl (0 + ((k / 2)) * 1) kr (nb (fd ((k / 2)))) ((congrArg (fun q => ((arrF .u8 32 fd))[q]?) (show (0 + ((k / 2)) * 1) = (k / 2) by omega)).trans (arrF_get fd (by omega))) _ Tryd.underlying5 rfl) ?_
    clear F; intro a F
    refine T_val F H kr (ni (fd ((k / 2)))) (fun w _ => R_conv (x := (.tmp 14)) rfl (k0 := .u8) kr kr (k := .u8) (a := ((fd ((k / 2)) : Nat) : Int)) kr (wrn64 (a := fd ((k / 2))) (by omega)) w) ?_
    clear F; intro a F
    refine T_val F H kr (ni (fd (k / 2) / 16)) (fun w _ => R_bin (x := (.tmp 15)) (y := (.const (.int .i64 16))) rfl (k := .i64) (a := ((fd ((k / 2)) : Nat) : Int)) (b := ((16 : Nat) : Int)) kr kr (i_quo64 (a := fd (k / 2)) (b := 16) (by decide) (by omega)) w) ?_
    clear F; intro a F
    refine T_k F H (ni (fd (k / 2) / 16)) ?_
    clear F; intro a F
    refine wpList_nil ?_
    refine hK20 _ _ ?_
    clear hK20
    try clear K20
    refine C_seqK (fun K21 hK21 => ?_)
    refine C_seqK (fun K22 hK22 => ?_)
    refine C_region ?_
    refine T_k F H (ni k) ?_
    clear F; intro a F
    refine T_val F H kr (ni (k % 2)) (fun w _ => R_bin (x := (.tmp 17)) (y := (.const (.int .i64 2))) rfl (k := .i64) (a := ((k : Nat) : Int)) (b := ((2 : Nat) : Int)) kr kr (i_rem64 (a := k) (b := 2) (by decide)) w) ?_
    clear F; intro a F
    refine T_val F H kr (.bool (decide (k % 2 = 1))) (fun w _ => R_bin (x := (.tmp 18)) (y := (.const (.int .i64 1))) rfl (k := .i64) (a := (((k % 2) : Nat) : Int)) (b := ((1 : Nat) : Int)) kr kr i_eqd w) ?_
    clear F; intro a F
    refine wpList_nil ?_
    refine hK22 _ _ ?_
    clear hK22
    try clear K22
    refine C_lastK (fun K23 hK23 => ?_)
    refine (fun (hN : ∀ a v, Fm 44 [] [(5, ni k), (3, sc r.g 0 k r.cap), (4, ni (lackN (dgs fd k))), (1, pt aq2 0), (6, ni (dgt fd k))] a → Hp [] w [bk r.g (sl (ints .i64 (dgs fd k)) r.rest) 3, bk aq2 (arrF .u8 32 fd) 23] v → K23 a v) => ?_) (fun a v F H => hK23 _ _ ?_)
    · clear hK23
      by_cases hc : k % 2 = 1
      · rw [decide_eq_true hc] at F
        refine C_if F true rfl rfl ?_
        refine C_region ?_
        refine T_k F H (ni k) ?_
        clear F; intro a F
        refine T_val F H kr (ni (k / 2)) (fun w _ => R_bin (x := (.tmp 20)) (y := (.const (.int .i64 2))) rfl (k := .i64) (a := ((k : Nat) : Int)) (b := ((2 : Nat) : Int)) kr kr (i_quo64 (a := k) (b := 2) (by decide) (by omega)) w) ?_
        clear F; intro a F
        refine T_val F H kr (pt aq2 (0 + ((k / 2)) * 1)) (fun w _ => R_index (k := .i64) (g := aq2) (off := 0) (x := (.tmp 1)) (y := (.tmp 21)) rfl Tryd.underlying23 kr ((k / 2)) kr (by omega) (sz := 1) kr w) ?_
        clear F; intro a F
        refine T_val F H kr (nb (fd ((k / 2)))) (R_cell (own := true) (g := aq2) (all := (arrF .u8 32 fd)) (t := 23) (fr := (0, 0)) 1 kr 5 (.tmp 22) rfl (0 + ((k / 2)) * 1) kr (nb (fd ((k / 2)))) ((congrArg (fun q => ((arrF .u8 32 fd))[q]?) (show (0 + ((k / 2)) * 1) = (k / 2) by omega)).trans (arrF_get fd (by omega))) _ Tryd.underlying5 rfl) ?_
        clear F; intro a F
        refine T_val F H kr (ni (fd ((k / 2)))) (fun w _ => R_conv (x := (.tmp 23)) rfl (k0 := .u8) kr kr (k := .u8) (a := ((fd ((k / 2)) : Nat) : Int)) kr (wrn64 (a := fd ((k / 2))) (by omega)) w) ?_
        clear F; intro a F
        refine T_val F H kr (ni (fd (k / 2) % 16)) (fun w _ => R_bin (x := (.tmp 24)) (y := (.const (.int .i64 16))) rfl (k := .i64) (a := ((fd ((k / 2)) : Nat) : Int)) (b := ((16 : Nat) : Int)) kr kr (i_rem64 (a := fd (k / 2)) (b := 16) (by decide)) w) ?_
        clear F; intro a F
        refine T_k F H (ni (fd (k / 2) % 16)) ?_
        clear F; intro a F
        refine wpList_nil ?_
        have hdg : dgt fd k = fd (k / 2) % 16 := if_pos hc
        rw [← hdg] at F
        exact hN _ _ (F.weak _ (subL_of kr)) H
      · rw [decide_eq_false hc] at F
        refine C_if F false rfl rfl ?_
        refine wp_skip ?_
        have hdg : dgt fd k = fd (k / 2) / 16 := if_neg hc
        rw [← hdg] at F
        exact hN _ _ (F.weak _ (subL_of kr)) H
    clear hK23
    try clear K23
    refine hK21 _ _ ?_
    clear hK21
    try clear K21
    refine C_seqK (fun K24 hK24 => ?_)
    refine C_region ?_
    refine T_k F H (sc r.g 0 k r.cap) ?_
    clear F; intro a F
    refine T_k F H (ni (dgt fd k)) ?_
    clear F; intro a F
    refine T_new F H kr (fun ad => sc ad 0 1 1) (ce (sl (ints .i64 [dgt fd k]) []) 3) (fun w => R_buildS (len := 1) rfl Tryd.underlying25 ((sl (ints .i64 [dgt fd k]) [])) kr w) ?_
    clear F H; intro aq25 a v F H
    refine T_app F H kr 25 3 (.tmp 26) (.tmp 28) rfl 1 8 kr kr 1 rfl hO kr (1) (ints .i64 [dgt fd k]) (fun w hk hl => (RdS.all (hl.at_ (k := 0) rfl) (Nat.le_refl _))) (by rw [ints_len]; first | rfl | simp [highL_len, hb_len]) (ints_one _ _) (by simp only [maxLen]; omega) (by omega) _ rfl ?_
    clear F H; intro rq26 a v Qrq26 F H
    refine T_k F H (sc rq26.g 0 (k + 1) rq26.cap) ?_
    clear F; intro a F
    refine wpList_nil ?_
    have hc9 : (ints .i64 (dgs fd k)) ++ (ints .i64 [dgt fd k]) = ints .i64 (dgs fd (k + 1)) := (ints_app .i64 _ _).symm.trans (congrArg _ (dgs_next fd k))
    rw [hc9] at H Qrq26
    replace Qrq26 : Own (ints .i64 (dgs fd (k + 1))) rq26.rest (k + 1) rq26.cap 1 := Qrq26
    replace H : Hp [] w [bk rq26.g (sl (ints .i64 (dgs fd (k + 1))) rq26.rest) 3, bk aq2 (arrF .u8 32 fd) 23] v := H.pick [0, 2] kr _ rfl
    refine hK24 _ _ ?_
    clear hK24
    try clear K24
    refine C_region ?_
    refine T_k F H (ni (lackN (dgs fd k))) ?_
    clear F; intro a F
    refine T_val F H kr (ni (lackN (dgs fd k) + 15)) (fun w _ => R_bin (x := (.tmp 30)) (y := (.const (.int .i64 15))) rfl (k := .i64) (a := ((lackN (dgs fd k) : Nat) : Int)) (b := ((15 : Nat) : Int)) kr kr (i_addn64 (a := lackN (dgs fd k)) (b := 15) (by omega)) w) ?_
    clear F; intro a F
    refine T_k F H (ni (dgt fd k)) ?_
    clear F; intro a F
    refine T_val F H kr (ni (lackN (dgs fd (k + 1)))) (fun w _ => R_bin (x := (.tmp 31)) (y := (.tmp 32)) rfl (k := .i64) (a := (((lackN (dgs fd k) + 15) : Nat) : Int)) (b := ((dgt fd k : Nat) : Int)) kr kr ((i_subn64 (a := lackN (dgs fd k) + 15) (b := dgt fd k) (by omega) (by omega)).trans (congrArg (fun q : Nat => some (Value.int .i64 (q : Int))) (show lackN (dgs fd k) + 15 - dgt fd k = lackN (dgs fd (k + 1)) from (by omega)))) w) ?_
    clear F; intro a F
    refine T_k F H (ni (lackN (dgs fd (k + 1)))) ?_
    clear F; intro a F
    refine wpList_nil ?_
    refine hK19 _ _ ?_
    clear hK19
    try clear K19
    refine C_region ?_
    refine T_k F H (ni k) ?_
    clear F; intro a F
    refine T_val F H kr (ni (k + 1)) (fun w _ => R_bin (x := (.tmp 9)) (y := (.const (.int .i64 1))) rfl (k := .i64) (a := ((k : Nat) : Int)) (b := ((1 : Nat) : Int)) kr kr (i_addn64 (a := k) (b := 1) (by omega)) w) ?_
    clear F; intro a F
    refine T_k F H (ni (k + 1)) ?_
    clear F; intro a F
    refine wpList_nil ?_
    replace F : Fm 44 [] [(5, ni (k + 1)), (3, sc rq26.g 0 (k + 1) rq26.cap), (4, ni (lackN (dgs fd (k + 1)))), (1, pt aq2 0)] a := F.weak _ (subL_of kr)
    replace H : Hp [] w [bk rq26.g (sl (ints .i64 (dgs fd (k + 1))) rq26.rest) 3, bk aq2 (arrF .u8 32 fd) 23] v := H
    exact ⟨m, Nat.lt_succ_self m, .inr ⟨k + 1, rq26, by omega, by omega, Qrq26, F, H⟩⟩
  have hkt : k = 64 := by omega
  rw [hkt] at F H hO
  clear hk hk1
  refine C_seqK (fun K27 hK27 => ?_)
  refine C_seqK (fun K28 hK28 => ?_)
  refine C_region ?_
  refine T_k F H (ni 64) ?_
  clear F; intro a F
  refine T_val F H kr (.bool false) (fun w _ => R_bin (x := (.tmp 7)) (y := (.const (.int .i64 64))) rfl (k := .i64) (a := ((64 : Nat) : Int)) (b := ((64 : Nat) : Int)) kr kr (i_nlt (by omega)) w) ?_
  clear F; intro a F
  refine wpList_nil ?_
  refine hK28 _ _ ?_
  clear hK28
  try clear K28
  refine C_if F false rfl rfl ?_
  refine wp_exit ?_
  refine hK5 _ _ ?_
  clear hK5
  try clear K5
  refine C_seqK (fun K29 hK29 => ?_)
  have hlk := lack_lt fd
  have hdl : digL fd = digB fd 32 ++ [lackN (digB fd 32) / 256, lackN (digB fd 32) / 16 % 16, lackN (digB fd 32) % 16] := rfl
  have hd2 : dgs fd 64 = digB fd 32 := dgs_two fd 32
  rw [hd2] at F H hO
  generalize hLk : lackN (digB fd 32) = lk at F hlk hdl
  refine C_region ?_
  refine T_k F H (sc r.g 0 64 r.cap) ?_
  clear F; intro a F
  refine T_k F H (ni lk) ?_
  clear F; intro a F
  refine T_val F H kr (ni (lk / 256)) (fun w _ => R_bin (x := (.tmp 35)) (y := (.const (.int .i64 256))) rfl (k := .i64) (a := ((lk : Nat) : Int)) (b := ((256 : Nat) : Int)) kr kr (i_quo64 (a := lk) (b := 256) (by decide) (by omega)) w) ?_
  clear F; intro a F
  refine T_k F H (ni lk) ?_
  clear F; intro a F
  refine T_val F H kr (ni (lk / 16)) (fun w _ => R_bin (x := (.tmp 37)) (y := (.const (.int .i64 16))) rfl (k := .i64) (a := ((lk : Nat) : Int)) (b := ((16 : Nat) : Int)) kr kr (i_quo64 (a := lk) (b := 16) (by decide) (by omega)) w) ?_
  clear F; intro a F
  refine T_val F H kr (ni (lk / 16 % 16)) (fun w _ => R_bin (x := (.tmp 38)) (y := (.const (.int .i64 16))) rfl (k := .i64) (a := (((lk / 16) : Nat) : Int)) (b := ((16 : Nat) : Int)) kr kr (i_rem64 (a := lk / 16) (b := 16) (by decide)) w) ?_
  clear F; intro a F
  refine T_k F H (ni lk) ?_
  clear F; intro a F
  refine T_val F H kr (ni (lk % 16)) (fun w _ => R_bin (x := (.tmp 40)) (y := (.const (.int .i64 16))) rfl (k := .i64) (a := ((lk : Nat) : Int)) (b := ((16 : Nat) : Int)) kr kr (i_rem64 (a := lk) (b := 16) (by decide)) w) ?_
  clear F; intro a F
  refine T_new F H kr (fun ad => sc ad 0 3 3) (ce (sl (ints .i64 [(lk / 256), (lk / 16 % 16), (lk % 16)]) []) 3) (fun w => R_buildS (len := 3) rfl Tryd.underlying25 ((sl (ints .i64 [(lk / 256), (lk / 16 % 16), (lk % 16)]) [])) kr w) ?_
  clear F H; intro aq30 a v F H
  refine T_app F H kr 25 3 (.tmp 34) (.tmp 42) rfl 1 8 kr kr 1 rfl hO kr (3) (ints .i64 [(lk / 256), (lk / 16 % 16), (lk % 16)]) (fun w hk hl => (RdS.all (hl.at_ (k := 0) rfl) (Nat.le_refl _))) (by rw [ints_len]; first | rfl | simp [highL_len, hb_len]) (ints_one _ _) (by simp only [maxLen]; omega) (by omega) _ rfl ?_
  clear F H; intro rq31 a v Qrq31 F H
  refine T_k F H (sc rq31.g 0 (64 + 3) rq31.cap) ?_
  clear F; intro a F
  refine wpList_nil ?_
  refine hK29 _ _ ?_
  clear hK29
  try clear K29
  have hc9 : (ints .i64 (digB fd 32)) ++ (ints .i64 [(lk / 256), (lk / 16 % 16), (lk % 16)]) = ints .i64 (digL fd) := by rw [hdl, ints_app]
  rw [hc9] at H Qrq31
  refine wp_ret ?_
  exact C_ret F H (rs := [.tmp 2]) rfl (vs := [sc rq31.g 0 67 rq31.cap]) (.tmp rfl .nil) (sc rq31.g 0 67 rq31.cap) rfl (made_ret H (k := 0) rfl Qrq31)
end Go.Proofs.YtdejhenkdbjakaaDoor
