/- Walks: along a chain, a digest's digits. -/
import Derived.Test.YtdejhenkdbjakaaDoorW8
set_option linter.unusedVariables false
set_option linter.unusedSimpArgs false
namespace Go.Proofs.YtdejhenkdbjakaaDoor
open Go Go.RowKit
theorem wrapu64n (x : Int) : IntKind.u64.wrap x = ((u64n x : Nat) : Int) := by
  rw [show IntKind.u64.wrap x = x % 18446744073709551616 by first | exact IntKind.wrap_u64 | rfl]; unfold u64n; omega
theorem u64n_lt (x : Int) : u64n x < 18446744073709551616 := by unfold u64n; omega
theorem alF_b {tag : Nat → Nat} (ht : ∀ i, i < 32 → tag i < 256) {ch st : Int} {vv : Nat → Nat} (hv : ∀ i, i < 32 → vv i < 256) (k : Nat) : ∀ x ∈ kl tag ++ (hb ch 2 ++ (hb (st + k) 2 ++ kl (alF tag ch st vv k))), x < 256 := by
  intro x hx
  rcases List.mem_append.1 hx with hx | hx
  · exact kl_lt ht x hx
  · rcases List.mem_append.1 hx with hx | hx
    · exact hb_lt _ _ x hx
    · rcases List.mem_append.1 hx with hx | hx
      · exact hb_lt _ _ x hx
      · exact kl_lt (alF_lt tag ch st hv k) x hx
/-- A byte's two digits. -/
def dg2 (c : Nat) : Nat → Nat := fun j => if j = 0 then c >>> 4 else c &&& 15
theorem dg2_0 (c : Nat) : dg2 c 0 = c / 16 := by unfold dg2; rw [if_pos rfl, Nat.shiftRight_eq_div_pow]
theorem dg2_1 (c : Nat) : dg2 c 1 = c % 16 := by
  unfold dg2
  rw [if_neg (by omega), show (15 : Nat) = 2 ^ 4 - 1 from rfl, Nat.and_two_pow_sub_one_eq_mod]
theorem dg2_lt {c : Nat} (h : c < 256) (j : Nat) : dg2 c j < 16 := by
  by_cases e : j = 0
  · subst e; rw [dg2_0]; omega
  · unfold dg2; rw [if_neg e, show (15 : Nat) = 2 ^ 4 - 1 from rfl, Nat.and_two_pow_sub_one_eq_mod]; omega
/-- The digits of k bytes, and j of the next one's. -/
def digP (f : Nat → Nat) (k j : Nat) : List Nat := digB f k ++ ((List.range j).map (dg2 (f k)))
theorem digP_zero (f : Nat → Nat) (k : Nat) : digP f k 0 = digB f k := by simp [digP]
theorem digP_next (f : Nat → Nat) (k j : Nat) : digP f k j ++ [dg2 (f k) j] = digP f k (j + 1) := by
  unfold digP
  rw [List.range_succ, List.map_append, List.append_assoc]; rfl
theorem digP_two (f : Nat → Nat) (k : Nat) : digP f k 2 = digB f (k + 1) := by
  unfold digP
  rw [digB, show (List.range 2).map (dg2 (f k)) = [dg2 (f k) 0, dg2 (f k) 1] from rfl, dg2_0, dg2_1]
theorem digP_len (f : Nat → Nat) (k j : Nat) : (digP f k j).length = 2 * k + j := by
  unfold digP; rw [List.length_append, digB_len, List.length_map, List.length_range]
theorem lackP (f : Nat → Nat) (k j : Nat) : lackN (digP f k (j + 1)) = lackN (digP f k j) + (15 - dg2 (f k) j) := by
  rw [← digP_next, lackN_app]; simp [lackN]
theorem lackP_le (f : Nat → Nat) (k j : Nat) : lackN (digP f k j) ≤ 15 * (2 * k + j) := by
  have := lackN_le (digP f k j)
  rwa [digP_len] at this

set_option maxRecDepth 100000 in
set_option maxHeartbeats 4000000 in
theorem along_any (gm n : Nat) (tag : Nat → Nat) (ht : ∀ i, i < 32 → tag i < 256) (ch st to : Int) (hst : -4611686018427387904 ≤ st) (hto : to ≤ 4611686018427387904) (vv : Nat → Nat) (hv : ∀ i, i < 32 → vv i < 256) (w : World) (hW : Laid w) (hm : w.heap[gm]? = some (.cells (mtr n) 91 (0, 0))) : Calls Tryd.prog 19 #[.pointer (some ⟨gm, 0, none⟩), .agg (arrF .u8 32 tag), .int .i64 ch, .int .i64 st, .int .i64 to, .agg (arrF .u8 32 vv)] w fun e w' => ∃ r : SlR, e = .returned (.agg (arrF .u8 32 (alF tag ch st vv (to - st).toNat))) ∧ r.n = n + (to - st).toNat ∧ Kept [gm] w w' ∧ w'.heap[gm]? = some (.cells (mtr r.n) 91 (0, 0)) := by
  obtain ⟨h00, h01⟩ := hW.apart hm
  refine C_enter Tryd.func19 rfl 32 Tryd.ntmps19 (Nat.le_of_ble_eq_true rfl) (fun a F => ?_)
  have H := Hp.startX hm
  replace F : Fm 32 [] [(0, pt gm 0), (1, kyV tag), (2, .int .i64 ch), (3, .int .i64 st), (4, .int .i64 to), (5, kyV vv)] a := F.weak _ (subL_of kr)
  refine C_seqK (fun K1 hK1 => ?_)
  refine C_region ?_
  refine T_new F H kr (fun ad => pt ad 0) (ce (arrF .u8 32 tag) 23) (fun w => kr) ?_
  clear F H; intro aq2 a v F H
  refine T_new F H kr (fun ad => pt ad 0) (ce (arrF .u8 32 vv) 23) (fun w => kr) ?_
  clear F H; intro aq3 a v F H
  refine T_new F H kr (fun ad => pt ad 0) (ce z8 23) (fun w => kr) ?_
  clear F H; intro aq4 a v F H
  refine wpList_nil ?_
  refine hK1 _ _ ?_
  clear hK1
  try clear K1
  refine C_seqK (fun K5 hK5 => ?_)
  refine C_seqK (fun K6 hK6 => ?_)
  refine C_region ?_
  refine T_k F H (.int .i64 st) ?_
  clear F; intro a F
  refine T_k F H (.int .i64 st) ?_
  clear F; intro a F
  refine wpList_nil ?_
  replace F : Fm 32 [] [(13, .int .i64 st), (0, pt gm 0), (7, pt aq2 0), (2, .int .i64 ch), (11, pt aq3 0), (4, .int .i64 to), (12, pt aq4 0)] a := F.weak _ (subL_of kr)
  replace H : Hp [gm] w [bk aq3 (arrF .u8 32 vv) 23, bk aq2 (arrF .u8 32 tag) 23, bk aq4 z8 23, bk gm (mtr n) 91] v := H.pick [1, 2, 0, 3] kr _ rfl
  have e0 : st = st + ((0 : Nat) : Int) := by omega
  rw [show (Value.int .i64 st) = .int .i64 (st + ((0 : Nat) : Int)) by rw [← e0]] at F
  refine hK6 _ _ ?_
  clear hK6
  try clear K6
  refine wp_block ?_
  refine C_loop (fun m a v => ∃ k, k + m = (to - st).toNat ∧ Fm 32 [] [(13, .int .i64 (st + ((k : Nat) : Int))), (0, pt gm 0), (7, pt aq2 0), (2, .int .i64 ch), (11, pt aq3 0), (4, .int .i64 to), (12, pt aq4 0)] a ∧ Hp [gm] w [bk aq3 (arrF .u8 32 (alF tag ch st vv k)) 23, bk aq2 (arrF .u8 32 tag) 23, bk aq4 z8 23, bk gm (mtr (n + k)) 91] v) ((to - st).toNat) ⟨0, Nat.zero_add _, F, H⟩ ?_
  clear F H
  intro m a v ⟨k, hk, F, H⟩
  rcases m with _ | m
  rotate_left
  · skip
    refine C_seqK (fun K7 hK7 => ?_)
    refine C_seqK (fun K8 hK8 => ?_)
    refine C_region ?_
    refine T_k F H (.int .i64 (st + ((k : Nat) : Int))) ?_
    clear F; intro a F
    refine T_k F H (.int .i64 to) ?_
    clear F; intro a F
    refine T_val F H kr (.bool true) (fun w _ => R_bin (x := (.tmp 15)) (y := (.tmp 16)) rfl (k := .i64) (a := (st + ((k : Nat) : Int))) (b := to) kr kr (i_lt (by omega)) w) ?_
    clear F; intro a F
    refine wpList_nil ?_
    refine hK8 _ _ ?_
    clear hK8
    try clear K8
    refine C_if F true rfl rfl ?_
    refine wp_skip ?_
    refine hK7 _ _ ?_
    clear hK7
    try clear K7
    refine C_seqK (fun K9 hK9 => ?_)
    refine wp_block ?_
    refine E_region F H (fun β => [(20, pt gm 0), (21, sc aq2 0 32 32), (22, .int .i64 ch), (23, nu (u64n ch)), (24, sc ((β 4).g) 0 2 (β 4).cap), (25, .int .i64 (st + ((k : Nat) : Int))), (26, nu (u64n (st + ((k : Nat) : Int)))), (27, sc ((β 7).g) 0 2 (β 7).cap), (28, sc aq3 0 32 32), (29, sc ((β 9).g) 0 4 4), (30, kyV (alF tag ch st vv (k + 1)))]) [20, 21, 22, 23, 24, 25, 26, 27, 28, 29, 30] [⟨some 4, none, 0, [4], fun q_ => ce (sl (oct (hb ch 2)) (gh q_ 0).rest) 5, fun q_ => Own (oct (hb ch 2)) (gh q_ 0).rest (2) (gh q_ 0).cap 1, []⟩,
      ⟨some 7, none, 0, [7], fun q_ => ce (sl (oct (hb (st + ((k : Nat) : Int)) 2)) (gh q_ 0).rest) 5, fun q_ => Own (oct (hb (st + ((k : Nat) : Int)) 2)) (gh q_ 0).rest (2) (gh q_ 0).cap 1, []⟩,
      ⟨some 9, none, 0, [4, 7], fun q_ => ce #[sc aq2 0 32 32, sc ((gh q_ 0).g) 0 2 (gh q_ 0).cap, sc ((gh q_ 1).g) 0 2 (gh q_ 1).cap, sc aq3 0 32 32] 54, gT, []⟩,
      ⟨none, none, gm, [], fun q_ => ce (mtr (n + k)) 91, gT, [⟨10, [10], fun q_ => ce (mtr (gh q_ 0).n) 91, fun q_ => (gh q_ 0).n = (n + k) + 1⟩]⟩,
      ⟨none, none, aq3, [], fun q_ => ce (arrF .u8 32 (alF tag ch st vv k)) 23, gT, [⟨11, [], fun q_ => ce (arrF .u8 32 (alF tag ch st vv (k + 1))) 23, gT⟩]⟩] [bk aq2 (arrF .u8 32 tag) 23, bk aq4 z8 23] [3, 0, 1, 2] 2 [] kr kr kr (fun β => rfl) ⟨fun h _ => Bool.noConfusion h, ⟨fun h _ => Bool.noConfusion h, ⟨fun h _ => Bool.noConfusion h, ⟨fun _ _ => trivial, ⟨fun _ _ => trivial, trivial⟩⟩⟩⟩⟩ ⟨?_, ?_, ?_, ?_, ?_, ?_, ?_, ?_, ?_, ?_, ?_, ?_, trivial⟩ ?_
    · exact E_k 32 (fun β => pt gm 0) 20 2
    · exact E_k 32 (fun β => sc aq2 0 32 32) 21 2
    · exact E_k 32 (fun β => .int .i64 ch) 22 2
    · exact E_v 32 (fun β => nu (u64n ch)) 23 2 [] (fun β w hk hl hq => R_conv (x := (.tmp 22)) rfl (k0 := .i64) kr kr (k := .i64) (a := ch) kr (wrapu64n _) w)
    · exact E_callS 32 kq (fun β => sc ((β 4).g) 0 2 (β 4).cap) 24 rfl kq 2 (fun β r => offAt2_of kr kr) 49 (fun β => #[nu (u64n ch), ni 2]) (fun β w => kr) 2 [] 0 _ rfl kr kr rfl (fun β w hk hl hq => high_any (u64n ch) 2 (by omega) (by omega) _)
    · exact E_k 32 (fun β => .int .i64 (st + ((k : Nat) : Int))) 25 2
    · exact E_v 32 (fun β => nu (u64n (st + ((k : Nat) : Int)))) 26 2 [] (fun β w hk hl hq => R_conv (x := (.tmp 25)) rfl (k0 := .i64) kr kr (k := .i64) (a := (st + ((k : Nat) : Int))) kr (wrapu64n _) w)
    · exact E_callS 32 kq (fun β => sc ((β 7).g) 0 2 (β 7).cap) 27 rfl kq 2 (fun β r => offAt2_of kr kr) 49 (fun β => #[nu (u64n (st + ((k : Nat) : Int))), ni 2]) (fun β w => kr) 2 [] 1 _ rfl kr kr rfl (fun β w hk hl hq => high_any (u64n (st + ((k : Nat) : Int))) 2 (by omega) (by omega) _)
    · exact E_k 32 (fun β => sc aq3 0 32 32) 28 2
    · exact E_new 32 kq (fun β => sc ((β 9).g) 0 4 4) 29 rfl kq 2 (fun β r => offAt2_of kr kr) 2 [] 2 _ rfl kr kr rfl (fun β w hk hl hq => ⟨⟨w.heap.size, 0, [], 0⟩, _, (R_buildS (len := 4) rfl Tryd.underlying30 (#[sc aq2 0 32 32, sc ((β 4).g) 0 2 (β 4).cap, sc ((β 7).g) 0 2 (β 7).cap, sc aq3 0 32 32]) kr w), trivial, Nat.le_refl _, heap_alloc_new _ _, Kept.alloc _ _⟩)
    · exact E_callP 32 kq (fun β => kyV (alF tag ch st vv (k + 1))) 30 rfl kq 2 (fun β r => offAt2_of kr kr) 48 (fun β => #[pt gm 0, sc ((β 9).g) 0 4 4]) (fun β w => kr) 2 [(0, 0), (1, 0), (4, 0), (2, 0)] 3 0 _ _ rfl rfl kr kr rfl (fun β w hk hl hq hm => msum_to gm (n + k) [⟨some ⟨aq2, 0, none⟩, 32, 32, kl tag⟩, ⟨some ⟨(β 4).g, 0, none⟩, 2, (β 4).cap, hb ch 2⟩, ⟨some ⟨(β 7).g, 0, none⟩, 2, (β 7).cap, hb (st + ((k : Nat) : Int)) 2⟩, ⟨some ⟨aq3, 0, none⟩, 32, 32, kl (alF tag ch st vv k)⟩] (kl tag ++ (hb ch 2 ++ (hb (st + ((k : Nat) : Int)) 2 ++ kl (alF tag ch st vv k)))) (by simp [catP]) ⟨by simp only [List.length_append, kl_len, hb_len]; omega, by simp only [List.length_append, kl_len, hb_len]; omega, by simp⟩ _ _ (#[sc aq2 0 32 32, sc ((β 4).g) 0 2 (β 4).cap, sc ((β 7).g) 0 2 (β 7).cap, sc aq3 0 32 32]) _ kr _ ⟨(RdS.of (hl.at_ (k := 4) rfl) (Nat.le_refl _) (rd_key tag)), (by first | rfl | simp [highL_len, hb_len, kl_len]), ⟨(RdS.all (hl.at_ (k := 0) rfl) (Own.le hq.1.1)), (hb_len _ _), ⟨(RdS.all (hl.at_ (k := 1) rfl) (Own.le hq.2.1.1)), (hb_len _ _), ⟨(RdS.of (hl.at_ (k := 2) rfl) (Nat.le_refl _) (rd_key (alF tag ch st vv k))), (by first | rfl | simp [highL_len, hb_len, kl_len]), trivial⟩⟩⟩⟩ (hl.at_ (k := 3) rfl) (alF_b ht hv k) (hW.kept hk h00 h01) hm)
    · exact E_store 32 kq rfl 2 [] 4 0 _ _ rfl rfl kr rfl (fun _ => trivial) (fun β w hk hl hq hm => let ⟨w', h1, h2, h3⟩ := P_row (cs := (arrF .u8 32 (alF tag ch st vv (k + 1)))) (old := (arrF .u8 32 (alF tag ch st vv k))) rfl rfl (ty := 23) (x := (.tmp 11)) (y := (.tmp 30)) rfl kr kr (by rw [arrF_size]; kernel_rfl) ((arrF_size _ _ _).trans (arrF_size _ _ _).symm) (arrF_one _ _ _) hm; ⟨w', h1, h2, h3⟩)
    clear F H; intro β a v Q F H
    replace H : Hp [gm] w [bk ((β 4).g) (sl (oct (hb ch 2)) (β 4).rest) 5, bk ((β 7).g) (sl (oct (hb (st + ((k : Nat) : Int)) 2)) (β 7).rest) 5, bk ((β 9).g) #[sc aq2 0 32 32, sc ((β 4).g) 0 2 (β 4).cap, sc ((β 7).g) 0 2 (β 7).cap, sc aq3 0 32 32] 54, bk gm (mtr (β 10).n) 91, bk aq3 (arrF .u8 32 (alF tag ch st vv (k + 1))) 23, bk aq2 (arrF .u8 32 tag) 23, bk aq4 z8 23] v := H
    replace F : Fm 32 [] [(30, kyV (alF tag ch st vv (k + 1))), (29, sc ((β 9).g) 0 4 4), (28, sc aq3 0 32 32), (27, sc ((β 7).g) 0 2 (β 7).cap), (26, nu (u64n (st + ((k : Nat) : Int)))), (25, .int .i64 (st + ((k : Nat) : Int))), (24, sc ((β 4).g) 0 2 (β 4).cap), (23, nu (u64n ch)), (22, .int .i64 ch), (21, sc aq2 0 32 32), (20, pt gm 0), (17, .bool true), (16, .int .i64 to), (15, .int .i64 (st + ((k : Nat) : Int))), (13, .int .i64 (st + ((k : Nat) : Int))), (0, pt gm 0), (7, pt aq2 0), (2, .int .i64 ch), (11, pt aq3 0), (4, .int .i64 to), (12, pt aq4 0)] a := F.weak _ (subL_of kr)
    have Qh13_0 : Own (oct (hb ch 2)) (β 4).rest (2) (β 4).cap 1 := Q.1
    have Qh13_1 : Own (oct (hb (st + ((k : Nat) : Int)) 2)) (β 7).rest (2) (β 7).cap 1 := Q.2.2.1
    have Qh13_3 : (β 10).n = (n + k) + 1 := Q.2.2.2.2.2.2.2.1.1
    clear Q
    generalize β 4 = rq10 at F H Qh13_0 Qh13_1 Qh13_3
    generalize β 7 = rq11 at F H Qh13_0 Qh13_1 Qh13_3
    generalize β 9 = rq12 at F H Qh13_0 Qh13_1 Qh13_3
    generalize β 10 = rq13 at F H Qh13_0 Qh13_1 Qh13_3
    skip
    refine ?_
    rw [Qh13_3] at H
    replace H : Hp [gm] w [bk aq3 (arrF .u8 32 (alF tag ch st vv (k + 1))) 23, bk aq2 (arrF .u8 32 tag) 23, bk aq4 z8 23, bk gm (mtr (n + k + 1)) 91] v := H.pick [4, 5, 6, 3] kr _ rfl
    refine hK9 _ _ ?_
    clear hK9
    try clear K9
    refine C_region ?_
    refine T_k F H (.int .i64 (st + ((k : Nat) : Int))) ?_
    clear F; intro a F
    refine T_val F H kr (.int .i64 (st + ((k + 1 : Nat) : Int))) (fun w _ => R_bin (x := (.tmp 18)) (y := (.const (.int .i64 1))) rfl (k := .i64) (a := (st + ((k : Nat) : Int))) (b := 1) kr kr (i_add64 (by omega) (by omega)) w) ?_
    clear F; intro a F
    refine T_k F H (.int .i64 (st + ((k + 1 : Nat) : Int))) ?_
    clear F; intro a F
    refine wpList_nil ?_
    replace F : Fm 32 [] [(13, .int .i64 (st + ((k + 1 : Nat) : Int))), (0, pt gm 0), (7, pt aq2 0), (2, .int .i64 ch), (11, pt aq3 0), (4, .int .i64 to), (12, pt aq4 0)] a := F.weak _ (subL_of kr)
    replace H : Hp [gm] w [bk aq3 (arrF .u8 32 (alF tag ch st vv (k + 1))) 23, bk aq2 (arrF .u8 32 tag) 23, bk aq4 z8 23, bk gm (mtr (n + (k + 1))) 91] v := H
    exact ⟨m, Nat.lt_succ_self m, k + 1, by omega, F, H⟩
  have hkt : k = (to - st).toNat := by omega
  try rw [hkt] at F
  try rw [hkt] at H
  clear hk
  refine C_seqK (fun K14 hK14 => ?_)
  refine C_seqK (fun K15 hK15 => ?_)
  refine C_region ?_
  refine T_k F H (.int .i64 (st + (((to - st).toNat : Nat) : Int))) ?_
  clear F; intro a F
  refine T_k F H (.int .i64 to) ?_
  clear F; intro a F
  refine T_val F H kr (.bool false) (fun w _ => R_bin (x := (.tmp 15)) (y := (.tmp 16)) rfl (k := .i64) (a := (st + (((to - st).toNat : Nat) : Int))) (b := to) kr kr (i_nlt (by omega)) w) ?_
  clear F; intro a F
  refine wpList_nil ?_
  refine hK15 _ _ ?_
  clear hK15
  try clear K15
  refine C_if F false rfl rfl ?_
  refine wp_exit ?_
  refine hK5 _ _ ?_
  clear hK5
  try clear K5
  refine C_seqK (fun K16 hK16 => ?_)
  refine C_region ?_
  refine T_val F H kr (kyV (alF tag ch st vv (to - st).toNat)) (R_load (own := true) (g := aq3) (all := (arrF .u8 32 (alF tag ch st vv (to - st).toNat))) (t := 23) (fr := (0, 0)) 0 kr 23 (.tmp 11) rfl 0 kr (arrF .u8 32 (alF tag ch st vv (to - st).toNat)) (part_all _) _ Tryd.underlying23 rfl (by rw [arrF_size]; kernel_rfl)) ?_
  clear F; intro a F
  refine T_set F H kr rfl 2 rfl (arrF .u8 32 (alF tag ch st vv (to - st).toNat)) (S_row 2 rfl 23 (.tmp 12) (.tmp 31) rfl kr (arrF .u8 32 (alF tag ch st vv (to - st).toNat)) kr (by rw [arrF_size]; kernel_rfl) (by rw [arrF_size]; kernel_rfl) (arrF_one _ _ _)) [bk aq3 (arrF .u8 32 (alF tag ch st vv (to - st).toNat)) 23, bk aq2 (arrF .u8 32 tag) 23, bk aq4 (arrF .u8 32 (alF tag ch st vv (to - st).toNat)) 23, bk gm (mtr (n + (to - st).toNat)) 91] rfl ?_
  clear F H; intro a v F H
  refine wpList_nil ?_
  refine hK16 _ _ ?_
  clear hK16
  try clear K16
  refine wp_ret ?_
  exact C_ret F H (rs := [.cell 12 23]) rfl (vs := [kyV (alF tag ch st vv (to - st).toNat)]) (.row 2 rfl rfl _ Tryd.underlying23 rfl kr .nil) (kyV (alF tag ch st vv (to - st).toNat)) rfl ⟨⟨0, 0, [], n + (to - st).toNat⟩, rfl, rfl, H.kept, H.at_ (k := 3) rfl⟩

theorem and15 (a b : Nat) (h : a = b) (hb : b < 4611686018427387904) : intRes .and .i64 (a : Int) ((15 : Nat) : Int) = some (.int .i64 ((b % 16 : Nat) : Int)) := by
  subst h
  rw [i_and64 (by omega) (by omega), show (15 : Nat) = 2 ^ 4 - 1 from rfl, Nat.and_two_pow_sub_one_eq_mod]

set_option maxRecDepth 100000 in
set_option maxHeartbeats 4000000 in
theorem digits_any (fd : Nat → Nat) (hfd : ∀ i, i < 32 → fd i < 256) (w : World) : Calls Tryd.prog 16 #[.agg (arrF .u8 32 fd)] w (MadeS [] 3 1 67 (ints .i64 (digL fd)) w) := by
  refine C_enter Tryd.func16 rfl 43 Tryd.ntmps16 (Nat.le_of_ble_eq_true rfl) (fun a F => ?_)
  have H := Hp.start [] w
  replace F : Fm 43 [] [(0, kyV fd)] a := F.weak _ (subL_of kr)
  refine C_seqK (fun K1 hK1 => ?_)
  refine C_region ?_
  refine T_new F H kr (fun ad => pt ad 0) (ce (arrF .u8 32 fd) 23) (fun w => kr) ?_
  clear F H; intro aq2 a v F H
  refine T_k F H (.slice none 0 0) ?_
  clear F; intro a F
  refine wpList_nil ?_
  refine hK1 _ _ ?_
  clear hK1
  try clear K1
  refine C_seqK (fun K3 hK3 => ?_)
  refine C_region ?_
  refine T_k F H (.slice none 0 0) ?_
  clear F; intro a F
  refine wpList_nil ?_
  refine hK3 _ _ ?_
  clear hK3
  try clear K3
  refine C_seqK (fun K4 hK4 => ?_)
  refine C_region ?_
  refine T_k F H (ni 0) ?_
  clear F; intro a F
  refine wpList_nil ?_
  refine hK4 _ _ ?_
  clear hK4
  try clear K4
  refine C_seqK (fun K5 hK5 => ?_)
  refine C_seqK (fun K6 hK6 => ?_)
  refine C_region ?_
  refine T_val F H kr (kyV fd) (R_load (own := true) (g := aq2) (all := (arrF .u8 32 fd)) (t := 23) (fr := (0, 0)) 0 kr 23 (.tmp 1) rfl 0 kr (arrF .u8 32 fd) (part_all _) _ Tryd.underlying23 rfl (by rw [arrF_size]; kernel_rfl)) ?_
  clear F; intro a F
  refine T_k F H (ni 0) ?_
  clear F; intro a F
  refine wpList_nil ?_
  replace F : Fm 43 [] [(10, ni 0), (9, kyV fd), (3, .slice none 0 0), (4, ni 0), (1, pt aq2 0), (2, .slice none 0 0)] a := F.weak _ (subL_of kr)
  replace H : Hp [] w [bk aq2 (arrF .u8 32 fd) 23] v := H.pick [0] kr _ rfl
  refine hK6 _ _ ?_
  clear hK6
  try clear K6
  refine wp_block ?_
  refine C_loop (fun m a v => (m = 32 ∧ Fm 43 [] [(10, ni 0), (9, kyV fd), (3, .slice none 0 0), (4, ni 0), (1, pt aq2 0), (2, .slice none 0 0)] a ∧ Hp [] w [bk aq2 (arrF .u8 32 fd) 23] v) ∨ (∃ (k : Nat) (r : SlR), k + m = 32 ∧ 1 ≤ k ∧ Own (ints .i64 (digB fd k)) r.rest (2 * k) r.cap 1 ∧ Fm 43 [] [(10, ni k), (9, kyV fd), (3, sc r.g 0 (2 * k) r.cap), (4, ni (lackN (digB fd k))), (1, pt aq2 0), (2, .slice none 0 0)] a ∧ Hp [] w [bk r.g (sl (ints .i64 (digB fd k)) r.rest) 3, bk aq2 (arrF .u8 32 fd) 23] v)) (32) (.inl ⟨rfl, F, H⟩) ?_
  clear F H
  intro m a v hS
  rcases hS with ⟨hk0, F, H⟩ | ⟨k, r, hk, hk1, hO, F, H⟩
  · obtain ⟨m, rfl⟩ : ∃ q, m = q + 1 := ⟨m - 1, by omega⟩
    have hb9 := hfd 0 (by omega)
    have hd9 := dg2_lt hb9
    have hsh : fd 0 >>> 4 ≤ fd 0 := by rw [Nat.shiftRight_eq_div_pow]; exact Nat.div_le_self _ _
    have han : fd 0 &&& 15 ≤ fd 0 := Nat.and_le_left
    refine C_seqK (fun K7 hK7 => ?_)
    refine C_region ?_
    refine T_val F H kr (.bool true) (fun w _ => R_bin (x := (.tmp 10)) (y := (.const (.int .i64 32))) rfl (k := .i64) (a := ((0 : Nat) : Int)) (b := ((32 : Nat) : Int)) kr kr (i_lt (by omega)) w) ?_
    clear F; intro a F
    refine wpList_nil ?_
    refine hK7 _ _ ?_
    clear hK7
    try clear K7
    refine C_seqK (fun K8 hK8 => ?_)
    refine C_if F true rfl rfl ?_
    refine wp_skip ?_
    refine hK8 _ _ ?_
    clear hK8
    try clear K8
    refine C_seqK (fun K9 hK9 => ?_)
    refine wp_block ?_
    refine C_seqK (fun K10 hK10 => ?_)
    refine C_region ?_
    refine T_val F H kr (nb (fd 0)) (fun w _ => R_indexV (x := (.tmp 9)) (y := (.tmp 10)) rfl Tryd.underlying23 Tryd.underlying5 rfl kr (cs := (arrF .u8 32 fd)) kr (k := .i64) 0 kr (by omega) (nb (fd 0)) (arrF_get fd (by omega)) w) ?_
    clear F; intro a F
    refine T_k F H (nb (fd 0)) ?_
    clear F; intro a F
    refine wpList_nil ?_
    refine hK10 _ _ ?_
    clear hK10
    try clear K10
    refine C_seqK (fun K11 hK11 => ?_)
    refine C_region ?_
    refine T_k F H (nb (fd 0)) ?_
    clear F; intro a F
    refine T_val F H kr (nb ((fd 0) >>> (4))) (fun w _ => R_shr (x := (.tmp 13)) (y := (.const (.int .u64 4))) rfl (k := .u8) (yk := .u64) (a := ((fd 0 : Nat) : Int)) (b := ((4 : Nat) : Int)) kr kr (Int.natCast_nonneg _) (shr_val (k := .u8) (by show _ ≤ 8; omega)) w) ?_
    clear F; intro a F
    refine T_val F H kr (ni ((fd 0) >>> (4))) (fun w _ => R_conv (x := (.tmp 14)) rfl (k0 := .u8) kr kr (k := .u8) (a := ((((fd 0) >>> (4)) : Nat) : Int)) kr (wrn64 (a := ((fd 0) >>> (4))) (by omega)) w) ?_
    clear F; intro a F
    refine T_k F H (nb (fd 0)) ?_
    clear F; intro a F
    refine T_val F H kr (nb (fd 0 &&& 15)) (fun w _ => R_bin (x := (.tmp 16)) (y := (.const (.int .u8 15))) rfl (k := .u8) (a := ((fd 0 : Nat) : Int)) (b := ((15 : Nat) : Int)) kr kr (i_and8 (a := fd 0) (b := 15) (by omega) (by omega)) w) ?_
    clear F; intro a F
    refine T_val F H kr (ni (fd 0 &&& 15)) (fun w _ => R_conv (x := (.tmp 17)) rfl (k0 := .u8) kr kr (k := .u8) (a := (((fd 0 &&& 15) : Nat) : Int)) kr (wrn64 (a := (fd 0 &&& 15)) (by omega)) w) ?_
    clear F; intro a F
    refine T_k F H (.agg (arrF .i64 2 (dg2 (fd 0)))) ?_
    clear F; intro a F
    refine T_k F H (ni 0) ?_
    clear F; intro a F
    refine wpList_nil ?_
    replace F : Fm 43 [] [(20, ni 0), (19, .agg (arrF .i64 2 (dg2 (fd 0)))), (10, ni 0), (9, kyV fd), (3, .slice none 0 0), (4, ni 0), (1, pt aq2 0), (2, .slice none 0 0)] a := F.weak _ (subL_of kr)
    skip
    refine hK11 _ _ ?_
    clear hK11
    try clear K11
    refine wp_block ?_
    refine C_loop (fun mj a v => (mj = 2 ∧ Fm 43 [] [(20, ni 0), (19, .agg (arrF .i64 2 (dg2 (fd 0)))), (10, ni 0), (9, kyV fd), (3, .slice none 0 0), (4, ni 0), (1, pt aq2 0), (2, .slice none 0 0)] a ∧ Hp [] w [bk aq2 (arrF .u8 32 fd) 23] v) ∨ (∃ (j : Nat) (r : SlR), j + mj = 2 ∧ 1 ≤ j ∧ Own (ints .i64 (digP fd 0 j)) r.rest (2 * 0 + j) r.cap 1 ∧ Fm 43 [] [(20, ni j), (19, .agg (arrF .i64 2 (dg2 (fd 0)))), (10, ni 0), (9, kyV fd), (3, sc r.g 0 (2 * 0 + j) r.cap), (4, ni (lackN (digP fd 0 j))), (1, pt aq2 0), (2, .slice none 0 0)] a ∧ Hp [] w [bk r.g (sl (ints .i64 (digP fd 0 j)) r.rest) 3, bk aq2 (arrF .u8 32 fd) 23] v)) (2) (.inl ⟨rfl, F, H⟩) ?_
    clear F H
    intro mj a v hS
    rcases hS with ⟨hk0, F, H⟩ | ⟨j, r, hk, hk1, hO, F, H⟩
    · obtain ⟨mj, rfl⟩ : ∃ q, mj = q + 1 := ⟨mj - 1, by omega⟩
      have hdj := hd9 0
      have hlk := lackP fd 0 0
      have hlk2 := lackP_le fd 0 (0 + 1)
      refine C_seqK (fun K12 hK12 => ?_)
      refine C_region ?_
      refine T_val F H kr (.bool true) (fun w _ => R_bin (x := (.tmp 20)) (y := (.const (.int .i64 2))) rfl (k := .i64) (a := ((0 : Nat) : Int)) (b := ((2 : Nat) : Int)) kr kr (i_lt (by omega)) w) ?_
      clear F; intro a F
      refine wpList_nil ?_
      refine hK12 _ _ ?_
      clear hK12
      try clear K12
      refine C_seqK (fun K13 hK13 => ?_)
      refine C_if F true rfl rfl ?_
      refine wp_skip ?_
      refine hK13 _ _ ?_
      clear hK13
      try clear K13
      refine C_seqK (fun K14 hK14 => ?_)
      refine wp_block ?_
      refine C_seqK (fun K15 hK15 => ?_)
      refine C_region ?_
      refine T_val F H kr (ni (dg2 (fd 0) 0)) (fun w _ => R_indexV (x := (.tmp 19)) (y := (.tmp 20)) rfl Tryd.underlying79 Tryd.underlying3 rfl kr (cs := (arrF .i64 2 (dg2 (fd 0)))) kr (k := .i64) 0 kr (by omega) (ni (dg2 (fd 0) 0)) (arrF_get _ (by omega)) w) ?_
      clear F; intro a F
      refine T_k F H (ni (dg2 (fd 0) 0)) ?_
      clear F; intro a F
      refine wpList_nil ?_
      refine hK15 _ _ ?_
      clear hK15
      try clear K15
      refine C_seqK (fun K16 hK16 => ?_)
      refine C_region ?_
      refine T_k F H (.slice none 0 0) ?_
      clear F; intro a F
      refine T_k F H (ni (dg2 (fd 0) 0)) ?_
      clear F; intro a F
      refine T_new F H kr (fun ad => sc ad 0 1 1) (ce (sl (ints .i64 [dg2 (fd 0) 0]) []) 3) (fun w => R_buildS (len := 1) rfl Tryd.underlying25 ((sl (ints .i64 [dg2 (fd 0) 0]) [])) kr w) ?_
      clear F H; intro aq17 a v F H
      refine T_appN F H kr 25 3 (.tmp 23) (.tmp 25) rfl 1 8 kr kr kr (1) (ints .i64 [dg2 (fd 0) 0]) (fun w hk hl => (RdS.all (hl.at_ (k := 0) rfl) (Nat.le_refl _))) (by rw [ints_len]; first | rfl | simp [highL_len, hb_len]) (by decide) (by simp only [maxLen]; decide) (by decide) ?_
      clear F H; intro rq18 a v Qrq18 F H
      refine T_k F H (sc rq18.g 0 1 rq18.cap) ?_
      clear F; intro a F
      refine wpList_nil ?_
      have hc9 : ints .i64 [dg2 (fd 0) 0] = ints .i64 (digP fd 0 (0 + 1)) := by rw [← digP_next]; rfl
      rw [hc9] at H Qrq18
      replace H : Hp [] w [bk rq18.g (sl (ints .i64 (digP fd 0 (0 + 1))) rq18.rest) 3, bk aq2 (arrF .u8 32 fd) 23] v := H.pick [0, 2] kr _ rfl
      refine hK16 _ _ ?_
      clear hK16
      try clear K16
      refine C_region ?_
      refine T_k F H (ni 0) ?_
      clear F; intro a F
      refine T_k F H (ni (dg2 (fd 0) 0)) ?_
      clear F; intro a F
      refine T_val F H kr (ni (15 - dg2 (fd 0) 0)) (fun w _ => R_bin (x := (.const (.int .i64 15))) (y := (.tmp 28)) rfl (k := .i64) (a := ((15 : Nat) : Int)) (b := ((dg2 (fd 0) 0 : Nat) : Int)) kr kr (i_subn64 (a := 15) (b := dg2 (fd 0) 0) (by omega) (by omega)) w) ?_
      clear F; intro a F
      refine T_val F H kr (ni (lackN (digP fd 0 1))) (fun w _ => R_bin (x := (.tmp 27)) (y := (.tmp 29)) rfl (k := .i64) (a := ((0 : Nat) : Int)) (b := (((15 - dg2 (fd 0) 0) : Nat) : Int)) kr kr ((i_addn64 (a := 0) (b := 15 - dg2 (fd 0) 0) (by omega)).trans (congrArg (fun q : Nat => some (Value.int .i64 (q : Int))) (by rw [hlk]; simp [digP, digB, lackN]))) w) ?_
      clear F; intro a F
      refine T_k F H (ni (lackN (digP fd 0 1))) ?_
      clear F; intro a F
      refine wpList_nil ?_
      refine hK14 _ _ ?_
      clear hK14
      try clear K14
      refine C_region ?_
      refine T_k F H (ni 1) ?_
      clear F; intro a F
      refine T_k F H (ni 1) ?_
      clear F; intro a F
      refine wpList_nil ?_
      replace F : Fm 43 [] [(20, ni 1), (19, .agg (arrF .i64 2 (dg2 (fd 0)))), (10, ni 0), (9, kyV fd), (3, sc rq18.g 0 (2 * 0 + 1) rq18.cap), (4, ni (lackN (digP fd 0 1))), (1, pt aq2 0), (2, .slice none 0 0)] a := F.weak _ (subL_of kr)
      replace H : Hp [] w [bk rq18.g (sl (ints .i64 (digP fd 0 1)) rq18.rest) 3, bk aq2 (arrF .u8 32 fd) 23] v := H
      exact ⟨mj, Nat.lt_succ_self mj, .inr ⟨1, rq18, by omega, by omega, Qrq18, F, H⟩⟩
    rcases mj with _ | mj
    rotate_left
    · skip
      have hdj := hd9 j
      have hlk := lackP fd 0 j
      have hlk2 := lackP_le fd 0 (j + 1)
      refine C_seqK (fun K19 hK19 => ?_)
      refine C_region ?_
      refine T_val F H kr (.bool true) (fun w _ => R_bin (x := (.tmp 20)) (y := (.const (.int .i64 2))) rfl (k := .i64) (a := ((j : Nat) : Int)) (b := ((2 : Nat) : Int)) kr kr (i_lt (by omega)) w) ?_
      clear F; intro a F
      refine wpList_nil ?_
      refine hK19 _ _ ?_
      clear hK19
      try clear K19
      refine C_seqK (fun K20 hK20 => ?_)
      refine C_if F true rfl rfl ?_
      refine wp_skip ?_
      refine hK20 _ _ ?_
      clear hK20
      try clear K20
      refine C_seqK (fun K21 hK21 => ?_)
      refine wp_block ?_
      refine C_seqK (fun K22 hK22 => ?_)
      refine C_region ?_
      refine T_val F H kr (ni (dg2 (fd 0) j)) (fun w _ => R_indexV (x := (.tmp 19)) (y := (.tmp 20)) rfl Tryd.underlying79 Tryd.underlying3 rfl kr (cs := (arrF .i64 2 (dg2 (fd 0)))) kr (k := .i64) j kr (by omega) (ni (dg2 (fd 0) j)) (arrF_get _ (by omega)) w) ?_
      clear F; intro a F
      refine T_k F H (ni (dg2 (fd 0) j)) ?_
      clear F; intro a F
      refine wpList_nil ?_
      refine hK22 _ _ ?_
      clear hK22
      try clear K22
      refine C_seqK (fun K23 hK23 => ?_)
      refine C_region ?_
      refine T_k F H (sc r.g 0 (2 * 0 + j) r.cap) ?_
      clear F; intro a F
      refine T_k F H (ni (dg2 (fd 0) j)) ?_
      clear F; intro a F
      refine T_new F H kr (fun ad => sc ad 0 1 1) (ce (sl (ints .i64 [dg2 (fd 0) j]) []) 3) (fun w => R_buildS (len := 1) rfl Tryd.underlying25 ((sl (ints .i64 [dg2 (fd 0) j]) [])) kr w) ?_
      clear F H; intro aq24 a v F H
      refine T_app F H kr 25 3 (.tmp 23) (.tmp 25) rfl 1 8 kr kr 1 rfl hO kr (1) (ints .i64 [dg2 (fd 0) j]) (fun w hk hl => (RdS.all (hl.at_ (k := 0) rfl) (Nat.le_refl _))) (by rw [ints_len]; first | rfl | simp [highL_len, hb_len]) (ints_one _ _) (by simp only [maxLen]; omega) (by omega) _ rfl ?_
      clear F H; intro rq25 a v Qrq25 F H
      refine T_k F H (sc rq25.g 0 ((2 * 0 + j) + 1) rq25.cap) ?_
      clear F; intro a F
      refine wpList_nil ?_
      have hc9 : ints .i64 (digP fd 0 j) ++ ints .i64 [dg2 (fd 0) j] = ints .i64 (digP fd 0 (j + 1)) := by rw [← digP_next, ints_app]
      rw [hc9] at H Qrq25
      replace H : Hp [] w [bk rq25.g (sl (ints .i64 (digP fd 0 (j + 1))) rq25.rest) 3, bk aq2 (arrF .u8 32 fd) 23] v := H.pick [0, 2] kr _ rfl
      refine hK23 _ _ ?_
      clear hK23
      try clear K23
      refine C_region ?_
      refine T_k F H (ni (lackN (digP fd 0 j))) ?_
      clear F; intro a F
      refine T_k F H (ni (dg2 (fd 0) j)) ?_
      clear F; intro a F
      refine T_val F H kr (ni (15 - dg2 (fd 0) j)) (fun w _ => R_bin (x := (.const (.int .i64 15))) (y := (.tmp 28)) rfl (k := .i64) (a := ((15 : Nat) : Int)) (b := ((dg2 (fd 0) j : Nat) : Int)) kr kr (i_subn64 (a := 15) (b := dg2 (fd 0) j) (by omega) (by omega)) w) ?_
      clear F; intro a F
      refine T_val F H kr (ni (lackN (digP fd 0 (j + 1)))) (fun w _ => R_bin (x := (.tmp 27)) (y := (.tmp 29)) rfl (k := .i64) (a := ((lackN (digP fd 0 j) : Nat) : Int)) (b := (((15 - dg2 (fd 0) j) : Nat) : Int)) kr kr ((i_addn64 (a := lackN (digP fd 0 j)) (b := 15 - dg2 (fd 0) j) (by omega)).trans (congrArg (fun q : Nat => some (Value.int .i64 (q : Int))) hlk.symm)) w) ?_
      clear F; intro a F
      refine T_k F H (ni (lackN (digP fd 0 (j + 1)))) ?_
      clear F; intro a F
      refine wpList_nil ?_
      refine hK21 _ _ ?_
      clear hK21
      try clear K21
      refine C_region ?_
      refine T_val F H kr (ni (j + 1)) (fun w _ => R_bin (x := (.tmp 20)) (y := (.const (.int .i64 1))) rfl (k := .i64) (a := ((j : Nat) : Int)) (b := ((1 : Nat) : Int)) kr kr (i_addn64 (a := j) (b := 1) (by omega)) w) ?_
      clear F; intro a F
      refine T_k F H (ni (j + 1)) ?_
      clear F; intro a F
      refine wpList_nil ?_
      replace F : Fm 43 [] [(20, ni (j + 1)), (19, .agg (arrF .i64 2 (dg2 (fd 0)))), (10, ni 0), (9, kyV fd), (3, sc rq25.g 0 (2 * 0 + (j + 1)) rq25.cap), (4, ni (lackN (digP fd 0 (j + 1)))), (1, pt aq2 0), (2, .slice none 0 0)] a := F.weak _ (subL_of kr)
      replace H : Hp [] w [bk rq25.g (sl (ints .i64 (digP fd 0 (j + 1))) rq25.rest) 3, bk aq2 (arrF .u8 32 fd) 23] v := H
      exact ⟨mj, Nat.lt_succ_self mj, .inr ⟨j + 1, rq25, by omega, by omega, Qrq25, F, H⟩⟩
    have hkt : j = 2 := by omega
    rw [hkt] at F H hO
    clear hk hk1
    refine C_seqK (fun K26 hK26 => ?_)
    refine C_region ?_
    refine T_val F H kr (.bool false) (fun w _ => R_bin (x := (.tmp 20)) (y := (.const (.int .i64 2))) rfl (k := .i64) (a := ((2 : Nat) : Int)) (b := ((2 : Nat) : Int)) kr kr (i_nlt (by omega)) w) ?_
    clear F; intro a F
    refine wpList_nil ?_
    refine hK26 _ _ ?_
    clear hK26
    try clear K26
    refine C_seqK (fun K27 hK27 => ?_)
    refine C_if F false rfl rfl ?_
    refine wp_exit ?_
    refine hK9 _ _ ?_
    clear hK9
    try clear K9
    rw [digP_two] at H F hO
    have Qr := hO
    refine C_region ?_
    refine T_k F H (ni 1) ?_
    clear F; intro a F
    refine T_k F H (ni 1) ?_
    clear F; intro a F
    refine wpList_nil ?_
    replace F : Fm 43 [] [(10, ni 1), (9, kyV fd), (3, sc r.g 0 (2 * 1) r.cap), (4, ni (lackN (digB fd 1))), (1, pt aq2 0), (2, .slice none 0 0)] a := F.weak _ (subL_of kr)
    replace H : Hp [] w [bk r.g (sl (ints .i64 (digB fd 1)) r.rest) 3, bk aq2 (arrF .u8 32 fd) 23] v := H
    exact ⟨m, Nat.lt_succ_self m, .inr ⟨1, r, by omega, by omega, Qr, F, H⟩⟩
  rcases m with _ | m
  rotate_left
  · skip
    have hb9 := hfd k (by omega)
    have hd9 := dg2_lt hb9
    have hsh : fd k >>> 4 ≤ fd k := by rw [Nat.shiftRight_eq_div_pow]; exact Nat.div_le_self _ _
    have han : fd k &&& 15 ≤ fd k := Nat.and_le_left
    refine C_seqK (fun K28 hK28 => ?_)
    refine C_region ?_
    refine T_val F H kr (.bool true) (fun w _ => R_bin (x := (.tmp 10)) (y := (.const (.int .i64 32))) rfl (k := .i64) (a := ((k : Nat) : Int)) (b := ((32 : Nat) : Int)) kr kr (i_lt (by omega)) w) ?_
    clear F; intro a F
    refine wpList_nil ?_
    refine hK28 _ _ ?_
    clear hK28
    try clear K28
    refine C_seqK (fun K29 hK29 => ?_)
    refine C_if F true rfl rfl ?_
    refine wp_skip ?_
    refine hK29 _ _ ?_
    clear hK29
    try clear K29
    refine C_seqK (fun K30 hK30 => ?_)
    refine wp_block ?_
    refine C_seqK (fun K31 hK31 => ?_)
    refine C_region ?_
    refine T_val F H kr (nb (fd k)) (fun w _ => R_indexV (x := (.tmp 9)) (y := (.tmp 10)) rfl Tryd.underlying23 Tryd.underlying5 rfl kr (cs := (arrF .u8 32 fd)) kr (k := .i64) k kr (by omega) (nb (fd k)) (arrF_get fd (by omega)) w) ?_
    clear F; intro a F
    refine T_k F H (nb (fd k)) ?_
    clear F; intro a F
    refine wpList_nil ?_
    refine hK31 _ _ ?_
    clear hK31
    try clear K31
    refine C_seqK (fun K32 hK32 => ?_)
    refine C_region ?_
    refine T_k F H (nb (fd k)) ?_
    clear F; intro a F
    refine T_val F H kr (nb ((fd k) >>> (4))) (fun w _ => R_shr (x := (.tmp 13)) (y := (.const (.int .u64 4))) rfl (k := .u8) (yk := .u64) (a := ((fd k : Nat) : Int)) (b := ((4 : Nat) : Int)) kr kr (Int.natCast_nonneg _) (shr_val (k := .u8) (by show _ ≤ 8; omega)) w) ?_
    clear F; intro a F
    refine T_val F H kr (ni ((fd k) >>> (4))) (fun w _ => R_conv (x := (.tmp 14)) rfl (k0 := .u8) kr kr (k := .u8) (a := ((((fd k) >>> (4)) : Nat) : Int)) kr (wrn64 (a := ((fd k) >>> (4))) (by omega)) w) ?_
    clear F; intro a F
    refine T_k F H (nb (fd k)) ?_
    clear F; intro a F
    refine T_val F H kr (nb (fd k &&& 15)) (fun w _ => R_bin (x := (.tmp 16)) (y := (.const (.int .u8 15))) rfl (k := .u8) (a := ((fd k : Nat) : Int)) (b := ((15 : Nat) : Int)) kr kr (i_and8 (a := fd k) (b := 15) (by omega) (by omega)) w) ?_
    clear F; intro a F
    refine T_val F H kr (ni (fd k &&& 15)) (fun w _ => R_conv (x := (.tmp 17)) rfl (k0 := .u8) kr kr (k := .u8) (a := (((fd k &&& 15) : Nat) : Int)) kr (wrn64 (a := (fd k &&& 15)) (by omega)) w) ?_
    clear F; intro a F
    refine T_k F H (.agg (arrF .i64 2 (dg2 (fd k)))) ?_
    clear F; intro a F
    refine T_k F H (ni 0) ?_
    clear F; intro a F
    refine wpList_nil ?_
    replace F : Fm 43 [] [(20, ni 0), (19, .agg (arrF .i64 2 (dg2 (fd k)))), (10, ni k), (9, kyV fd), (3, sc r.g 0 (2 * k) r.cap), (4, ni (lackN (digB fd k))), (1, pt aq2 0), (2, .slice none 0 0)] a := F.weak _ (subL_of kr)
    rw [← digP_zero fd k] at H hO F
    refine hK32 _ _ ?_
    clear hK32
    try clear K32
    refine wp_block ?_
    refine C_loop (fun mj a v => ∃ (j : Nat) (r2 : SlR), j + mj = 2 ∧ Own (ints .i64 (digP fd k j)) r2.rest (2 * k + j) r2.cap 1 ∧ Fm 43 [] [(20, ni j), (19, .agg (arrF .i64 2 (dg2 (fd k)))), (10, ni k), (9, kyV fd), (3, sc r2.g 0 (2 * k + j) r2.cap), (4, ni (lackN (digP fd k j))), (1, pt aq2 0), (2, .slice none 0 0)] a ∧ Hp [] w [bk r2.g (sl (ints .i64 (digP fd k j)) r2.rest) 3, bk aq2 (arrF .u8 32 fd) 23] v) (2) ⟨0, r, Nat.zero_add _, hO, F, H⟩ ?_
    clear F H
    intro mj a v ⟨j, r2, hj, hO2, F, H⟩
    rcases mj with _ | mj
    rotate_left
    · skip
      have hdj := hd9 j
      have hlk := lackP fd k j
      have hlk2 := lackP_le fd k (j + 1)
      refine C_seqK (fun K33 hK33 => ?_)
      refine C_region ?_
      refine T_val F H kr (.bool true) (fun w _ => R_bin (x := (.tmp 20)) (y := (.const (.int .i64 2))) rfl (k := .i64) (a := ((j : Nat) : Int)) (b := ((2 : Nat) : Int)) kr kr (i_lt (by omega)) w) ?_
      clear F; intro a F
      refine wpList_nil ?_
      refine hK33 _ _ ?_
      clear hK33
      try clear K33
      refine C_seqK (fun K34 hK34 => ?_)
      refine C_if F true rfl rfl ?_
      refine wp_skip ?_
      refine hK34 _ _ ?_
      clear hK34
      try clear K34
      refine C_seqK (fun K35 hK35 => ?_)
      refine wp_block ?_
      refine C_seqK (fun K36 hK36 => ?_)
      refine C_region ?_
      refine T_val F H kr (ni (dg2 (fd k) j)) (fun w _ => R_indexV (x := (.tmp 19)) (y := (.tmp 20)) rfl Tryd.underlying79 Tryd.underlying3 rfl kr (cs := (arrF .i64 2 (dg2 (fd k)))) kr (k := .i64) j kr (by omega) (ni (dg2 (fd k) j)) (arrF_get _ (by omega)) w) ?_
      clear F; intro a F
      refine T_k F H (ni (dg2 (fd k) j)) ?_
      clear F; intro a F
      refine wpList_nil ?_
      refine hK36 _ _ ?_
      clear hK36
      try clear K36
      refine C_seqK (fun K37 hK37 => ?_)
      refine C_region ?_
      refine T_k F H (sc r2.g 0 (2 * k + j) r2.cap) ?_
      clear F; intro a F
      refine T_k F H (ni (dg2 (fd k) j)) ?_
      clear F; intro a F
      refine T_new F H kr (fun ad => sc ad 0 1 1) (ce (sl (ints .i64 [dg2 (fd k) j]) []) 3) (fun w => R_buildS (len := 1) rfl Tryd.underlying25 ((sl (ints .i64 [dg2 (fd k) j]) [])) kr w) ?_
      clear F H; intro aq38 a v F H
      refine T_app F H kr 25 3 (.tmp 23) (.tmp 25) rfl 1 8 kr kr 1 rfl hO2 kr (1) (ints .i64 [dg2 (fd k) j]) (fun w hk hl => (RdS.all (hl.at_ (k := 0) rfl) (Nat.le_refl _))) (by rw [ints_len]; first | rfl | simp [highL_len, hb_len]) (ints_one _ _) (by simp only [maxLen]; omega) (by omega) _ rfl ?_
      clear F H; intro rq39 a v Qrq39 F H
      refine T_k F H (sc rq39.g 0 ((2 * k + j) + 1) rq39.cap) ?_
      clear F; intro a F
      refine wpList_nil ?_
      have hc9 : ints .i64 (digP fd k j) ++ ints .i64 [dg2 (fd k) j] = ints .i64 (digP fd k (j + 1)) := by rw [← digP_next, ints_app]
      rw [hc9] at H Qrq39
      replace H : Hp [] w [bk rq39.g (sl (ints .i64 (digP fd k (j + 1))) rq39.rest) 3, bk aq2 (arrF .u8 32 fd) 23] v := H.pick [0, 2] kr _ rfl
      refine hK37 _ _ ?_
      clear hK37
      try clear K37
      refine C_region ?_
      refine T_k F H (ni (lackN (digP fd k j))) ?_
      clear F; intro a F
      refine T_k F H (ni (dg2 (fd k) j)) ?_
      clear F; intro a F
      refine T_val F H kr (ni (15 - dg2 (fd k) j)) (fun w _ => R_bin (x := (.const (.int .i64 15))) (y := (.tmp 28)) rfl (k := .i64) (a := ((15 : Nat) : Int)) (b := ((dg2 (fd k) j : Nat) : Int)) kr kr (i_subn64 (a := 15) (b := dg2 (fd k) j) (by omega) (by omega)) w) ?_
      clear F; intro a F
      refine T_val F H kr (ni (lackN (digP fd k (j + 1)))) (fun w _ => R_bin (x := (.tmp 27)) (y := (.tmp 29)) rfl (k := .i64) (a := ((lackN (digP fd k j) : Nat) : Int)) (b := (((15 - dg2 (fd k) j) : Nat) : Int)) kr kr ((i_addn64 (a := lackN (digP fd k j)) (b := 15 - dg2 (fd k) j) (by omega)).trans (congrArg (fun q : Nat => some (Value.int .i64 (q : Int))) hlk.symm)) w) ?_
      clear F; intro a F
      refine T_k F H (ni (lackN (digP fd k (j + 1)))) ?_
      clear F; intro a F
      refine wpList_nil ?_
      refine hK35 _ _ ?_
      clear hK35
      try clear K35
      refine C_region ?_
      refine T_val F H kr (ni (j + 1)) (fun w _ => R_bin (x := (.tmp 20)) (y := (.const (.int .i64 1))) rfl (k := .i64) (a := ((j : Nat) : Int)) (b := ((1 : Nat) : Int)) kr kr (i_addn64 (a := j) (b := 1) (by omega)) w) ?_
      clear F; intro a F
      refine T_k F H (ni (j + 1)) ?_
      clear F; intro a F
      refine wpList_nil ?_
      replace F : Fm 43 [] [(20, ni (j + 1)), (19, .agg (arrF .i64 2 (dg2 (fd k)))), (10, ni k), (9, kyV fd), (3, sc rq39.g 0 (2 * k + (j + 1)) rq39.cap), (4, ni (lackN (digP fd k (j + 1)))), (1, pt aq2 0), (2, .slice none 0 0)] a := F.weak _ (subL_of kr)
      replace H : Hp [] w [bk rq39.g (sl (ints .i64 (digP fd k (j + 1))) rq39.rest) 3, bk aq2 (arrF .u8 32 fd) 23] v := H
      exact ⟨mj, Nat.lt_succ_self mj, j + 1, rq39, by omega, Qrq39, F, H⟩
    have hjt : j = 2 := by omega
    rw [hjt] at F H hO2
    clear hj
    refine C_seqK (fun K40 hK40 => ?_)
    refine C_region ?_
    refine T_val F H kr (.bool false) (fun w _ => R_bin (x := (.tmp 20)) (y := (.const (.int .i64 2))) rfl (k := .i64) (a := ((2 : Nat) : Int)) (b := ((2 : Nat) : Int)) kr kr (i_nlt (by omega)) w) ?_
    clear F; intro a F
    refine wpList_nil ?_
    refine hK40 _ _ ?_
    clear hK40
    try clear K40
    refine C_seqK (fun K41 hK41 => ?_)
    refine C_if F false rfl rfl ?_
    refine wp_exit ?_
    refine hK30 _ _ ?_
    clear hK30
    try clear K30
    rw [digP_two] at H F hO2
    have Qr2 := hO2
    refine C_region ?_
    refine T_val F H kr (ni (k + 1)) (fun w _ => R_bin (x := (.tmp 10)) (y := (.const (.int .i64 1))) rfl (k := .i64) (a := ((k : Nat) : Int)) (b := ((1 : Nat) : Int)) kr kr (i_addn64 (a := k) (b := 1) (by omega)) w) ?_
    clear F; intro a F
    refine T_k F H (ni (k + 1)) ?_
    clear F; intro a F
    refine wpList_nil ?_
    replace F : Fm 43 [] [(10, ni (k + 1)), (9, kyV fd), (3, sc r2.g 0 (2 * (k + 1)) r2.cap), (4, ni (lackN (digB fd (k + 1)))), (1, pt aq2 0), (2, .slice none 0 0)] a := F.weak _ (subL_of kr)
    replace H : Hp [] w [bk r2.g (sl (ints .i64 (digB fd (k + 1))) r2.rest) 3, bk aq2 (arrF .u8 32 fd) 23] v := H
    exact ⟨m, Nat.lt_succ_self m, .inr ⟨k + 1, r2, by omega, by omega, Qr2, F, H⟩⟩
  have hkt : k = 32 := by omega
  rw [hkt] at F H hO
  clear hk hk1
  refine C_seqK (fun K42 hK42 => ?_)
  refine C_region ?_
  refine T_val F H kr (.bool false) (fun w _ => R_bin (x := (.tmp 10)) (y := (.const (.int .i64 32))) rfl (k := .i64) (a := ((32 : Nat) : Int)) (b := ((32 : Nat) : Int)) kr kr (i_nlt (by omega)) w) ?_
  clear F; intro a F
  refine wpList_nil ?_
  refine hK42 _ _ ?_
  clear hK42
  try clear K42
  refine C_seqK (fun K43 hK43 => ?_)
  refine C_if F false rfl rfl ?_
  refine wp_exit ?_
  refine hK5 _ _ ?_
  clear hK5
  try clear K5
  refine C_seqK (fun K44 hK44 => ?_)
  have hlk := lack_lt fd
  have hdl : digL fd = digB fd 32 ++ [lackN (digB fd 32) / 256, lackN (digB fd 32) / 16 % 16, lackN (digB fd 32) % 16] := rfl
  generalize hLk : lackN (digB fd 32) = lk at F hlk hdl
  refine C_region ?_
  refine T_k F H (sc r.g 0 (2 * 32) r.cap) ?_
  clear F; intro a F
  refine T_k F H (ni lk) ?_
  clear F; intro a F
  refine T_val F H kr (ni (lk / 256)) (fun w _ => R_shr (x := (.tmp 34)) (y := (.const (.int .u64 8))) rfl (k := .i64) (yk := .u64) (a := ((lk : Nat) : Int)) (b := ((8 : Nat) : Int)) kr kr (Int.natCast_nonneg _) ((show (Value.int .i64 ((lk / 256 : Nat) : Int)) = ni (lk >>> 8) by rw [Nat.shiftRight_eq_div_pow]).trans (shr_val (k := .i64) (by show _ ≤ 64; omega))) w) ?_
  clear F; intro a F
  refine T_k F H (ni lk) ?_
  clear F; intro a F
  refine T_val F H kr (ni ((lk) >>> (4))) (fun w _ => R_shr (x := (.tmp 36)) (y := (.const (.int .u64 4))) rfl (k := .i64) (yk := .u64) (a := ((lk : Nat) : Int)) (b := ((4 : Nat) : Int)) kr kr (Int.natCast_nonneg _) (shr_val (k := .i64) (by show _ ≤ 64; omega)) w) ?_
  clear F; intro a F
  refine T_val F H kr (ni (lk / 16 % 16)) (fun w _ => R_bin (x := (.tmp 37)) (y := (.const (.int .i64 15))) rfl (k := .i64) (a := ((((lk) >>> (4)) : Nat) : Int)) (b := ((15 : Nat) : Int)) kr kr (and15 (lk >>> 4) (lk / 16) (Nat.shiftRight_eq_div_pow _ _) (by omega)) w) ?_
  clear F; intro a F
  refine T_k F H (ni lk) ?_
  clear F; intro a F
  refine T_val F H kr (ni (lk % 16)) (fun w _ => R_bin (x := (.tmp 39)) (y := (.const (.int .i64 15))) rfl (k := .i64) (a := ((lk : Nat) : Int)) (b := ((15 : Nat) : Int)) kr kr (and15 lk lk rfl (by omega)) w) ?_
  clear F; intro a F
  refine T_new F H kr (fun ad => sc ad 0 3 3) (ce (sl (ints .i64 [lk / 256, lk / 16 % 16, lk % 16]) []) 3) (fun w => R_buildS (len := 3) rfl Tryd.underlying25 ((sl (ints .i64 [lk / 256, lk / 16 % 16, lk % 16]) [])) kr w) ?_
  clear F H; intro aq45 a v F H
  refine T_app F H kr 25 3 (.tmp 33) (.tmp 41) rfl 1 8 kr kr 1 rfl hO kr (3) (ints .i64 [lk / 256, lk / 16 % 16, lk % 16]) (fun w hk hl => (RdS.all (hl.at_ (k := 0) rfl) (Nat.le_refl _))) (by rw [ints_len]; first | rfl | simp [highL_len, hb_len]) (ints_one _ _) (by simp only [maxLen]; omega) (by omega) _ rfl ?_
  clear F H; intro rq46 a v Qrq46 F H
  refine T_k F H (sc rq46.g 0 ((2 * 32) + 3) rq46.cap) ?_
  clear F; intro a F
  refine wpList_nil ?_
  refine hK44 _ _ ?_
  clear hK44
  try clear K44
  have hc9 : ints .i64 (digB fd 32) ++ ints .i64 [lk / 256, lk / 16 % 16, lk % 16] = ints .i64 (digL fd) := by rw [hdl, ints_app]
  rw [hc9] at H Qrq46
  refine wp_ret ?_
  exact C_ret F H (rs := [.tmp 2]) rfl (vs := [sc rq46.g 0 67 rq46.cap]) (.tmp rfl .nil) (sc rq46.g 0 67 rq46.cap) rfl (made_ret H (k := 0) rfl Qrq46)
end Go.Proofs.YtdejhenkdbjakaaDoor
