/- Walks: signers, by the reference. -/
import Derived.Test.YtdejhenkdbjakaaDoorXC
set_option linter.unusedVariables false
set_option linter.unusedSimpArgs false
namespace Go.Proofs.YtdejhenkdbjakaaDoor
open Go Go.RowKit
set_option maxRecDepth 100000 in
set_option maxHeartbeats 4000000 in
theorem ltag_any (gl n : Nat) (nn : Nat) (hnn : nn < 4294967296) (w : World) (hm : w.heap[gl]? = some (.cells (lgr n) 32 (0, 0))) : Calls Tryd.prog 62 #[.pointer (some ⟨gl, 0, none⟩), .int .u32 ((nn : Nat) : Int)] w fun e w' => ∃ r : SlR, e = .returned (.agg (arrF .u8 32 (tgF nn))) ∧ True ∧ Kept [gl] w w' ∧ w'.heap[gl]? = some (.cells (lgr r.n) 32 (0, 0)) := by
  refine C_enter Tryd.func62 rfl 12 Tryd.ntmps62 (Nat.le_of_ble_eq_true rfl) (fun a F => ?_)
  have H := Hp.startX hm
  replace F : Fm 12 [] [(0, pt gl 0), (1, nw nn)] a := F.weak _ (subL_of kr)
  refine C_seqK (fun K1 hK1 => ?_)
  refine C_region ?_
  refine T_new F H kr (fun ad => pt ad 0) (ce z8 23) (fun w => kr) ?_
  clear F H; intro aq2 a v F H
  refine wpList_nil ?_
  refine hK1 _ _ ?_
  clear hK1
  try clear K1
  refine C_seqK (fun K3 hK3 => ?_)
  refine C_region ?_
  refine T_k F H (pt gl 0) ?_
  clear F; intro a F
  refine T_new F H kr (fun ad => sc ad 0 3 3) (ce (sl (ints .u8 [116, 97, 103]) []) 5) (fun w => R_buildS (len := 3) rfl Tryd.underlying54 ((sl (ints .u8 [116, 97, 103]) [])) kr w) ?_
  clear F H; intro aq4 a v F H
  refine T_k F H (nw nn) ?_
  clear F; intro a F
  refine T_val F H kr (nu nn) (fun w _ => R_conv (x := (.tmp 7)) rfl (k0 := .u32) kr kr (k := .u32) (a := ((nn : Nat) : Int)) kr (wru64 (a := nn) (by omega)) w) ?_
  clear F; intro a F
  refine T_callX (α := SlR) F H kr 50 #[nu nn, ni 4] (fun rX => sc rX.g 0 4 rX.cap) (fun rX => [bk rX.g (sl (oct (highL nn 4)) rX.rest) 5, bk aq4 (sl (ints .u8 [116, 97, 103]) []) 5, bk aq2 z8 23, bk gl (lgr n) 32]) (fun rX => Own (oct (highL nn 4)) rX.rest (4) rX.cap 1) (fun w => kr) (fun w H => callsX_newV H (highR_any nn 4 (by omega) (by omega) (by omega) _)) ?_
  clear F H; intro rq5 a v Qrq5 F H
  refine T_app F H kr 54 5 (.tmp 6) (.tmp 9) rfl 1 1 kr kr 1 rfl (own_all (m := 3) (by rfl) (by simp only [maxLen]; omega)) kr (4) (oct (highL nn 4)) (fun w hk hl => (RdS.all (hl.at_ (k := 0) rfl) (Own.le Qrq5))) (by rw [ints_len]; first | rfl | simp [highL_len, hb_len]) (ints_one _ _) (by simp only [maxLen]; omega) (by omega) _ rfl ?_
  clear F H; intro rq6 a v Qrq6 F H
  have hc9 : (ints .u8 [116, 97, 103]) ++ (oct (highL nn 4)) = oct ([116, 97, 103] ++ highL nn 4) := (ints_app .u8 _ _).symm
  rw [hc9] at H Qrq6
  refine T_callX (α := SlR) F H kr 51 #[pt gl 0, sc rq6.g 0 (3 + 4) rq6.cap] (fun rX => kyV (tgF nn)) (fun rX => [bk rq6.g (sl (oct ([116, 97, 103] ++ highL nn 4)) rq6.rest) 5, bk rq5.g (sl (oct (highL nn 4)) rq5.rest) 5, bk aq2 z8 23, bk gl (lgr rX.n) 32]) (fun rX => True) (fun w => kr) (fun w H => callsX_putV H (k := 3) rfl ((lsum_blk gl n rq6.g ((3 + 4)) (rq6.cap) ([116, 97, 103] ++ highL nn 4) _ (by rw [List.length_append, highL_len]; rfl) Qrq6.le (by omega) (tg_b _) _ (H.at_ (k := 0) rfl) (H.at_ (k := 3) rfl)))) ?_
  clear F H; intro rq7 a v Qrq7 F H
  refine T_set F H kr rfl 2 rfl (arrF .u8 32 (tgF nn)) (S_row 2 rfl 23 (.tmp 4) (.tmp 11) rfl kr (arrF .u8 32 (tgF nn)) kr (by rw [arrF_size]; kernel_rfl) (by rw [arrF_size]; kernel_rfl) (arrF_one _ _ _)) [bk rq6.g (sl (oct ([116, 97, 103] ++ highL nn 4)) rq6.rest) 5, bk rq5.g (sl (oct (highL nn 4)) rq5.rest) 5, bk aq2 (arrF .u8 32 (tgF nn)) 23, bk gl (lgr rq7.n) 32] rfl ?_
  clear F H; intro a v F H
  refine wpList_nil ?_
  refine hK3 _ _ ?_
  clear hK3
  try clear K3
  refine wp_ret ?_
  exact C_ret F H (rs := [.cell 4 23]) rfl (vs := [kyV (tgF nn)]) (.row 2 rfl rfl _ Tryd.underlying23 rfl kr .nil) (kyV (tgF nn)) rfl ⟨⟨0, 0, [], rq7.n⟩, rfl, trivial, H.kept, H.at_ (k := 3) rfl⟩

set_option maxRecDepth 100000 in
set_option maxHeartbeats 4000000 in
theorem ldig_any (gl n : Nat) (p : SlP) (hbk : ∀ x ∈ p.l, x < 256) (hn : p.l.length = p.n) (h64 : p.n ≤ 1000) (w : World) (hrd : RdK [gl] w p) (hm : w.heap[gl]? = some (.cells (lgr n) 32 (0, 0))) : Calls Tryd.prog 63 #[.pointer (some ⟨gl, 0, none⟩), .slice p.ad p.n p.c] w fun e w' => ∃ r : SlR, e = .returned (.agg (arrF .u8 32 (dgF p.l))) ∧ True ∧ Kept [gl] w w' ∧ w'.heap[gl]? = some (.cells (lgr r.n) 32 (0, 0)) := by
  refine C_enter Tryd.func63 rfl 10 Tryd.ntmps63 (Nat.le_of_ble_eq_true rfl) (fun a F => ?_)
  have H := Hp.startX hm
  replace F : Fm 10 [] [(0, pt gl 0), (1, .slice p.ad p.n p.c)] a := F.weak _ (subL_of kr)
  refine C_seqK (fun K1 hK1 => ?_)
  refine C_region ?_
  refine T_new F H kr (fun ad => pt ad 0) (ce z8 23) (fun w => kr) ?_
  clear F H; intro aq2 a v F H
  refine wpList_nil ?_
  refine hK1 _ _ ?_
  clear hK1
  try clear K1
  refine C_seqK (fun K3 hK3 => ?_)
  refine C_region ?_
  refine T_k F H (pt gl 0) ?_
  clear F; intro a F
  refine T_new F H kr (fun ad => sc ad 0 4 4) (ce (sl (ints .u8 [99, 111, 114, 101]) []) 5) (fun w => R_buildS (len := 4) rfl Tryd.underlying54 ((sl (ints .u8 [99, 111, 114, 101]) [])) kr w) ?_
  clear F H; intro aq4 a v F H
  refine T_k F H (.slice p.ad p.n p.c) ?_
  clear F; intro a F
  refine T_app F H kr 54 5 (.tmp 6) (.tmp 7) rfl 1 1 kr kr 0 rfl (own_all (m := 4) (by rfl) (by simp only [maxLen]; omega)) kr (p.n) (oct (p.l)) (fun w hk hl => (hrd _ hk)) (by rw [ints_len, Nat.mul_one]; exact hn) (ints_one _ _) (by simp only [maxLen]; omega) (by omega) _ rfl ?_
  clear F H; intro rq5 a v Qrq5 F H
  have hc9 : (ints .u8 [99, 111, 114, 101]) ++ (oct (p.l)) = oct ([99, 111, 114, 101] ++ p.l) := (ints_app .u8 _ _).symm
  rw [hc9] at H Qrq5
  refine T_callX (α := SlR) F H kr 51 #[pt gl 0, sc rq5.g 0 (4 + p.n) rq5.cap] (fun rX => kyV (dgF p.l)) (fun rX => [bk rq5.g (sl (oct ([99, 111, 114, 101] ++ p.l)) rq5.rest) 5, bk aq2 z8 23, bk gl (lgr rX.n) 32]) (fun rX => True) (fun w => kr) (fun w H => callsX_putV H (k := 2) rfl ((lsum_blk gl n rq5.g ((4 + p.n)) (rq5.cap) ([99, 111, 114, 101] ++ p.l) _ (by rw [List.length_append, hn]; rfl) Qrq5.le (by omega) (dg_b hbk) _ (H.at_ (k := 0) rfl) (H.at_ (k := 2) rfl)))) ?_
  clear F H; intro rq6 a v Qrq6 F H
  refine T_set F H kr rfl 1 rfl (arrF .u8 32 (dgF p.l)) (S_row 1 rfl 23 (.tmp 4) (.tmp 9) rfl kr (arrF .u8 32 (dgF p.l)) kr (by rw [arrF_size]; kernel_rfl) (by rw [arrF_size]; kernel_rfl) (arrF_one _ _ _)) [bk rq5.g (sl (oct ([99, 111, 114, 101] ++ p.l)) rq5.rest) 5, bk aq2 (arrF .u8 32 (dgF p.l)) 23, bk gl (lgr rq6.n) 32] rfl ?_
  clear F H; intro a v F H
  refine wpList_nil ?_
  refine hK3 _ _ ?_
  clear hK3
  try clear K3
  refine wp_ret ?_
  exact C_ret F H (rs := [.cell 4 23]) rfl (vs := [kyV (dgF p.l)]) (.row 1 rfl rfl _ Tryd.underlying23 rfl kr .nil) (kyV (dgF p.l)) rfl ⟨⟨0, 0, [], rq6.n⟩, rfl, trivial, H.kept, H.at_ (k := 2) rfl⟩

set_option maxRecDepth 100000 in
set_option maxHeartbeats 4000000 in
theorem lseed_any (gl n : Nat) (seed : Nat → Nat) (hseed : ∀ i, i < 32 → seed i < 256) (nn : Nat) (hnn : nn < 4294967296) (w : World) (hm : w.heap[gl]? = some (.cells (lgr n) 32 (0, 0))) : Calls Tryd.prog 65 #[.pointer (some ⟨gl, 0, none⟩), .agg (arrF .u8 32 seed), .int .u32 ((nn : Nat) : Int)] w fun e w' => ∃ r : SlR, e = .returned (.agg (arrF .u8 32 (sdF seed nn))) ∧ True ∧ Kept [gl] w w' ∧ w'.heap[gl]? = some (.cells (lgr r.n) 32 (0, 0)) := by
  refine C_enter Tryd.func65 rfl 14 Tryd.ntmps65 (Nat.le_of_ble_eq_true rfl) (fun a F => ?_)
  have H := Hp.startX hm
  replace F : Fm 14 [] [(0, pt gl 0), (1, kyV seed), (2, nw nn)] a := F.weak _ (subL_of kr)
  refine C_seqK (fun K1 hK1 => ?_)
  refine C_region ?_
  refine T_new F H kr (fun ad => pt ad 0) (ce (arrF .u8 32 seed) 23) (fun w => kr) ?_
  clear F H; intro aq2 a v F H
  refine T_new F H kr (fun ad => pt ad 0) (ce z8 23) (fun w => kr) ?_
  clear F H; intro aq3 a v F H
  refine wpList_nil ?_
  refine hK1 _ _ ?_
  clear hK1
  try clear K1
  refine C_seqK (fun K4 hK4 => ?_)
  refine E_region F H (fun β => [(7, pt gl 0), (8, kyV seed), (9, nw nn), (10, nu nn), (11, sc ((β 4).g) 0 4 (β 4).cap), (12, sc ((β 5).g) 0 1 1), (13, kyV (sdF seed nn))]) [7, 8, 9, 10, 11, 12, 13] [⟨some 4, none, 0, [4], fun q_ => ce (sl (oct (highL nn 4)) (gh q_ 0).rest) 5, fun q_ => Own (oct (highL nn 4)) (gh q_ 0).rest (4) (gh q_ 0).cap 1, []⟩,
    ⟨some 5, none, 0, [4], fun q_ => ce #[sc ((gh q_ 0).g) 0 4 (gh q_ 0).cap] 54, gT, []⟩,
    ⟨none, none, gl, [], fun q_ => ce (lgr n) 32, gT, [⟨6, [6], fun q_ => ce (lgr (gh q_ 0).n) 32, gT⟩]⟩,
    ⟨none, none, aq3, [], fun q_ => ce z8 23, gT, [⟨7, [], fun q_ => ce (arrF .u8 32 (sdF seed nn)) 23, gT⟩]⟩] [bk aq2 (arrF .u8 32 seed) 23] [2, 0, 1] 2 [] kr kr kr (fun β => rfl) ⟨fun h _ => Bool.noConfusion h, ⟨fun h _ => Bool.noConfusion h, ⟨fun _ _ => trivial, ⟨fun _ _ => trivial, trivial⟩⟩⟩⟩ ⟨?_, ?_, ?_, ?_, ?_, ?_, ?_, ?_, trivial⟩ ?_
  · exact E_k 14 (fun β => pt gl 0) 7 2
  · exact E_v 14 (fun β => kyV seed) 8 2 [] (fun β w hk hl hq => R_loadH hl (own := true) (g := aq2) (all := (arrF .u8 32 seed)) (t := 23) (fr := (0, 0)) 0 kr 23 (.tmp 4) rfl 0 kr (arrF .u8 32 seed) (part_all _) _ Tryd.underlying23 rfl (by rw [arrF_size]; kernel_rfl))
  · exact E_k 14 (fun β => nw nn) 9 2
  · exact E_v 14 (fun β => nu nn) 10 2 [] (fun β w hk hl hq => R_conv (x := (.tmp 9)) rfl (k0 := .u32) kr kr (k := .u32) (a := ((nn : Nat) : Int)) kr (wru64 (a := nn) (by omega)) w)
  · exact E_callS 14 kq (fun β => sc ((β 4).g) 0 4 (β 4).cap) 11 rfl kq 2 (fun β r => offAt2_of kr kr) 50 (fun β => #[nu nn, ni 4]) (fun β w => kr) 2 [] 0 _ rfl kr kr rfl (fun β w hk hl hq => highR_any nn 4 (by omega) (by omega) (by omega) _)
  · exact E_new 14 kq (fun β => sc ((β 5).g) 0 1 1) 12 rfl kq 2 (fun β r => offAt2_of kr kr) 2 [] 1 _ rfl kr kr rfl (fun β w hk hl hq => ⟨⟨w.heap.size, 0, [], 0⟩, _, (R_buildS (len := 1) rfl Tryd.underlying30 (#[sc ((β 4).g) 0 4 (β 4).cap]) kr w), trivial, Nat.le_refl _, heap_alloc_new _ _, Kept.alloc _ _⟩)
  · exact E_callP 14 kq (fun β => kyV (sdF seed nn)) 13 rfl kq 2 (fun β r => offAt2_of kr kr) 69 (fun β => #[pt gl 0, kyV seed, .string ⟨#[115, 105, 103, 110]⟩, sc ((β 5).g) 0 1 1]) (fun β w => kr) 2 [(0, 0), (1, 0)] 2 0 _ _ rfl rfl kr kr rfl (fun β w hk hl hq hm => (lder_one gl n seed hseed ⟨#[115, 105, 103, 110]⟩ sSign rfl (by decide) (by decide) (by decide) (β 4).g 4 ((β 4).cap) (highL nn 4) _ (highL_len _ _) hq.1.1.le (by omega) (highL_lt _ _) _ _ (#[sc ((β 4).g) 0 4 (β 4).cap]) rfl _ (hl.at_ (k := 0) rfl) (hl.at_ (k := 1) rfl) hm))
  · exact E_store 14 kq rfl 2 [] 3 0 _ _ rfl rfl kr rfl (fun _ => trivial) (fun β w hk hl hq hm => let ⟨w', h1, h2, h3⟩ := P_row (cs := (arrF .u8 32 (sdF seed nn))) (old := z8) rfl rfl (ty := 23) (x := (.tmp 6)) (y := (.tmp 13)) rfl kr kr (by rw [arrF_size]; kernel_rfl) (by rw [arrF_size]; kernel_rfl) (arrF_one _ _ _) hm; ⟨w', h1, h2, h3⟩)
  clear F H; intro β a v Q F H
  replace H : Hp [gl] w [bk ((β 4).g) (sl (oct (highL nn 4)) (β 4).rest) 5, bk ((β 5).g) #[sc ((β 4).g) 0 4 (β 4).cap] 54, bk gl (lgr (β 6).n) 32, bk aq3 (arrF .u8 32 (sdF seed nn)) 23, bk aq2 (arrF .u8 32 seed) 23] v := H
  replace F : Fm 14 [] [(13, kyV (sdF seed nn)), (12, sc ((β 5).g) 0 1 1), (11, sc ((β 4).g) 0 4 (β 4).cap), (10, nu nn), (9, nw nn), (8, kyV seed), (7, pt gl 0), (6, pt aq3 0), (4, pt aq2 0), (0, pt gl 0), (1, kyV seed), (2, nw nn)] a := F.weak _ (subL_of kr)
  have Qh7_0 : Own (oct (highL nn 4)) (β 4).rest (4) (β 4).cap 1 := Q.1
  clear Q
  generalize β 4 = rq5 at F H Qh7_0
  generalize β 5 = rq6 at F H Qh7_0
  generalize β 6 = rq7 at F H Qh7_0
  skip
  refine ?_
  refine hK4 _ _ ?_
  clear hK4
  try clear K4
  refine wp_ret ?_
  exact C_ret F H (rs := [.cell 6 23]) rfl (vs := [kyV (sdF seed nn)]) (.row 3 rfl rfl _ Tryd.underlying23 rfl kr .nil) (kyV (sdF seed nn)) rfl ⟨⟨0, 0, [], rq7.n⟩, rfl, trivial, H.kept, H.at_ (k := 2) rfl⟩

set_option maxRecDepth 100000 in
set_option maxHeartbeats 4000000 in
theorem lpub17_any (gl n : Nat) (seed : Nat → Nat) (hseed : ∀ i, i < 32 → seed i < 256) (nn : Nat) (hnn : nn < 4294967296) (w : World) (hm : w.heap[gl]? = some (.cells (lgr n) 32 (0, 0))) : Calls Tryd.prog 38 #[.pointer (some ⟨gl, 0, none⟩), .agg (arrF .u8 32 seed), .int .u32 ((nn : Nat) : Int)] w fun e w' => ∃ r : SlR, e = .returned (.agg (arrF .u8 32 (pubN seed nn))) ∧ True ∧ Kept [gl] w w' ∧ w'.heap[gl]? = some (.cells (lgr r.n) 32 (0, 0)) := by
  refine C_enter Tryd.func38 rfl 16 Tryd.ntmps38 (Nat.le_of_ble_eq_true rfl) (fun a F => ?_)
  have H := Hp.startX hm
  replace F : Fm 16 [] [(0, pt gl 0), (1, kyV seed), (2, nw nn)] a := F.weak _ (subL_of kr)
  refine C_seqK (fun K1 hK1 => ?_)
  refine C_region ?_
  refine T_new F H kr (fun ad => pt ad 0) (ce (arrF .u8 32 seed) 23) (fun w => kr) ?_
  clear F H; intro aq2 a v F H
  refine T_new F H kr (fun ad => pt ad 0) (ce z8 23) (fun w => kr) ?_
  clear F H; intro aq3 a v F H
  refine wpList_nil ?_
  refine hK1 _ _ ?_
  clear hK1
  try clear K1
  refine C_seqK (fun K4 hK4 => ?_)
  refine C_region ?_
  refine T_k F H (pt gl 0) ?_
  clear F; intro a F
  refine T_k F H (pt gl 0) ?_
  clear F; intro a F
  refine T_val F H kr (kyV seed) (R_load (own := true) (g := aq2) (all := (arrF .u8 32 seed)) (t := 23) (fr := (0, 0)) 1 kr 23 (.tmp 4) rfl 0 kr (arrF .u8 32 seed) (part_all _) _ Tryd.underlying23 rfl (by rw [arrF_size]; kernel_rfl)) ?_
  clear F; intro a F
  refine T_k F H (nw nn) ?_
  clear F; intro a F
  refine T_callX (α := SlR) F H kr 65 #[pt gl 0, kyV seed, nw nn] (fun rX => kyV (sdF seed nn)) (fun rX => [bk aq3 z8 23, bk aq2 (arrF .u8 32 seed) 23, bk gl (lgr rX.n) 32]) (fun rX => True) (fun w => kr) (fun w H => callsX_putV H (k := 2) rfl (lseed_any gl n seed hseed nn hnn _ (H.at_ (k := 2) rfl))) ?_
  clear F H; intro rq5 a v Qrq5 F H
  refine T_k F H (pt gl 0) ?_
  clear F; intro a F
  refine T_k F H (nw nn) ?_
  clear F; intro a F
  refine T_callX (α := SlR) F H kr 62 #[pt gl 0, nw nn] (fun rX => kyV (tgF nn)) (fun rX => [bk aq3 z8 23, bk aq2 (arrF .u8 32 seed) 23, bk gl (lgr rX.n) 32]) (fun rX => True) (fun w => kr) (fun w H => callsX_putV H (k := 2) rfl (ltag_any gl rq5.n nn hnn _ (H.at_ (k := 2) rfl))) ?_
  clear F H; intro rq6 a v Qrq6 F H
  refine T_callX (α := SlR) F H kr 24 #[pt gl 0, kyV (sdF seed nn), kyV (tgF nn)] (fun rX => kyV (pubN seed nn)) (fun rX => [bk aq3 z8 23, bk aq2 (arrF .u8 32 seed) 23, bk gl (lgr rX.n) 32]) (fun rX => True) (fun w => kr) (fun w H => callsX_putV H (k := 2) rfl (lpublic_any gl rq6.n (sdF seed nn) (sdF_lt _ _) (tgF nn) (tgF_lt _) _ (H.at_ (k := 2) rfl))) ?_
  clear F H; intro rq7 a v Qrq7 F H
  refine T_set F H kr rfl 0 rfl (arrF .u8 32 (pubN seed nn)) (S_row 0 rfl 23 (.tmp 6) (.tmp 15) rfl kr (arrF .u8 32 (pubN seed nn)) kr (by rw [arrF_size]; kernel_rfl) (by rw [arrF_size]; kernel_rfl) (arrF_one _ _ _)) [bk aq3 (arrF .u8 32 (pubN seed nn)) 23, bk aq2 (arrF .u8 32 seed) 23, bk gl (lgr rq7.n) 32] rfl ?_
  clear F H; intro a v F H
  refine wpList_nil ?_
  refine hK4 _ _ ?_
  clear hK4
  try clear K4
  refine wp_ret ?_
  exact C_ret F H (rs := [.cell 6 23]) rfl (vs := [kyV (pubN seed nn)]) (.row 0 rfl rfl _ Tryd.underlying23 rfl kr .nil) (kyV (pubN seed nn)) rfl ⟨⟨0, 0, [], rq7.n⟩, rfl, trivial, H.kept, H.at_ (k := 2) rfl⟩

set_option maxRecDepth 100000 in
set_option maxHeartbeats 4000000 in
theorem lsign17_any (gl n : Nat) (seed : Nat → Nat) (hseed : ∀ i, i < 32 → seed i < 256) (nn : Nat) (hnn : nn < 4294967296) (p : SlP) (hbk : ∀ x ∈ p.l, x < 256) (hn : p.l.length = p.n) (h64 : p.n ≤ 1000) (w : World) (hrd : RdK [gl] w p) (hm : w.heap[gl]? = some (.cells (lgr n) 32 (0, 0))) : Calls Tryd.prog 37 #[.pointer (some ⟨gl, 0, none⟩), .agg (arrF .u8 32 seed), .int .u32 ((nn : Nat) : Int), .slice p.ad p.n p.c] w fun e w' => ∃ r : SlR, e = .returned (.slice (some ⟨r.g, 0, none⟩) 67 r.cap) ∧ True ∧ Own (keysC (sigN seed nn p.l) 67) r.rest 67 r.cap 32 ∧ w.heap.size ≤ r.g ∧ w'.heap[r.g]? = some (.cells (sl (keysC (sigN seed nn p.l) 67) r.rest) 23 (0, 0)) ∧ Kept [gl] w w' ∧ w'.heap[gl]? = some (.cells (lgr r.n) 32 (0, 0)) := by
  refine C_enter Tryd.func37 rfl 21 Tryd.ntmps37 (Nat.le_of_ble_eq_true rfl) (fun a F => ?_)
  have H := Hp.startX hm
  replace F : Fm 21 [] [(0, pt gl 0), (1, kyV seed), (2, nw nn), (3, .slice p.ad p.n p.c)] a := F.weak _ (subL_of kr)
  refine C_seqK (fun K1 hK1 => ?_)
  refine C_region ?_
  refine T_new F H kr (fun ad => pt ad 0) (ce (arrF .u8 32 seed) 23) (fun w => kr) ?_
  clear F H; intro aq2 a v F H
  refine T_k F H (.slice none 0 0) ?_
  clear F; intro a F
  refine wpList_nil ?_
  refine hK1 _ _ ?_
  clear hK1
  try clear K1
  refine C_seqK (fun K3 hK3 => ?_)
  refine C_region ?_
  refine T_k F H (pt gl 0) ?_
  clear F; intro a F
  refine T_k F H (pt gl 0) ?_
  clear F; intro a F
  refine T_val F H kr (kyV seed) (R_load (own := true) (g := aq2) (all := (arrF .u8 32 seed)) (t := 23) (fr := (0, 0)) 0 kr 23 (.tmp 5) rfl 0 kr (arrF .u8 32 seed) (part_all _) _ Tryd.underlying23 rfl (by rw [arrF_size]; kernel_rfl)) ?_
  clear F; intro a F
  refine T_k F H (nw nn) ?_
  clear F; intro a F
  refine T_callX (α := SlR) F H kr 65 #[pt gl 0, kyV seed, nw nn] (fun rX => kyV (sdF seed nn)) (fun rX => [bk aq2 (arrF .u8 32 seed) 23, bk gl (lgr rX.n) 32]) (fun rX => True) (fun w => kr) (fun w H => callsX_putV H (k := 1) rfl (lseed_any gl n seed hseed nn hnn _ (H.at_ (k := 1) rfl))) ?_
  clear F H; intro rq4 a v Qrq4 F H
  refine T_k F H (pt gl 0) ?_
  clear F; intro a F
  refine T_k F H (nw nn) ?_
  clear F; intro a F
  refine T_callX (α := SlR) F H kr 62 #[pt gl 0, nw nn] (fun rX => kyV (tgF nn)) (fun rX => [bk aq2 (arrF .u8 32 seed) 23, bk gl (lgr rX.n) 32]) (fun rX => True) (fun w => kr) (fun w H => callsX_putV H (k := 1) rfl (ltag_any gl rq4.n nn hnn _ (H.at_ (k := 1) rfl))) ?_
  clear F H; intro rq5 a v Qrq5 F H
  refine T_k F H (pt gl 0) ?_
  clear F; intro a F
  refine T_k F H (.slice p.ad p.n p.c) ?_
  clear F; intro a F
  refine T_callX (α := SlR) F H kr 63 #[pt gl 0, .slice p.ad p.n p.c] (fun rX => kyV (dgF p.l)) (fun rX => [bk aq2 (arrF .u8 32 seed) 23, bk gl (lgr rX.n) 32]) (fun rX => True) (fun w => kr) (fun w H => callsX_putV H (k := 1) rfl (ldig_any gl rq5.n p hbk hn h64 _ (hrd.kept H.kept) (H.at_ (k := 1) rfl))) ?_
  clear F H; intro rq6 a v Qrq6 F H
  refine T_callX (α := SlR) F H kr 26 #[pt gl 0, kyV (sdF seed nn), kyV (tgF nn), kyV (dgF p.l)] (fun rX => sc rX.g 0 67 rX.cap) (fun rX => [bk rX.g (sl (keysC (sigN seed nn p.l) 67) rX.rest) 23, bk aq2 (arrF .u8 32 seed) 23, bk gl (lgr rX.n) 32]) (fun rX => (True) ∧ (Own (keysC (sigN seed nn p.l) 67) rX.rest 67 rX.cap 32)) (fun w => kr) (fun w H => callsX_bothV H (k := 1) rfl (lsign_any gl rq6.n (sdF seed nn) (sdF_lt _ _) (tgF nn) (tgF_lt _) (dgF p.l) (dgF_lt _) _ (H.at_ (k := 1) rfl))) ?_
  clear F H; intro rq7 a v Qrq7 F H
  refine T_k F H (sc rq7.g 0 67 rq7.cap) ?_
  clear F; intro a F
  refine wpList_nil ?_
  refine hK3 _ _ ?_
  clear hK3
  try clear K3
  refine wp_ret ?_
  exact C_ret F H (rs := [.tmp 8]) rfl (vs := [sc rq7.g 0 67 rq7.cap]) (.tmp rfl .nil) (sc rq7.g 0 67 rq7.cap) rfl ⟨⟨rq7.g, rq7.cap, rq7.rest, rq7.n⟩, rfl, trivial, Qrq7.2, (H.own ⟨true, rq7.g, _⟩ (List.mem_of_getElem? (i := 0) rfl) rfl).resolve_right (fun h => H.apart (i := 0) (j := 2) rfl rfl (by decide) (List.mem_singleton.1 h)), H.at_ (k := 0) rfl, H.kept, H.at_ (k := 2) rfl⟩

set_option maxRecDepth 100000 in
set_option maxHeartbeats 4000000 in
theorem lverify_yes (gl n : Nat) (pub : Nat → Nat) (hpub : ∀ i, i < 32 → pub i < 256) (nn : Nat) (hnn : nn < 4294967296) (p : SlP) (hbk : ∀ x ∈ p.l, x < 256) (hn : p.l.length = p.n) (h64 : p.n ≤ 1000) (K : Nat → Nat → Nat) (hK : ∀ k i, i < 32 → K k i < 256) (lb off cp : Nat) (arr : Array Value) (tyl : TypeId) (fr : Nat × Nat) (harr : ∀ k, k < 67 → ∀ j v, (arrF .u8 32 (K k))[j]? = some v → arr[(off + k * 32) + j]? = some v) (hbb : ∀ i, i < 32 → vfK nn p.l K i = pub i) (w : World) (hrd : RdK [gl] w p) (hm : w.heap[gl]? = some (.cells (lgr n) 32 (0, 0))) (hl : w.heap[lb]? = some (.cells arr tyl fr)) (hne : gl ≠ lb) : Calls Tryd.prog 32 #[.pointer (some ⟨gl, 0, none⟩), .agg (arrF .u8 32 pub), .int .u32 ((nn : Nat) : Int), .slice p.ad p.n p.c, .slice (some ⟨lb, off, none⟩) 67 cp] w fun e w' => ∃ r : SlR, e = .returned (.int .i64 0) ∧ True ∧ Kept [gl] w w' ∧ w'.heap[gl]? = some (.cells (lgr r.n) 32 (0, 0)) := by
  obtain ⟨rk, hrk⟩ : ∃ rk, rk = vfK nn p.l K := ⟨_, rfl⟩
  rw [← hrk] at hbb
  refine C_enter Tryd.func32 rfl 32 Tryd.ntmps32 (Nat.le_of_ble_eq_true rfl) (fun a F => ?_)
  have H := Hp.startM hm hl hne
  replace F : Fm 32 [] [(0, pt gl 0), (1, kyV pub), (2, nw nn), (3, .slice p.ad p.n p.c), (4, sc lb off 67 cp)] a := F.weak _ (subL_of kr)
  refine C_seqK (fun K1 hK1 => ?_)
  refine C_region ?_
  refine T_new F H kr (fun ad => pt ad 0) (ce (arrF .u8 32 pub) 23) (fun w => kr) ?_
  clear F H; intro aq2 a v F H
  refine T_k F H (ni 0) ?_
  clear F; intro a F
  refine wpList_nil ?_
  refine hK1 _ _ ?_
  clear hK1
  try clear K1
  refine C_seqK (fun K3 hK3 => ?_)
  refine C_region ?_
  refine T_k F H (pt gl 0) ?_
  clear F; intro a F
  refine T_k F H (pt gl 0) ?_
  clear F; intro a F
  refine T_k F H (nw nn) ?_
  clear F; intro a F
  refine T_callX (α := SlR) F H kr 62 #[pt gl 0, nw nn] (fun rX => kyV (tgF nn)) (fun rX => [bk aq2 (arrF .u8 32 pub) 23, bk gl (lgr rX.n) 32, ⟨false, lb, .cells arr tyl fr⟩]) (fun rX => True) (fun w => kr) (fun w H => callsX_putV H (k := 1) rfl (ltag_any gl n nn hnn _ (H.at_ (k := 1) rfl))) ?_
  clear F H; intro rq4 a v Qrq4 F H
  refine T_k F H (pt gl 0) ?_
  clear F; intro a F
  refine T_k F H (.slice p.ad p.n p.c) ?_
  clear F; intro a F
  refine T_callX (α := SlR) F H kr 63 #[pt gl 0, .slice p.ad p.n p.c] (fun rX => kyV (dgF p.l)) (fun rX => [bk aq2 (arrF .u8 32 pub) 23, bk gl (lgr rX.n) 32, ⟨false, lb, .cells arr tyl fr⟩]) (fun rX => True) (fun w => kr) (fun w H => callsX_putV H (k := 1) rfl (ldig_any gl rq4.n p hbk hn h64 _ (hrd.kept H.kept) (H.at_ (k := 1) rfl))) ?_
  clear F H; intro rq5 a v Qrq5 F H
  refine T_k F H (sc lb off 67 cp) ?_
  clear F; intro a F
  refine T_callX (α := SlR) F H kr 28 #[pt gl 0, kyV (tgF nn), kyV (dgF p.l), sc lb off 67 cp] (fun rX => .tuple #[kyV rk, ni 0]) (fun rX => [bk aq2 (arrF .u8 32 pub) 23, bk gl (lgr rX.n) 32, ⟨false, lb, .cells arr tyl fr⟩]) (fun rX => True) (fun w => kr) (fun w H => callsX_putV H (k := 1) rfl ((lrecover_any gl rq5.n (tgF nn) (tgF_lt _) (dgF p.l) (dgF_lt _) K hK lb off cp arr tyl fr harr _ (H.at_ (k := 1) rfl) (H.at_ (k := 2) rfl) hne).mono (fun _ _ ⟨r, q1, q2⟩ => ⟨r, by rw [q1, hrk]; rfl, q2⟩))) ?_
  clear F H; intro rq6 a v Qrq6 F H
  refine T_k F H (.tuple #[kyV rk, ni 0]) ?_
  clear F; intro a F
  refine T_k F H (kyV rk) ?_
  clear F; intro a F
  refine T_k F H (ni 0) ?_
  clear F; intro a F
  refine T_new F H kr (fun ad => pt ad 0) (ce z8 23) (fun w => kr) ?_
  clear F H; intro aq7 a v F H
  refine T_set F H kr rfl 0 rfl (arrF .u8 32 rk) (S_row 0 rfl 23 (.tmp 11) (.tmp 23) rfl kr (arrF .u8 32 rk) kr (by rw [arrF_size]; kernel_rfl) (by rw [arrF_size]; kernel_rfl) (arrF_one _ _ _)) [bk aq7 (arrF .u8 32 rk) 23, bk aq2 (arrF .u8 32 pub) 23, bk gl (lgr rq6.n) 32, ⟨false, lb, .cells arr tyl fr⟩] rfl ?_
  clear F H; intro a v F H
  refine T_k F H (ni 0) ?_
  clear F; intro a F
  refine wpList_nil ?_
  refine hK3 _ _ ?_
  clear hK3
  try clear K3
  refine C_seqK (fun K8 hK8 => ?_)
  refine C_seqK (fun K9 hK9 => ?_)
  refine C_region ?_
  refine T_k F H (ni 0) ?_
  clear F; intro a F
  refine T_k F H (.bool false) ?_
  clear F; intro a F
  refine T_k F H (.bool false) ?_
  clear F; intro a F
  refine T_val F H kr (kyV rk) (R_load (own := true) (g := aq7) (all := (arrF .u8 32 rk)) (t := 23) (fr := (0, 0)) 0 kr 23 (.tmp 11) rfl 0 kr (arrF .u8 32 rk) (part_all _) _ Tryd.underlying23 rfl (by rw [arrF_size]; kernel_rfl)) ?_
  clear F; intro a F
  refine T_val F H kr (kyV pub) (R_load (own := true) (g := aq2) (all := (arrF .u8 32 pub)) (t := 23) (fr := (0, 0)) 1 kr 23 (.tmp 6) rfl 0 kr (arrF .u8 32 pub) (part_all _) _ Tryd.underlying23 rfl (by rw [arrF_size]; kernel_rfl)) ?_
  clear F; intro a F
  refine T_val F H kr (.bool false) (fun w _ => R_neK (x := (.tmp 28)) (y := (.tmp 29)) rfl rk pub kr kr true ⟨fun _ => hbb, fun _ => rfl⟩ w) ?_
  clear F; intro a F
  refine T_k F H (.bool false) ?_
  clear F; intro a F
  refine wpList_nil ?_
  refine hK9 _ _ ?_
  clear hK9
  try clear K9
  refine C_if F false rfl rfl ?_
  refine wp_skip ?_
  refine hK8 _ _ ?_
  clear hK8
  try clear K8
  refine C_seqK (fun K10 hK10 => ?_)
  refine C_region ?_
  refine T_k F H (ni 0) ?_
  clear F; intro a F
  refine wpList_nil ?_
  refine hK10 _ _ ?_
  clear hK10
  try clear K10
  refine wp_ret ?_
  exact C_ret F H (rs := [.tmp 10]) rfl (vs := [ni 0]) (.tmp rfl .nil) (ni 0) rfl ⟨⟨0, 0, [], rq6.n⟩, rfl, trivial, H.kept, H.at_ (k := 2) rfl⟩

set_option maxRecDepth 100000 in
set_option maxHeartbeats 4000000 in
theorem lverify_no (gl n : Nat) (pub : Nat → Nat) (hpub : ∀ i, i < 32 → pub i < 256) (nn : Nat) (hnn : nn < 4294967296) (p : SlP) (hbk : ∀ x ∈ p.l, x < 256) (hn : p.l.length = p.n) (h64 : p.n ≤ 1000) (K : Nat → Nat → Nat) (hK : ∀ k i, i < 32 → K k i < 256) (lb off cp : Nat) (arr : Array Value) (tyl : TypeId) (fr : Nat × Nat) (harr : ∀ k, k < 67 → ∀ j v, (arrF .u8 32 (K k))[j]? = some v → arr[(off + k * 32) + j]? = some v) (hbb : ¬ ∀ i, i < 32 → vfK nn p.l K i = pub i) (w : World) (hrd : RdK [gl] w p) (hm : w.heap[gl]? = some (.cells (lgr n) 32 (0, 0))) (hl : w.heap[lb]? = some (.cells arr tyl fr)) (hne : gl ≠ lb) : Calls Tryd.prog 32 #[.pointer (some ⟨gl, 0, none⟩), .agg (arrF .u8 32 pub), .int .u32 ((nn : Nat) : Int), .slice p.ad p.n p.c, .slice (some ⟨lb, off, none⟩) 67 cp] w fun e w' => ∃ r : SlR, e = .returned (.int .i64 40) ∧ True ∧ Kept [gl] w w' ∧ w'.heap[gl]? = some (.cells (lgr r.n) 32 (0, 0)) := by
  obtain ⟨rk, hrk⟩ : ∃ rk, rk = vfK nn p.l K := ⟨_, rfl⟩
  rw [← hrk] at hbb
  refine C_enter Tryd.func32 rfl 32 Tryd.ntmps32 (Nat.le_of_ble_eq_true rfl) (fun a F => ?_)
  have H := Hp.startM hm hl hne
  replace F : Fm 32 [] [(0, pt gl 0), (1, kyV pub), (2, nw nn), (3, .slice p.ad p.n p.c), (4, sc lb off 67 cp)] a := F.weak _ (subL_of kr)
  refine C_seqK (fun K1 hK1 => ?_)
  refine C_region ?_
  refine T_new F H kr (fun ad => pt ad 0) (ce (arrF .u8 32 pub) 23) (fun w => kr) ?_
  clear F H; intro aq2 a v F H
  refine T_k F H (ni 0) ?_
  clear F; intro a F
  refine wpList_nil ?_
  refine hK1 _ _ ?_
  clear hK1
  try clear K1
  refine C_seqK (fun K3 hK3 => ?_)
  refine C_region ?_
  refine T_k F H (pt gl 0) ?_
  clear F; intro a F
  refine T_k F H (pt gl 0) ?_
  clear F; intro a F
  refine T_k F H (nw nn) ?_
  clear F; intro a F
  refine T_callX (α := SlR) F H kr 62 #[pt gl 0, nw nn] (fun rX => kyV (tgF nn)) (fun rX => [bk aq2 (arrF .u8 32 pub) 23, bk gl (lgr rX.n) 32, ⟨false, lb, .cells arr tyl fr⟩]) (fun rX => True) (fun w => kr) (fun w H => callsX_putV H (k := 1) rfl (ltag_any gl n nn hnn _ (H.at_ (k := 1) rfl))) ?_
  clear F H; intro rq4 a v Qrq4 F H
  refine T_k F H (pt gl 0) ?_
  clear F; intro a F
  refine T_k F H (.slice p.ad p.n p.c) ?_
  clear F; intro a F
  refine T_callX (α := SlR) F H kr 63 #[pt gl 0, .slice p.ad p.n p.c] (fun rX => kyV (dgF p.l)) (fun rX => [bk aq2 (arrF .u8 32 pub) 23, bk gl (lgr rX.n) 32, ⟨false, lb, .cells arr tyl fr⟩]) (fun rX => True) (fun w => kr) (fun w H => callsX_putV H (k := 1) rfl (ldig_any gl rq4.n p hbk hn h64 _ (hrd.kept H.kept) (H.at_ (k := 1) rfl))) ?_
  clear F H; intro rq5 a v Qrq5 F H
  refine T_k F H (sc lb off 67 cp) ?_
  clear F; intro a F
  refine T_callX (α := SlR) F H kr 28 #[pt gl 0, kyV (tgF nn), kyV (dgF p.l), sc lb off 67 cp] (fun rX => .tuple #[kyV rk, ni 0]) (fun rX => [bk aq2 (arrF .u8 32 pub) 23, bk gl (lgr rX.n) 32, ⟨false, lb, .cells arr tyl fr⟩]) (fun rX => True) (fun w => kr) (fun w H => callsX_putV H (k := 1) rfl ((lrecover_any gl rq5.n (tgF nn) (tgF_lt _) (dgF p.l) (dgF_lt _) K hK lb off cp arr tyl fr harr _ (H.at_ (k := 1) rfl) (H.at_ (k := 2) rfl) hne).mono (fun _ _ ⟨r, q1, q2⟩ => ⟨r, by rw [q1, hrk]; rfl, q2⟩))) ?_
  clear F H; intro rq6 a v Qrq6 F H
  refine T_k F H (.tuple #[kyV rk, ni 0]) ?_
  clear F; intro a F
  refine T_k F H (kyV rk) ?_
  clear F; intro a F
  refine T_k F H (ni 0) ?_
  clear F; intro a F
  refine T_new F H kr (fun ad => pt ad 0) (ce z8 23) (fun w => kr) ?_
  clear F H; intro aq7 a v F H
  refine T_set F H kr rfl 0 rfl (arrF .u8 32 rk) (S_row 0 rfl 23 (.tmp 11) (.tmp 23) rfl kr (arrF .u8 32 rk) kr (by rw [arrF_size]; kernel_rfl) (by rw [arrF_size]; kernel_rfl) (arrF_one _ _ _)) [bk aq7 (arrF .u8 32 rk) 23, bk aq2 (arrF .u8 32 pub) 23, bk gl (lgr rq6.n) 32, ⟨false, lb, .cells arr tyl fr⟩] rfl ?_
  clear F H; intro a v F H
  refine T_k F H (ni 0) ?_
  clear F; intro a F
  refine wpList_nil ?_
  refine hK3 _ _ ?_
  clear hK3
  try clear K3
  refine C_seqK (fun K8 hK8 => ?_)
  refine C_seqK (fun K9 hK9 => ?_)
  refine C_region ?_
  refine T_k F H (ni 0) ?_
  clear F; intro a F
  refine T_k F H (.bool false) ?_
  clear F; intro a F
  refine T_k F H (.bool false) ?_
  clear F; intro a F
  refine T_val F H kr (kyV rk) (R_load (own := true) (g := aq7) (all := (arrF .u8 32 rk)) (t := 23) (fr := (0, 0)) 0 kr 23 (.tmp 11) rfl 0 kr (arrF .u8 32 rk) (part_all _) _ Tryd.underlying23 rfl (by rw [arrF_size]; kernel_rfl)) ?_
  clear F; intro a F
  refine T_val F H kr (kyV pub) (R_load (own := true) (g := aq2) (all := (arrF .u8 32 pub)) (t := 23) (fr := (0, 0)) 1 kr 23 (.tmp 6) rfl 0 kr (arrF .u8 32 pub) (part_all _) _ Tryd.underlying23 rfl (by rw [arrF_size]; kernel_rfl)) ?_
  clear F; intro a F
  refine T_val F H kr (.bool true) (fun w _ => R_neK (x := (.tmp 28)) (y := (.tmp 29)) rfl rk pub kr kr false ⟨fun h => Bool.noConfusion h, fun h => absurd h hbb⟩ w) ?_
  clear F; intro a F
  refine T_k F H (.bool true) ?_
  clear F; intro a F
  refine wpList_nil ?_
  refine hK9 _ _ ?_
  clear hK9
  try clear K9
  refine C_if F true rfl rfl ?_
  refine C_seqK (fun K10 hK10 => ?_)
  refine C_region ?_
  refine T_k F H (ni 40) ?_
  clear F; intro a F
  refine wpList_nil ?_
  refine hK10 _ _ ?_
  clear hK10
  try clear K10
  refine wp_ret ?_
  repeat (first | with_reducible refine then_ret ?_ | with_reducible refine inB_ret ?_)
  exact C_ret F H (rs := [.tmp 10]) rfl (vs := [ni 40]) (.tmp rfl .nil) (ni 40) rfl ⟨⟨0, 0, [], rq6.n⟩, rfl, trivial, H.kept, H.at_ (k := 2) rfl⟩

set_option maxRecDepth 100000 in
set_option maxHeartbeats 4000000 in
theorem lverify_short (gl n : Nat) (pub : Nat → Nat) (nn : Nat) (hnn : nn < 4294967296) (p : SlP) (hbk : ∀ x ∈ p.l, x < 256) (hn : p.l.length = p.n) (h64 : p.n ≤ 1000) (ad : Option Addr) (len cp : Nat) (hlen : len ≠ 67) (w : World) (hrd : RdK [gl] w p) (hm : w.heap[gl]? = some (.cells (lgr n) 32 (0, 0))) : Calls Tryd.prog 32 #[.pointer (some ⟨gl, 0, none⟩), .agg (arrF .u8 32 pub), .int .u32 ((nn : Nat) : Int), .slice p.ad p.n p.c, .slice ad len cp] w fun e w' => ∃ r : SlR, e = .returned (.int .i64 40) ∧ True ∧ Kept [gl] w w' ∧ w'.heap[gl]? = some (.cells (lgr r.n) 32 (0, 0)) := by
  refine C_enter Tryd.func32 rfl 32 Tryd.ntmps32 (Nat.le_of_ble_eq_true rfl) (fun a F => ?_)
  have H := Hp.startX hm
  replace F : Fm 32 [] [(0, pt gl 0), (1, kyV pub), (2, nw nn), (3, .slice p.ad p.n p.c), (4, .slice ad len cp)] a := F.weak _ (subL_of kr)
  refine C_seqK (fun K1 hK1 => ?_)
  refine C_region ?_
  refine T_new F H kr (fun ad => pt ad 0) (ce (arrF .u8 32 pub) 23) (fun w => kr) ?_
  clear F H; intro aq2 a v F H
  refine T_k F H (ni 0) ?_
  clear F; intro a F
  refine wpList_nil ?_
  refine hK1 _ _ ?_
  clear hK1
  try clear K1
  refine C_seqK (fun K3 hK3 => ?_)
  refine C_region ?_
  refine T_k F H (pt gl 0) ?_
  clear F; intro a F
  refine T_k F H (pt gl 0) ?_
  clear F; intro a F
  refine T_k F H (nw nn) ?_
  clear F; intro a F
  refine T_callX (α := SlR) F H kr 62 #[pt gl 0, nw nn] (fun rX => kyV (tgF nn)) (fun rX => [bk aq2 (arrF .u8 32 pub) 23, bk gl (lgr rX.n) 32]) (fun rX => True) (fun w => kr) (fun w H => callsX_putV H (k := 1) rfl (ltag_any gl n nn hnn _ (H.at_ (k := 1) rfl))) ?_
  clear F H; intro rq4 a v Qrq4 F H
  refine T_k F H (pt gl 0) ?_
  clear F; intro a F
  refine T_k F H (.slice p.ad p.n p.c) ?_
  clear F; intro a F
  refine T_callX (α := SlR) F H kr 63 #[pt gl 0, .slice p.ad p.n p.c] (fun rX => kyV (dgF p.l)) (fun rX => [bk aq2 (arrF .u8 32 pub) 23, bk gl (lgr rX.n) 32]) (fun rX => True) (fun w => kr) (fun w H => callsX_putV H (k := 1) rfl (ldig_any gl rq4.n p hbk hn h64 _ (hrd.kept H.kept) (H.at_ (k := 1) rfl))) ?_
  clear F H; intro rq5 a v Qrq5 F H
  refine T_k F H (.slice ad len cp) ?_
  clear F; intro a F
  refine T_call F H kr 28 #[pt gl 0, kyV (tgF nn), kyV (dgF p.l), .slice ad len cp] (.tuple #[kyV zF, ni 40]) (fun w => kr) (lrecover_no _ _ _ ad len cp hlen _) ?_
  clear F H; intro a v F H
  refine T_k F H (.tuple #[kyV zF, ni 40]) ?_
  clear F; intro a F
  refine T_k F H (kyV zF) ?_
  clear F; intro a F
  refine T_k F H (ni 40) ?_
  clear F; intro a F
  refine T_new F H kr (fun ad => pt ad 0) (ce z8 23) (fun w => kr) ?_
  clear F H; intro aq6 a v F H
  refine T_set F H kr rfl 0 rfl (arrF .u8 32 zF) (S_row 0 rfl 23 (.tmp 11) (.tmp 23) rfl kr (arrF .u8 32 zF) kr (by rw [arrF_size]; kernel_rfl) (by rw [arrF_size]; kernel_rfl) (arrF_one _ _ _)) [bk aq6 (arrF .u8 32 zF) 23, bk aq2 (arrF .u8 32 pub) 23, bk gl (lgr rq5.n) 32] rfl ?_
  clear F H; intro a v F H
  refine T_k F H (ni 40) ?_
  clear F; intro a F
  refine wpList_nil ?_
  refine hK3 _ _ ?_
  clear hK3
  try clear K3
  refine C_seqK (fun K7 hK7 => ?_)
  refine C_seqK (fun K8 hK8 => ?_)
  refine C_region ?_
  refine T_k F H (ni 40) ?_
  clear F; intro a F
  refine T_k F H (.bool true) ?_
  clear F; intro a F
  refine T_k F H (.bool true) ?_
  clear F; intro a F
  refine T_skip F kr kr ?_
  clear F; intro a F
  refine T_skip F kr kr ?_
  clear F; intro a F
  refine T_skip F kr kr ?_
  clear F; intro a F
  refine T_k F H (.bool true) ?_
  clear F; intro a F
  refine wpList_nil ?_
  refine hK8 _ _ ?_
  clear hK8
  try clear K8
  refine C_if F true rfl rfl ?_
  refine C_seqK (fun K9 hK9 => ?_)
  refine C_region ?_
  refine T_k F H (ni 40) ?_
  clear F; intro a F
  refine wpList_nil ?_
  refine hK9 _ _ ?_
  clear hK9
  try clear K9
  refine wp_ret ?_
  repeat (first | with_reducible refine then_ret ?_ | with_reducible refine inB_ret ?_)
  exact C_ret F H (rs := [.tmp 10]) rfl (vs := [ni 40]) (.tmp rfl .nil) (ni 40) rfl ⟨⟨0, 0, [], rq5.n⟩, rfl, trivial, H.kept, H.at_ (k := 2) rfl⟩
end Go.Proofs.YtdejhenkdbjakaaDoor
