/- Walks: a signature, the public key of one. -/
import Derived.Test.YtdejhenkdbjakaaDoorWA
set_option linter.unusedVariables false
set_option linter.unusedSimpArgs false
namespace Go.Proofs.YtdejhenkdbjakaaDoor
open Go Go.RowKit
theorem along_to (gm n : Nat) (tag : Nat → Nat) (ht : ∀ i, i < 32 → tag i < 256) (ch st to : Int) (hst : -4611686018427387904 ≤ st) (hto : to ≤ 4611686018427387904) (N : Nat) (hN : (to - st).toNat = N) (vv : Nat → Nat) (hv : ∀ i, i < 32 → vv i < 256) (w : World) (hW : Laid w) (hm : w.heap[gm]? = some (.cells (mtr n) 91 (0, 0))) : Calls Tryd.prog 19 #[.pointer (some ⟨gm, 0, none⟩), .agg (arrF .u8 32 tag), .int .i64 ch, .int .i64 st, .int .i64 to, .agg (arrF .u8 32 vv)] w fun e w' => ∃ r : SlR, e = .returned (.agg (arrF .u8 32 (alF tag ch st vv N))) ∧ True ∧ Kept [gm] w w' ∧ w'.heap[gm]? = some (.cells (mtr r.n) 91 (0, 0)) := by
  subst hN
  exact (along_any gm n tag ht ch st to hst hto vv hv w hW hm).mono fun _ _ ⟨r, h1, _, h3, h4⟩ => ⟨r, h1, trivial, h3, h4⟩
theorem digD_get (f : Nat → Nat) {k : Nat} (h : k < 67) : (digL f)[k]? = some ((digL f).getD k 0) := by
  rw [List.getD_eq_getElem?_getD, List.getElem?_eq_getElem (by rw [digL_len]; exact h), Option.getD_some]
theorem keysC_le {K : Nat → Nat → Nat} {rest : List Value} {cap : Nat} (h : Own (keysC K 67) rest 67 cap 32) : 67 ≤ cap := h.le

set_option maxRecDepth 100000 in
set_option maxHeartbeats 4000000 in
theorem recoverS_any (gm n : Nat) (tag : Nat → Nat) (ht : ∀ i, i < 32 → tag i < 256) (fd : Nat → Nat) (hfd : ∀ i, i < 32 → fd i < 256) (K : Nat → Nat → Nat) (hK : ∀ k i, i < 32 → K k i < 256) (lb off cp : Nat) (arr : Array Value) (tyl : TypeId) (fr : Nat × Nat) (harr : ∀ k, k < 67 → ∀ j v, (arrF .u8 32 (K k))[j]? = some v → arr[(off + k * 32) + j]? = some v) (w : World) (hW : Laid w) (hm : w.heap[gm]? = some (.cells (mtr n) 91 (0, 0))) (hl : w.heap[lb]? = some (.cells arr tyl fr)) (hne : gm ≠ lb) : Calls Tryd.prog 27 #[.pointer (some ⟨gm, 0, none⟩), .agg (arrF .u8 32 tag), .agg (arrF .u8 32 fd), .slice (some ⟨lb, off, none⟩) 67 cp] w fun e w' => ∃ r : SlR, e = .returned (.tuple #[.agg (arrF .u8 32 (shaK (endK tag (rcK tag fd K) 67))), .int .i64 0]) ∧ True ∧ Kept [gm] w w' ∧ w'.heap[gm]? = some (.cells (mtr r.n) 91 (0, 0)) := by
  obtain ⟨h00, h01⟩ := hW.apart hm
  have hrl := rcK_lt (tag := tag) (fd := fd) hK
  have hr0 : ∀ k, rcK tag fd K k = alF tag k ((digL fd).getD k 0 : Nat) (K k) (15 - (digL fd).getD k 0) := fun _ => rfl
  refine C_enter Tryd.func27 rfl 42 Tryd.ntmps27 (Nat.le_of_ble_eq_true rfl) (fun a F => ?_)
  have H := Hp.startM hm hl hne
  replace F : Fm 42 [] [(0, pt gm 0), (1, kyV tag), (2, kyV fd), (3, sc lb off 67 cp)] a := F.weak _ (subL_of kr)
  refine C_seqK (fun K1 hK1 => ?_)
  refine C_region ?_
  refine T_new F H kr (fun ad => pt ad 0) (ce (arrF .u8 32 tag) 23) (fun w => kr) ?_
  clear F H; intro aq2 a v F H
  refine T_new F H kr (fun ad => pt ad 0) (ce (arrF .u8 32 fd) 23) (fun w => kr) ?_
  clear F H; intro aq3 a v F H
  refine T_new F H kr (fun ad => pt ad 0) (ce z8 23) (fun w => kr) ?_
  clear F H; intro aq4 a v F H
  refine T_k F H (ni 0) ?_
  clear F; intro a F
  refine wpList_nil ?_
  refine hK1 _ _ ?_
  clear hK1
  try clear K1
  refine C_seqK (fun K5 hK5 => ?_)
  refine C_seqK (fun K6 hK6 => ?_)
  refine C_region ?_
  refine T_k F H (sc lb off 67 cp) ?_
  clear F; intro a F
  refine T_k F H (ni 67) ?_
  clear F; intro a F
  refine T_k F H (.bool false) ?_
  clear F; intro a F
  refine wpList_nil ?_
  refine hK6 _ _ ?_
  clear hK6
  try clear K6
  refine C_if F false rfl rfl ?_
  refine wp_skip ?_
  refine hK5 _ _ ?_
  clear hK5
  try clear K5
  refine C_seqK (fun K7 hK7 => ?_)
  refine C_region ?_
  refine T_k F H (.slice none 0 0) ?_
  clear F; intro a F
  refine wpList_nil ?_
  refine hK7 _ _ ?_
  clear hK7
  try clear K7
  refine C_seqK (fun K8 hK8 => ?_)
  refine C_seqK (fun K9 hK9 => ?_)
  refine C_region ?_
  refine T_val F H kr (kyV fd) (R_load (own := true) (g := aq3) (all := (arrF .u8 32 fd)) (t := 23) (fr := (0, 0)) 1 kr 23 (.tmp 6) rfl 0 kr (arrF .u8 32 fd) (part_all _) _ Tryd.underlying23 rfl (by rw [arrF_size]; kernel_rfl)) ?_
  clear F; intro a F
  refine T_callX (α := SlR) F H kr 16 #[kyV fd] (fun rX => sc rX.g 0 67 rX.cap) (fun rX => [bk rX.g (sl (ints .i64 (digL fd)) rX.rest) 3, bk aq4 z8 23, bk aq3 (arrF .u8 32 fd) 23, bk aq2 (arrF .u8 32 tag) 23, bk gm (mtr n) 91, ⟨false, lb, .cells arr tyl fr⟩]) (fun rX => Own (ints .i64 (digL fd)) rX.rest 67 rX.cap 1) (fun w => kr) (fun w H => callsX_newV H (digits_any fd hfd _)) ?_
  clear F H; intro rq10 a v Qrq10 F H
  refine T_k F H (ni 67) ?_
  clear F; intro a F
  refine T_k F H (ni 0) ?_
  clear F; intro a F
  refine wpList_nil ?_
  replace F : Fm 42 [] [(20, ni 0), (19, ni 67), (10, .slice none 0 0), (18, sc rq10.g 0 67 rq10.cap), (0, pt gm 0), (5, pt aq2 0), (3, sc lb off 67 cp), (8, pt aq4 0)] a := F.weak _ (subL_of kr)
  replace H : Hp [gm] w [bk gm (mtr n) 91, bk aq2 (arrF .u8 32 tag) 23, bk rq10.g (sl (ints .i64 (digL fd)) rq10.rest) 3, bk aq4 z8 23, ⟨false, lb, .cells arr tyl fr⟩] v := H.pick [4, 3, 0, 1, 5] kr _ rfl
  refine hK9 _ _ ?_
  clear hK9
  try clear K9
  refine wp_block ?_
  refine C_loop (fun m a v => (∃ c : Nat, m = 67 ∧ Fm 42 [] [(20, ni 0), (19, ni 67), (10, .slice none 0 0), (18, sc rq10.g 0 67 rq10.cap), (0, pt gm 0), (5, pt aq2 0), (3, sc lb off 67 cp), (8, pt aq4 0)] a ∧ Hp [gm] w [bk gm (mtr c) 91, bk aq2 (arrF .u8 32 tag) 23, bk rq10.g (sl (ints .i64 (digL fd)) rq10.rest) 3, bk aq4 z8 23, ⟨false, lb, .cells arr tyl fr⟩] v) ∨ (∃ (k : Nat) (r : SlR) (c : Nat), k + m = 67 ∧ 1 ≤ k ∧ Own (keysC (rcK tag fd K) k) r.rest k r.cap 32 ∧ Fm 42 [] [(20, ni k), (19, ni 67), (10, sc r.g 0 k r.cap), (18, sc rq10.g 0 67 rq10.cap), (0, pt gm 0), (5, pt aq2 0), (3, sc lb off 67 cp), (8, pt aq4 0)] a ∧ Hp [gm] w [bk r.g (sl (keysC (rcK tag fd K) k) r.rest) 23, bk gm (mtr c) 91, bk aq2 (arrF .u8 32 tag) 23, bk rq10.g (sl (ints .i64 (digL fd)) rq10.rest) 3, bk aq4 z8 23, ⟨false, lb, .cells arr tyl fr⟩] v)) (67) (.inl ⟨n, rfl, F, H⟩) ?_
  clear F H
  intro m a v hS
  rcases hS with ⟨c, hk0, F, H⟩ | ⟨k, r, c, hk, hk1, hO, F, H⟩
  · obtain ⟨m, rfl⟩ : ∃ q, m = q + 1 := ⟨m - 1, by omega⟩
    have hdd := digD_lt hfd 0
    refine C_seqK (fun K11 hK11 => ?_)
    refine C_region ?_
    refine T_val F H kr (.bool true) (fun w _ => R_bin (x := (.tmp 20)) (y := (.tmp 19)) rfl (k := .i64) (a := ((0 : Nat) : Int)) (b := ((67 : Nat) : Int)) kr kr (i_lt (by omega)) w) ?_
    clear F; intro a F
    refine wpList_nil ?_
    refine hK11 _ _ ?_
    clear hK11
    try clear K11
    refine C_seqK (fun K12 hK12 => ?_)
    refine C_if F true rfl rfl ?_
    refine wp_skip ?_
    refine hK12 _ _ ?_
    clear hK12
    try clear K12
    refine C_seqK (fun K13 hK13 => ?_)
    refine wp_block ?_
    refine C_seqK (fun K14 hK14 => ?_)
    refine C_region ?_
    refine T_k F H (ni 0) ?_
    clear F; intro a F
    refine T_val F H kr (pt rq10.g (0 + (0) * 1)) (fun w _ => R_indexS (k := .i64) (g := rq10.g) (off := 0) (len := 67) (cap := rq10.cap) (x := (.tmp 18)) (y := (.tmp 20)) rfl Tryd.underlying25 kr (0) kr (by omega) (sz := 1) kr w) ?_
    clear F; intro a F
    refine T_val F H kr (ni ((digL fd).getD 0 0)) (R_cell (own := true) (g := rq10.g) (all := (sl (ints .i64 (digL fd)) rq10.rest)) (t := 3) (fr := (0, 0)) 2 kr 3 (.tmp 23) rfl (0 + (0) * 1) kr (ni ((digL fd).getD 0 0)) ((congrArg (fun q => ((sl (ints .i64 (digL fd)) rq10.rest))[q]?) (show (0 + (0) * 1) = 0 by omega)).trans (sl_get (ints_get (digD_get fd (by omega))))) _ Tryd.underlying3 rfl) ?_
    clear F; intro a F
    refine T_k F H (ni 0) ?_
    clear F; intro a F
    refine T_k F H (ni ((digL fd).getD 0 0)) ?_
    clear F; intro a F
    refine wpList_nil ?_
    refine hK14 _ _ ?_
    clear hK14
    try clear K14
    refine E_region F H (fun β => [(25, .slice none 0 0), (26, pt gm 0), (27, kyV tag), (28, ni 0), (29, ni ((digL fd).getD 0 0)), (30, sc lb off 67 cp), (31, ni 0), (32, pt lb (off + (0) * 32)), (33, kyV (K 0)), (34, kyV (rcK tag fd K 0)), (35, sc ((β 10).g) 0 1 1), (36, sc ((β 11).g) 0 1 (β 11).cap), (10, sc ((β 11).g) 0 1 (β 11).cap)]) [25, 26, 27, 28, 29, 30, 31, 32, 33, 34, 35, 36, 10] [⟨some 10, none, 0, [], fun q_ => ce (sl (keyC (rcK tag fd K 0)) []) 23, gT, []⟩,
      ⟨some 11, none, 0, [11], fun q_ => ce (sl (keyC (rcK tag fd K 0)) (gh q_ 0).rest) 23, fun q_ => Own (keyC (rcK tag fd K 0)) (gh q_ 0).rest (1) (gh q_ 0).cap 32, []⟩,
      ⟨none, none, gm, [], fun q_ => ce (mtr c) 91, gT, [⟨9, [9], fun q_ => ce (mtr (gh q_ 0).n) 91, gT⟩]⟩] [bk aq2 (arrF .u8 32 tag) 23, bk rq10.g (sl (ints .i64 (digL fd)) rq10.rest) 3, bk aq4 z8 23, ⟨false, lb, .cells arr tyl fr⟩] [0, 1, 2, 3, 4] 2 [(0, [10])] kr kr kr (fun β => rfl) ⟨fun h _ => Bool.noConfusion h, ⟨fun h _ => Bool.noConfusion h, ⟨fun _ _ => trivial, trivial⟩⟩⟩ ⟨?_, ?_, ?_, ?_, ?_, ?_, ?_, ?_, ?_, ?_, ?_, ?_, ?_, trivial⟩ ?_
    · exact E_k 42 (fun β => .slice none 0 0) 25 2
    · exact E_k 42 (fun β => pt gm 0) 26 2
    · exact E_v 42 (fun β => kyV tag) 27 2 [] (fun β w hk hl hq => R_loadH hl (own := true) (g := aq2) (all := (arrF .u8 32 tag)) (t := 23) (fr := (0, 0)) 0 kr 23 (.tmp 5) rfl 0 kr (arrF .u8 32 tag) (part_all _) _ Tryd.underlying23 rfl (by rw [arrF_size]; kernel_rfl))
    · exact E_k 42 (fun β => ni 0) 28 2
    · exact E_k 42 (fun β => ni ((digL fd).getD 0 0)) 29 2
    · exact E_k 42 (fun β => sc lb off 67 cp) 30 2
    · exact E_k 42 (fun β => ni 0) 31 2
    · exact E_v 42 (fun β => pt lb (off + (0) * 32)) 32 2 [] (fun β w hk hl hq => R_indexS (k := .i64) (g := lb) (off := off) (len := 67) (cap := cp) (x := (.tmp 30)) (y := (.tmp 31)) rfl Tryd.underlying39 kr (0) kr (by omega) (sz := 32) kr w)
    · exact E_v 42 (fun β => kyV (K 0)) 33 2 [] (fun β w hk hl hq => R_loadH hl (own := false) (g := lb) (all := arr) (t := tyl) (fr := fr) 3 kr 23 (.tmp 32) rfl (off + (0) * 32) kr (arrF .u8 32 (K 0)) (harr (0) (by omega)) _ Tryd.underlying23 rfl (by rw [arrF_size]; kernel_rfl))
    · exact E_callP 42 kq (fun β => kyV (rcK tag fd K 0)) 34 rfl kq 2 (fun β r => offAt2_of kr kr) 19 (fun β => #[pt gm 0, kyV tag, ni 0, ni ((digL fd).getD 0 0), ni 15, kyV (K 0)]) (fun β w => kr) 2 [] 2 0 _ _ rfl rfl kr kr rfl (fun β w hk hl hq hm => along_to gm c tag ht (((0 : Nat) : Int)) ((((digL fd).getD 0 0 : Nat) : Int)) (((15 : Nat) : Int)) (by omega) (by omega) (15 - (digL fd).getD 0 0) (by omega) (K 0) (hK _) _ (hW.kept hk h00 h01) hm)
    · exact E_new 42 kq (fun β => sc ((β 10).g) 0 1 1) 35 rfl kq 2 (fun β r => offAt2_of kr kr) 2 [] 0 _ rfl kr kr rfl (fun β w hk hl hq => ⟨⟨w.heap.size, 0, [], 0⟩, _, (R_buildS (len := 1) rfl Tryd.underlying39 ((sl (keyC (rcK tag fd K 0)) [])) kr w), trivial, Nat.le_refl _, heap_alloc_new _ _, Kept.alloc _ _⟩)
    · exact E_new 42 kq (fun β => sc ((β 11).g) 0 1 (β 11).cap) 36 rfl kq 2 (fun β r => offAt2_of kr kr) 2 [(0, 0)] 1 _ rfl kr kr rfl (fun β w hk hl hq => let ⟨r, w', h1, h2, h3, h4, h5⟩ := run_appN (size := 32) (bytes := 32) (t := 39) (e := 23) kr kr (x := sc ((β 10).g) 0 1 1) (m := 1) (news := keyC (rcK tag fd K 0)) (RdS.all (hl.at_ (k := 0) rfl) (Nat.le_refl _)) (by rw [keyC_len]) (by decide) (by simp only [maxLen]; decide) (by decide); ⟨r, w', exec_append (s := (.tmp 25)) (x := (.tmp 35)) rfl kr rfl h1, h2, h4, h3, h5⟩)
    · exact E_k 42 (fun β => sc ((β 11).g) 0 1 (β 11).cap) 10 2
    clear F H; intro β a v Q F H
    replace H : Hp [gm] w [bk ((β 10).g) (sl (keyC (rcK tag fd K 0)) []) 23, bk ((β 11).g) (sl (keyC (rcK tag fd K 0)) (β 11).rest) 23, bk gm (mtr (β 9).n) 91, bk aq2 (arrF .u8 32 tag) 23, bk rq10.g (sl (ints .i64 (digL fd)) rq10.rest) 3, bk aq4 z8 23, ⟨false, lb, .cells arr tyl fr⟩] v := H
    replace F : Fm 42 [] [(10, sc ((β 11).g) 0 1 (β 11).cap), (36, sc ((β 11).g) 0 1 (β 11).cap), (35, sc ((β 10).g) 0 1 1), (34, kyV (rcK tag fd K 0)), (33, kyV (K 0)), (32, pt lb (off + (0) * 32)), (31, ni 0), (30, sc lb off 67 cp), (29, ni ((digL fd).getD 0 0)), (28, ni 0), (27, kyV tag), (26, pt gm 0), (25, .slice none 0 0), (12, ni ((digL fd).getD 0 0)), (11, ni 0), (24, ni ((digL fd).getD 0 0)), (23, pt rq10.g (0 + (0) * 1)), (22, ni 0), (21, .bool true), (20, ni 0), (19, ni 67), (18, sc rq10.g 0 67 rq10.cap), (0, pt gm 0), (5, pt aq2 0), (3, sc lb off 67 cp), (8, pt aq4 0)] a := F.weak _ (subL_of kr)
    have Qh17_1 : Own (keyC (rcK tag fd K 0)) (β 11).rest (1) (β 11).cap 32 := Q.2.2.1
    clear Q
    generalize β 10 = rq15 at F H Qh17_1
    generalize β 11 = rq16 at F H Qh17_1
    generalize β 9 = rq17 at F H Qh17_1
    skip
    refine ?_
    have Qrq16 : Own (keysC (rcK tag fd K) 1) rq16.rest 1 rq16.cap 32 := Qh17_1
    replace H : Hp [gm] w [bk rq16.g (sl (keyC (rcK tag fd K 0)) rq16.rest) 23, bk gm (mtr rq17.n) 91, bk aq2 (arrF .u8 32 tag) 23, bk rq10.g (sl (ints .i64 (digL fd)) rq10.rest) 3, bk aq4 z8 23, ⟨false, lb, .cells arr tyl fr⟩] v := H.pick [1, 2, 3, 4, 5, 6] kr _ rfl
    replace H : Hp [gm] w [bk rq16.g (sl (keysC (rcK tag fd K) 1) rq16.rest) 23, bk gm (mtr rq17.n) 91, bk aq2 (arrF .u8 32 tag) 23, bk rq10.g (sl (ints .i64 (digL fd)) rq10.rest) 3, bk aq4 z8 23, ⟨false, lb, .cells arr tyl fr⟩] v := H
    replace F : Fm 42 [] [(10, sc rq16.g 0 1 rq16.cap), (36, sc rq16.g 0 1 rq16.cap), (35, sc rq15.g 0 1 1), (34, kyV (rcK tag fd K 0)), (33, kyV (K 0)), (32, pt lb (off + (0) * 32)), (31, ni 0), (30, sc lb off 67 cp), (29, ni ((digL fd).getD 0 0)), (28, ni 0), (27, kyV tag), (26, pt gm 0), (25, .slice none 0 0), (12, ni ((digL fd).getD 0 0)), (11, ni 0), (24, ni ((digL fd).getD 0 0)), (23, pt rq10.g (0 + (0) * 1)), (22, ni 0), (21, .bool true), (20, ni 0), (19, ni 67), (18, sc rq10.g 0 67 rq10.cap), (0, pt gm 0), (5, pt aq2 0), (3, sc lb off 67 cp), (8, pt aq4 0)] a := F
    refine hK13 _ _ ?_
    clear hK13
    try clear K13
    refine C_region ?_
    refine T_k F H (ni 1) ?_
    clear F; intro a F
    refine T_k F H (ni 1) ?_
    clear F; intro a F
    refine wpList_nil ?_
    replace F : Fm 42 [] [(20, ni 1), (19, ni 67), (10, sc rq16.g 0 1 rq16.cap), (18, sc rq10.g 0 67 rq10.cap), (0, pt gm 0), (5, pt aq2 0), (3, sc lb off 67 cp), (8, pt aq4 0)] a := F.weak _ (subL_of kr)
    replace H : Hp [gm] w [bk rq16.g (sl (keysC (rcK tag fd K) 1) rq16.rest) 23, bk gm (mtr rq17.n) 91, bk aq2 (arrF .u8 32 tag) 23, bk rq10.g (sl (ints .i64 (digL fd)) rq10.rest) 3, bk aq4 z8 23, ⟨false, lb, .cells arr tyl fr⟩] v := H
    exact ⟨m, Nat.lt_succ_self m, .inr ⟨1, rq16, rq17.n, by omega, by omega, Qrq16, F, H⟩⟩
  rcases m with _ | m
  rotate_left
  · skip
    have hdd := digD_lt hfd k
    refine C_seqK (fun K18 hK18 => ?_)
    refine C_region ?_
    refine T_val F H kr (.bool true) (fun w _ => R_bin (x := (.tmp 20)) (y := (.tmp 19)) rfl (k := .i64) (a := ((k : Nat) : Int)) (b := ((67 : Nat) : Int)) kr kr (i_lt (by omega)) w) ?_
    clear F; intro a F
    refine wpList_nil ?_
    refine hK18 _ _ ?_
    clear hK18
    try clear K18
    refine C_seqK (fun K19 hK19 => ?_)
    refine C_if F true rfl rfl ?_
    refine wp_skip ?_
    refine hK19 _ _ ?_
    clear hK19
    try clear K19
    refine C_seqK (fun K20 hK20 => ?_)
    refine wp_block ?_
    refine C_seqK (fun K21 hK21 => ?_)
    refine C_region ?_
    refine T_k F H (ni k) ?_
    clear F; intro a F
    refine T_val F H kr (pt rq10.g (0 + (k) * 1)) (fun w _ => R_indexS (k := .i64) (g := rq10.g) (off := 0) (len := 67) (cap := rq10.cap) (x := (.tmp 18)) (y := (.tmp 20)) rfl Tryd.underlying25 kr (k) kr (by omega) (sz := 1) kr w) ?_
    clear F; intro a F
    refine T_val F H kr (ni ((digL fd).getD k 0)) (R_cell (own := true) (g := rq10.g) (all := (sl (ints .i64 (digL fd)) rq10.rest)) (t := 3) (fr := (0, 0)) 3 kr 3 (.tmp 23) rfl (0 + (k) * 1) kr (ni ((digL fd).getD k 0)) ((congrArg (fun q => ((sl (ints .i64 (digL fd)) rq10.rest))[q]?) (show (0 + (k) * 1) = k by omega)).trans (sl_get (ints_get (digD_get fd (by omega))))) _ Tryd.underlying3 rfl) ?_
    clear F; intro a F
    refine T_k F H (ni k) ?_
    clear F; intro a F
    refine T_k F H (ni ((digL fd).getD k 0)) ?_
    clear F; intro a F
    refine wpList_nil ?_
    refine hK21 _ _ ?_
    clear hK21
    try clear K21
    refine E_region F H (fun β => [(25, sc r.g 0 k r.cap), (26, pt gm 0), (27, kyV tag), (28, ni k), (29, ni ((digL fd).getD k 0)), (30, sc lb off 67 cp), (31, ni k), (32, pt lb (off + (k) * 32)), (33, kyV (K k)), (34, kyV (rcK tag fd K k)), (35, sc ((β 10).g) 0 1 1), (36, sc ((β 11).g) 0 (k + 1) (β 11).cap), (10, sc ((β 11).g) 0 (k + 1) (β 11).cap)]) [25, 26, 27, 28, 29, 30, 31, 32, 33, 34, 35, 36, 10] [⟨some 10, none, 0, [], fun q_ => ce (sl (keyC (rcK tag fd K k)) []) 23, gT, []⟩,
      ⟨some 11, none, 0, [11], fun q_ => ce (sl ((keysC (rcK tag fd K) k) ++ (keyC (rcK tag fd K k))) (gh q_ 0).rest) 23, fun q_ => Own ((keysC (rcK tag fd K) k) ++ (keyC (rcK tag fd K k))) (gh q_ 0).rest ((k + 1)) (gh q_ 0).cap 32, []⟩,
      ⟨none, none, gm, [], fun q_ => ce (mtr c) 91, gT, [⟨9, [9], fun q_ => ce (mtr (gh q_ 0).n) 91, gT⟩]⟩,
      ⟨none, some 11, r.g, [], fun q_ => ce (sl (keysC (rcK tag fd K) k) r.rest) 23, gT, []⟩] [bk aq2 (arrF .u8 32 tag) 23, bk rq10.g (sl (ints .i64 (digL fd)) rq10.rest) 3, bk aq4 z8 23, ⟨false, lb, .cells arr tyl fr⟩] [1, 0, 2, 3, 4, 5] 2 [(0, [10])] kr kr kr (fun β => rfl) ⟨fun h _ => Bool.noConfusion h, ⟨fun h _ => Bool.noConfusion h, ⟨fun _ _ => trivial, ⟨fun _ _ => trivial, trivial⟩⟩⟩⟩ ⟨?_, ?_, ?_, ?_, ?_, ?_, ?_, ?_, ?_, ?_, ?_, ?_, ?_, trivial⟩ ?_
    · exact E_k 42 (fun β => sc r.g 0 k r.cap) 25 2
    · exact E_k 42 (fun β => pt gm 0) 26 2
    · exact E_v 42 (fun β => kyV tag) 27 2 [] (fun β w hk hl hq => R_loadH hl (own := true) (g := aq2) (all := (arrF .u8 32 tag)) (t := 23) (fr := (0, 0)) 0 kr 23 (.tmp 5) rfl 0 kr (arrF .u8 32 tag) (part_all _) _ Tryd.underlying23 rfl (by rw [arrF_size]; kernel_rfl))
    · exact E_k 42 (fun β => ni k) 28 2
    · exact E_k 42 (fun β => ni ((digL fd).getD k 0)) 29 2
    · exact E_k 42 (fun β => sc lb off 67 cp) 30 2
    · exact E_k 42 (fun β => ni k) 31 2
    · exact E_v 42 (fun β => pt lb (off + (k) * 32)) 32 2 [] (fun β w hk hl hq => R_indexS (k := .i64) (g := lb) (off := off) (len := 67) (cap := cp) (x := (.tmp 30)) (y := (.tmp 31)) rfl Tryd.underlying39 kr (k) kr (by omega) (sz := 32) kr w)
    · exact E_v 42 (fun β => kyV (K k)) 33 2 [] (fun β w hk hl hq => R_loadH hl (own := false) (g := lb) (all := arr) (t := tyl) (fr := fr) 3 kr 23 (.tmp 32) rfl (off + (k) * 32) kr (arrF .u8 32 (K k)) (harr (k) (by omega)) _ Tryd.underlying23 rfl (by rw [arrF_size]; kernel_rfl))
    · exact E_callP 42 kq (fun β => kyV (rcK tag fd K k)) 34 rfl kq 2 (fun β r => offAt2_of kr kr) 19 (fun β => #[pt gm 0, kyV tag, ni k, ni ((digL fd).getD k 0), ni 15, kyV (K k)]) (fun β w => kr) 2 [] 2 0 _ _ rfl rfl kr kr rfl (fun β w hk hl hq hm => along_to gm c tag ht (((k : Nat) : Int)) ((((digL fd).getD k 0 : Nat) : Int)) (((15 : Nat) : Int)) (by omega) (by omega) (15 - (digL fd).getD k 0) (by omega) (K k) (hK _) _ (hW.kept hk h00 h01) hm)
    · exact E_new 42 kq (fun β => sc ((β 10).g) 0 1 1) 35 rfl kq 2 (fun β r => offAt2_of kr kr) 2 [] 0 _ rfl kr kr rfl (fun β w hk hl hq => ⟨⟨w.heap.size, 0, [], 0⟩, _, (R_buildS (len := 1) rfl Tryd.underlying39 ((sl (keyC (rcK tag fd K k)) [])) kr w), trivial, Nat.le_refl _, heap_alloc_new _ _, Kept.alloc _ _⟩)
    · exact E_app 42 kq (fun β => sc ((β 11).g) 0 (k + 1) (β 11).cap) 36 rfl kq 2 (fun β r => offAt2_of kr kr) 2 [(0, 0)] 1 2 _ _ rfl rfl kr kr rfl rfl (fun β w hk hl hq hm => let ⟨r, w', h1, h2, h3, h4⟩ := run_app (size := 32) (bytes := 32) (t := 39) (e := 23) kr kr hO hm (x := sc ((β 10).g) 0 1 1) (m := 1) (news := keyC (rcK tag fd K k)) (RdS.all (hl.at_ (k := 0) rfl) (Nat.le_refl _)) (by rw [keyC_len]) (keyC_one _) (by simp only [maxLen]; omega) (by omega); ⟨r, w', exec_append (s := (.tmp 25)) (x := (.tmp 35)) rfl kr rfl h1, h2, h3, h4⟩)
    · exact E_k 42 (fun β => sc ((β 11).g) 0 (k + 1) (β 11).cap) 10 2
    clear F H; intro β a v Q F H
    replace H : Hp [gm] w [bk ((β 10).g) (sl (keyC (rcK tag fd K k)) []) 23, bk ((β 11).g) (sl ((keysC (rcK tag fd K) k) ++ (keyC (rcK tag fd K k))) (β 11).rest) 23, bk gm (mtr (β 9).n) 91, bk aq2 (arrF .u8 32 tag) 23, bk rq10.g (sl (ints .i64 (digL fd)) rq10.rest) 3, bk aq4 z8 23, ⟨false, lb, .cells arr tyl fr⟩] v := H
    replace F : Fm 42 [] [(10, sc ((β 11).g) 0 (k + 1) (β 11).cap), (36, sc ((β 11).g) 0 (k + 1) (β 11).cap), (35, sc ((β 10).g) 0 1 1), (34, kyV (rcK tag fd K k)), (33, kyV (K k)), (32, pt lb (off + (k) * 32)), (31, ni k), (30, sc lb off 67 cp), (29, ni ((digL fd).getD k 0)), (28, ni k), (27, kyV tag), (26, pt gm 0), (25, sc r.g 0 k r.cap), (12, ni ((digL fd).getD k 0)), (11, ni k), (24, ni ((digL fd).getD k 0)), (23, pt rq10.g (0 + (k) * 1)), (22, ni k), (21, .bool true), (20, ni k), (19, ni 67), (18, sc rq10.g 0 67 rq10.cap), (0, pt gm 0), (5, pt aq2 0), (3, sc lb off 67 cp), (8, pt aq4 0)] a := F.weak _ (subL_of kr)
    have Qh24_1 : Own ((keysC (rcK tag fd K) k) ++ (keyC (rcK tag fd K k))) (β 11).rest ((k + 1)) (β 11).cap 32 := Q.2.2.1
    clear Q
    generalize β 10 = rq22 at F H Qh24_1
    generalize β 11 = rq23 at F H Qh24_1
    generalize β 9 = rq24 at F H Qh24_1
    skip
    refine ?_
    have Qrq23 : Own (keysC (rcK tag fd K) (k + 1)) rq23.rest (k + 1) rq23.cap 32 := Qh24_1
    replace H : Hp [gm] w [bk rq23.g (sl ((keysC (rcK tag fd K) k) ++ (keyC (rcK tag fd K k))) rq23.rest) 23, bk gm (mtr rq24.n) 91, bk aq2 (arrF .u8 32 tag) 23, bk rq10.g (sl (ints .i64 (digL fd)) rq10.rest) 3, bk aq4 z8 23, ⟨false, lb, .cells arr tyl fr⟩] v := H.pick [1, 2, 3, 4, 5, 6] kr _ rfl
    replace H : Hp [gm] w [bk rq23.g (sl (keysC (rcK tag fd K) (k + 1)) rq23.rest) 23, bk gm (mtr rq24.n) 91, bk aq2 (arrF .u8 32 tag) 23, bk rq10.g (sl (ints .i64 (digL fd)) rq10.rest) 3, bk aq4 z8 23, ⟨false, lb, .cells arr tyl fr⟩] v := H
    replace F : Fm 42 [] [(10, sc rq23.g 0 (k + 1) rq23.cap), (36, sc rq23.g 0 (k + 1) rq23.cap), (35, sc rq22.g 0 1 1), (34, kyV (rcK tag fd K k)), (33, kyV (K k)), (32, pt lb (off + (k) * 32)), (31, ni k), (30, sc lb off 67 cp), (29, ni ((digL fd).getD k 0)), (28, ni k), (27, kyV tag), (26, pt gm 0), (25, sc r.g 0 k r.cap), (12, ni ((digL fd).getD k 0)), (11, ni k), (24, ni ((digL fd).getD k 0)), (23, pt rq10.g (0 + (k) * 1)), (22, ni k), (21, .bool true), (20, ni k), (19, ni 67), (18, sc rq10.g 0 67 rq10.cap), (0, pt gm 0), (5, pt aq2 0), (3, sc lb off 67 cp), (8, pt aq4 0)] a := F
    refine hK20 _ _ ?_
    clear hK20
    try clear K20
    refine C_region ?_
    refine T_val F H kr (ni (k + 1)) (fun w _ => R_bin (x := (.tmp 20)) (y := (.const (.int .i64 1))) rfl (k := .i64) (a := ((k : Nat) : Int)) (b := ((1 : Nat) : Int)) kr kr (i_addn64 (a := k) (b := 1) (by omega)) w) ?_
    clear F; intro a F
    refine T_k F H (ni (k + 1)) ?_
    clear F; intro a F
    refine wpList_nil ?_
    replace F : Fm 42 [] [(20, ni (k + 1)), (19, ni 67), (10, sc rq23.g 0 (k + 1) rq23.cap), (18, sc rq10.g 0 67 rq10.cap), (0, pt gm 0), (5, pt aq2 0), (3, sc lb off 67 cp), (8, pt aq4 0)] a := F.weak _ (subL_of kr)
    replace H : Hp [gm] w [bk rq23.g (sl (keysC (rcK tag fd K) (k + 1)) rq23.rest) 23, bk gm (mtr rq24.n) 91, bk aq2 (arrF .u8 32 tag) 23, bk rq10.g (sl (ints .i64 (digL fd)) rq10.rest) 3, bk aq4 z8 23, ⟨false, lb, .cells arr tyl fr⟩] v := H
    exact ⟨m, Nat.lt_succ_self m, .inr ⟨k + 1, rq23, rq24.n, by omega, by omega, Qrq23, F, H⟩⟩
  have hkt : k = 67 := by omega
  rw [hkt] at F H hO
  clear hk hk1
  refine C_seqK (fun K25 hK25 => ?_)
  refine C_region ?_
  refine T_val F H kr (.bool false) (fun w _ => R_bin (x := (.tmp 20)) (y := (.tmp 19)) rfl (k := .i64) (a := ((67 : Nat) : Int)) (b := ((67 : Nat) : Int)) kr kr (i_nlt (by omega)) w) ?_
  clear F; intro a F
  refine wpList_nil ?_
  refine hK25 _ _ ?_
  clear hK25
  try clear K25
  refine C_seqK (fun K26 hK26 => ?_)
  refine C_if F false rfl rfl ?_
  refine wp_exit ?_
  refine hK8 _ _ ?_
  clear hK8
  try clear K8
  refine C_seqK (fun K27 hK27 => ?_)
  refine C_region ?_
  refine T_k F H (pt gm 0) ?_
  clear F; intro a F
  refine T_val F H kr (kyV tag) (R_load (own := true) (g := aq2) (all := (arrF .u8 32 tag)) (t := 23) (fr := (0, 0)) 2 kr 23 (.tmp 5) rfl 0 kr (arrF .u8 32 tag) (part_all _) _ Tryd.underlying23 rfl (by rw [arrF_size]; kernel_rfl)) ?_
  clear F; intro a F
  refine T_k F H (sc r.g 0 67 r.cap) ?_
  clear F; intro a F
  refine T_callX (α := SlR) F H kr 55 #[pt gm 0, kyV tag, sc r.g 0 67 r.cap] (fun rX => kyV (shaK (endK tag (rcK tag fd K) 67))) (fun rX => [bk r.g (sl (keysC (rcK tag fd K) 67) r.rest) 23, bk gm (mtr rX.n) 91, bk aq2 (arrF .u8 32 tag) 23, bk rq10.g (sl (ints .i64 (digL fd)) rq10.rest) 3, bk aq4 z8 23, ⟨false, lb, .cells arr tyl fr⟩]) (fun rX => True) (fun w => kr) (fun w H => callsX_putV H (k := 1) rfl (ends_any gm c tag ht (rcK tag fd K) hrl r.g r.cap hO.le _ _ (hW.kept H.kept h00 h01) (H.at_ (k := 1) rfl) (H.at_ (k := 0) rfl))) ?_
  clear F H; intro rq28 a v Qrq28 F H
  refine T_set F H kr rfl 4 rfl (arrF .u8 32 (shaK (endK tag (rcK tag fd K) 67))) (S_row 4 rfl 23 (.tmp 8) (.tmp 41) rfl kr (arrF .u8 32 (shaK (endK tag (rcK tag fd K) 67))) kr (by rw [arrF_size]; kernel_rfl) (by rw [arrF_size]; kernel_rfl) (arrF_one _ _ _)) [bk r.g (sl (keysC (rcK tag fd K) 67) r.rest) 23, bk gm (mtr rq28.n) 91, bk aq2 (arrF .u8 32 tag) 23, bk rq10.g (sl (ints .i64 (digL fd)) rq10.rest) 3, bk aq4 (arrF .u8 32 (shaK (endK tag (rcK tag fd K) 67))) 23, ⟨false, lb, .cells arr tyl fr⟩] rfl ?_
  clear F H; intro a v F H
  refine T_k F H (ni 0) ?_
  clear F; intro a F
  refine wpList_nil ?_
  refine hK27 _ _ ?_
  clear hK27
  try clear K27
  refine wp_ret ?_
  exact C_ret F H (rs := [.cell 8 23, .tmp 9]) rfl (vs := [kyV (shaK (endK tag (rcK tag fd K) 67)), ni 0]) (.row 4 rfl rfl _ Tryd.underlying23 rfl kr (.tmp rfl .nil)) (.tuple #[kyV (shaK (endK tag (rcK tag fd K) 67)), ni 0]) rfl ⟨⟨0, 0, [], rq28.n⟩, rfl, trivial, H.kept, H.at_ (k := 1) rfl⟩

theorem recover_any (gm n : Nat) (tag : Nat → Nat) (ht : ∀ i, i < 32 → tag i < 256) (fd : Nat → Nat) (hfd : ∀ i, i < 32 → fd i < 256) (K : Nat → Nat → Nat) (hK : ∀ k i, i < 32 → K k i < 256) (lb cp : Nat) (rest : List Value) (w : World) (hW : Laid w) (hm : w.heap[gm]? = some (.cells (mtr n) 91 (0, 0))) (hl : w.heap[lb]? = some (.cells (sl (keysC K 67) rest) 23 (0, 0))) : Calls Tryd.prog 27 #[.pointer (some ⟨gm, 0, none⟩), .agg (arrF .u8 32 tag), .agg (arrF .u8 32 fd), .slice (some ⟨lb, 0, none⟩) 67 cp] w fun e w' => ∃ r : SlR, e = .returned (.tuple #[.agg (arrF .u8 32 (shaK (endK tag (rcK tag fd K) 67))), .int .i64 0]) ∧ True ∧ Kept [gm] w w' ∧ w'.heap[gm]? = some (.cells (mtr r.n) 91 (0, 0)) :=
  recoverS_any gm n tag ht fd hfd K hK lb 0 cp _ 23 (0, 0) (fun k hk => keys_part K rest hk) w hW hm hl (ne_of_ty hm hl rfl)

theorem Hp.apart {X : List Nat} {w0 : World} {L : List Blk} {w : World} (H : Hp X w0 L w) {i j : Nat} {p q : Blk} (hi : L[i]? = some p) (hj : L[j]? = some q) (hne : i ≠ j) : p.ad ≠ q.ad := by
  obtain ⟨hi1, hi2⟩ := List.getElem?_eq_some_iff.1 hi
  obtain ⟨hj1, hj2⟩ := List.getElem?_eq_some_iff.1 hj
  have hp := List.pairwise_iff_getElem.1 H.far
  rcases Nat.lt_or_gt_of_ne hne with h | h
  · have := hp i j hi1 hj1 h; rw [hi2, hj2] at this; exact this
  · have := hp j i hj1 hi1 h; rw [hi2, hj2] at this; exact fun e => this e.symm

set_option maxRecDepth 100000 in
set_option maxHeartbeats 4000000 in
theorem sign_any (gm n sg : Nat) (seed : Nat → Nat) (hseed : ∀ i, i < 32 → seed i < 256) (tag : Nat → Nat) (ht : ∀ i, i < 32 → tag i < 256) (pub : Nat → Nat) (d l : Int) (fd : Nat → Nat) (hfd : ∀ i, i < 32 → fd i < 256) (w : World) (hW : Laid w) (hm : w.heap[gm]? = some (.cells (mtr n) 91 (0, 0))) (hs : w.heap[sg]? = some (.cells (sgA gm seed tag pub d l) 101 (0, 0))) : Calls Tryd.prog 23 #[.pointer (some ⟨sg, 0, none⟩), .agg (arrF .u8 32 fd)] w fun e w' => ∃ r : SlR, e = .returned (.slice (some ⟨r.g, 0, none⟩) 67 r.cap) ∧ True ∧ Own (keysC (sgK seed tag fd) 67) r.rest 67 r.cap 32 ∧ w.heap.size ≤ r.g ∧ w'.heap[r.g]? = some (.cells (sl (keysC (sgK seed tag fd) 67) r.rest) 23 (0, 0)) ∧ Kept [gm] w w' ∧ w'.heap[gm]? = some (.cells (mtr r.n) 91 (0, 0)) := by
  obtain ⟨h00, h01⟩ := hW.apart hm
  have hne : gm ≠ sg := ne_of_ty hm hs rfl
  refine C_enter Tryd.func23 rfl 35 Tryd.ntmps23 (Nat.le_of_ble_eq_true rfl) (fun a F => ?_)
  have H := Hp.startM hm hs hne
  replace F : Fm 35 [] [(0, pt sg 0), (1, kyV fd)] a := F.weak _ (subL_of kr)
  refine C_seqK (fun K1 hK1 => ?_)
  refine C_region ?_
  refine T_new F H kr (fun ad => pt ad 0) (ce (arrF .u8 32 fd) 23) (fun w => kr) ?_
  clear F H; intro aq2 a v F H
  refine T_k F H (.slice none 0 0) ?_
  clear F; intro a F
  refine wpList_nil ?_
  refine hK1 _ _ ?_
  clear hK1
  try clear K1
  refine C_seqK (fun K3 hK3 => ?_)
  refine C_region ?_
  refine T_k F H (.slice none 0 0) ?_
  clear F; intro a F
  refine wpList_nil ?_
  refine hK3 _ _ ?_
  clear hK3
  try clear K3
  refine C_seqK (fun K4 hK4 => ?_)
  refine C_seqK (fun K5 hK5 => ?_)
  refine C_region ?_
  refine T_val F H kr (kyV fd) (R_load (own := true) (g := aq2) (all := (arrF .u8 32 fd)) (t := 23) (fr := (0, 0)) 0 kr 23 (.tmp 3) rfl 0 kr (arrF .u8 32 fd) (part_all _) _ Tryd.underlying23 rfl (by rw [arrF_size]; kernel_rfl)) ?_
  clear F; intro a F
  refine T_callX (α := SlR) F H kr 16 #[kyV fd] (fun rX => sc rX.g 0 67 rX.cap) (fun rX => [bk rX.g (sl (ints .i64 (digL fd)) rX.rest) 3, bk aq2 (arrF .u8 32 fd) 23, bk gm (mtr n) 91, br sg (sgA gm seed tag pub d l) 101]) (fun rX => Own (ints .i64 (digL fd)) rX.rest 67 rX.cap 1) (fun w => kr) (fun w H => callsX_newV H (digits_any fd hfd _)) ?_
  clear F H; intro rq6 a v Qrq6 F H
  refine T_k F H (ni 67) ?_
  clear F; intro a F
  refine T_k F H (ni 0) ?_
  clear F; intro a F
  refine wpList_nil ?_
  replace F : Fm 35 [] [(11, ni 0), (10, ni 67), (5, .slice none 0 0), (9, sc rq6.g 0 67 rq6.cap), (0, pt sg 0)] a := F.weak _ (subL_of kr)
  replace H : Hp [gm] w [bk gm (mtr n) 91, bk rq6.g (sl (ints .i64 (digL fd)) rq6.rest) 3, br sg (sgA gm seed tag pub d l) 101] v := H.pick [2, 0, 3] kr _ rfl
  refine hK5 _ _ ?_
  clear hK5
  try clear K5
  refine wp_block ?_
  refine C_loop (fun m a v => (∃ c : Nat, m = 67 ∧ Fm 35 [] [(11, ni 0), (10, ni 67), (5, .slice none 0 0), (9, sc rq6.g 0 67 rq6.cap), (0, pt sg 0)] a ∧ Hp [gm] w [bk gm (mtr c) 91, bk rq6.g (sl (ints .i64 (digL fd)) rq6.rest) 3, br sg (sgA gm seed tag pub d l) 101] v) ∨ (∃ (k : Nat) (r : SlR) (c : Nat), k + m = 67 ∧ 1 ≤ k ∧ Own (keysC (sgK seed tag fd) k) r.rest k r.cap 32 ∧ Fm 35 [] [(11, ni k), (10, ni 67), (5, sc r.g 0 k r.cap), (9, sc rq6.g 0 67 rq6.cap), (0, pt sg 0)] a ∧ Hp [gm] w [bk r.g (sl (keysC (sgK seed tag fd) k) r.rest) 23, bk gm (mtr c) 91, bk rq6.g (sl (ints .i64 (digL fd)) rq6.rest) 3, br sg (sgA gm seed tag pub d l) 101] v)) (67) (.inl ⟨n, rfl, F, H⟩) ?_
  clear F H
  intro m a v hS
  rcases hS with ⟨c, hk0, F, H⟩ | ⟨k, r, c, hk, hk1, hO, F, H⟩
  · obtain ⟨m, rfl⟩ : ∃ q, m = q + 1 := ⟨m - 1, by omega⟩
    have hdd := digD_lt hfd 0
    refine C_seqK (fun K7 hK7 => ?_)
    refine C_region ?_
    refine T_val F H kr (.bool true) (fun w _ => R_bin (x := (.tmp 11)) (y := (.tmp 10)) rfl (k := .i64) (a := ((0 : Nat) : Int)) (b := ((67 : Nat) : Int)) kr kr (i_lt (by omega)) w) ?_
    clear F; intro a F
    refine wpList_nil ?_
    refine hK7 _ _ ?_
    clear hK7
    try clear K7
    refine C_seqK (fun K8 hK8 => ?_)
    refine C_if F true rfl rfl ?_
    refine wp_skip ?_
    refine hK8 _ _ ?_
    clear hK8
    try clear K8
    refine C_seqK (fun K9 hK9 => ?_)
    refine wp_block ?_
    refine C_seqK (fun K10 hK10 => ?_)
    refine C_region ?_
    refine T_k F H (ni 0) ?_
    clear F; intro a F
    refine T_val F H kr (pt rq6.g (0 + (0) * 1)) (fun w _ => R_indexS (k := .i64) (g := rq6.g) (off := 0) (len := 67) (cap := rq6.cap) (x := (.tmp 9)) (y := (.tmp 11)) rfl Tryd.underlying25 kr (0) kr (by omega) (sz := 1) kr w) ?_
    clear F; intro a F
    refine T_val F H kr (ni ((digL fd).getD 0 0)) (R_cell (own := true) (g := rq6.g) (all := (sl (ints .i64 (digL fd)) rq6.rest)) (t := 3) (fr := (0, 0)) 1 kr 3 (.tmp 14) rfl (0 + (0) * 1) kr (ni ((digL fd).getD 0 0)) ((congrArg (fun q => ((sl (ints .i64 (digL fd)) rq6.rest))[q]?) (show (0 + (0) * 1) = 0 by omega)).trans (sl_get (ints_get (digD_get fd (by omega))))) _ Tryd.underlying3 rfl) ?_
    clear F; intro a F
    refine T_k F H (ni 0) ?_
    clear F; intro a F
    refine T_k F H (ni ((digL fd).getD 0 0)) ?_
    clear F; intro a F
    refine wpList_nil ?_
    refine hK10 _ _ ?_
    clear hK10
    try clear K10
    refine E_region F H (fun β => [(16, .slice none 0 0), (17, pt sg 0), (18, pt sg 0), (19, pt sg 0), (20, pt gm 0), (21, pt sg 0), (22, pt sg 0), (23, pt sg 33), (24, kyV tag), (25, ni 0), (26, ni ((digL fd).getD 0 0)), (27, pt sg 0), (28, ni 0), (29, kyV (begF seed ((0 : Nat) : Int))), (30, kyV (sgK seed tag fd 0)), (31, sc ((β 15).g) 0 1 1), (32, sc ((β 16).g) 0 1 (β 16).cap), (5, sc ((β 16).g) 0 1 (β 16).cap)]) [16, 17, 18, 19, 20, 21, 22, 23, 24, 25, 26, 27, 28, 29, 30, 31, 32, 5] [⟨some 15, none, 0, [], fun q_ => ce (sl (keyC (sgK seed tag fd 0)) []) 23, gT, []⟩,
      ⟨some 16, none, 0, [16], fun q_ => ce (sl (keyC (sgK seed tag fd 0)) (gh q_ 0).rest) 23, fun q_ => Own (keyC (sgK seed tag fd 0)) (gh q_ 0).rest (1) (gh q_ 0).cap 32, []⟩,
      ⟨none, none, gm, [], fun q_ => ce (mtr c) 91, gT, [⟨13, [13], fun q_ => ce (mtr (gh q_ 0).n) 91, gT⟩, ⟨14, [14], fun q_ => ce (mtr (gh q_ 0).n) 91, gT⟩]⟩] [bk rq6.g (sl (ints .i64 (digL fd)) rq6.rest) 3, br sg (sgA gm seed tag pub d l) 101] [0, 1, 2] 2 [(0, [5])] kr kr kr (fun β => rfl) ⟨fun h _ => Bool.noConfusion h, ⟨fun h _ => Bool.noConfusion h, ⟨fun _ _ => trivial, trivial⟩⟩⟩ ⟨?_, ?_, ?_, ?_, ?_, ?_, ?_, ?_, ?_, ?_, ?_, ?_, ?_, ?_, ?_, ?_, ?_, ?_, trivial⟩ ?_
    · exact E_k 35 (fun β => .slice none 0 0) 16 2
    · exact E_k 35 (fun β => pt sg 0) 17 2
    · exact E_k 35 (fun β => pt sg 0) 18 2
    · exact E_k 35 (fun β => pt sg 0) 19 2
    · exact E_v 35 (fun β => pt gm 0) 20 2 [] (fun β w hk hl hq => R_cellH hl (own := false) (g := sg) (all := (sgA gm seed tag pub d l)) (t := 101) (fr := (0, 0)) 1 kr 27 (.tmp 19) rfl 0 kr (pt gm 0) kr _ Tryd.underlying27 rfl)
    · exact E_k 35 (fun β => pt sg 0) 21 2
    · exact E_k 35 (fun β => pt sg 0) 22 2
    · exact E_k 35 (fun β => pt sg 33) 23 2
    · exact E_v 35 (fun β => kyV tag) 24 2 [] (fun β w hk hl hq => R_loadH hl (own := false) (g := sg) (all := (sgA gm seed tag pub d l)) (t := 101) (fr := (0, 0)) 1 kr 23 (.tmp 23) rfl 33 kr (arrF .u8 32 tag) (part_ext kr) _ Tryd.underlying23 rfl kr)
    · exact E_k 35 (fun β => ni 0) 25 2
    · exact E_k 35 (fun β => ni ((digL fd).getD 0 0)) 26 2
    · exact E_k 35 (fun β => pt sg 0) 27 2
    · exact E_k 35 (fun β => ni 0) 28 2
    · exact E_callP 35 kq (fun β => kyV (begF seed ((0 : Nat) : Int))) 29 rfl kq 2 (fun β r => offAt2_of kr kr) 54 (fun β => #[pt sg 0, ni 0]) (fun β w => kr) 2 [] 2 0 _ _ rfl rfl kr kr rfl (fun β w hk hl hq hm => begin_any gm c sg seed tag pub d l hseed (((0 : Nat) : Int)) _ (hW.kept hk h00 h01) hm (hl.at_ (k := 1) rfl))
    · exact E_callP 35 kq (fun β => kyV (sgK seed tag fd 0)) 30 rfl kq 2 (fun β r => offAt2_of kr kr) 19 (fun β => #[pt gm 0, kyV tag, ni 0, ni 0, ni ((digL fd).getD 0 0), kyV (begF seed ((0 : Nat) : Int))]) (fun β w => kr) 2 [] 2 1 _ _ rfl rfl kr kr rfl (fun β w hk hl hq hm => along_to gm (β 13).n tag ht (((0 : Nat) : Int)) (((0 : Nat) : Int)) ((((digL fd).getD 0 0 : Nat) : Int)) (by omega) (by omega) ((digL fd).getD 0 0) (by omega) (begF seed ((0 : Nat) : Int)) (fun i _ => begF_lt _ _ i) _ (hW.kept hk h00 h01) hm)
    · exact E_new 35 kq (fun β => sc ((β 15).g) 0 1 1) 31 rfl kq 2 (fun β r => offAt2_of kr kr) 2 [] 0 _ rfl kr kr rfl (fun β w hk hl hq => ⟨⟨w.heap.size, 0, [], 0⟩, _, (R_buildS (len := 1) rfl Tryd.underlying39 ((sl (keyC (sgK seed tag fd 0)) [])) kr w), trivial, Nat.le_refl _, heap_alloc_new _ _, Kept.alloc _ _⟩)
    · exact E_new 35 kq (fun β => sc ((β 16).g) 0 1 (β 16).cap) 32 rfl kq 2 (fun β r => offAt2_of kr kr) 2 [(0, 0)] 1 _ rfl kr kr rfl (fun β w hk hl hq => let ⟨r, w', h1, h2, h3, h4, h5⟩ := run_appN (size := 32) (bytes := 32) (t := 39) (e := 23) kr kr (x := sc ((β 15).g) 0 1 1) (m := 1) (news := keyC (sgK seed tag fd 0)) (RdS.all (hl.at_ (k := 0) rfl) (Nat.le_refl _)) (by rw [keyC_len]) (by decide) (by simp only [maxLen]; decide) (by decide); ⟨r, w', exec_append (s := (.tmp 16)) (x := (.tmp 31)) rfl kr rfl h1, h2, h4, h3, h5⟩)
    · exact E_k 35 (fun β => sc ((β 16).g) 0 1 (β 16).cap) 5 2
    clear F H; intro β a v Q F H
    replace H : Hp [gm] w [bk ((β 15).g) (sl (keyC (sgK seed tag fd 0)) []) 23, bk ((β 16).g) (sl (keyC (sgK seed tag fd 0)) (β 16).rest) 23, bk gm (mtr (β 14).n) 91, bk rq6.g (sl (ints .i64 (digL fd)) rq6.rest) 3, br sg (sgA gm seed tag pub d l) 101] v := H
    replace F : Fm 35 [] [(5, sc ((β 16).g) 0 1 (β 16).cap), (32, sc ((β 16).g) 0 1 (β 16).cap), (31, sc ((β 15).g) 0 1 1), (30, kyV (sgK seed tag fd 0)), (29, kyV (begF seed ((0 : Nat) : Int))), (28, ni 0), (27, pt sg 0), (26, ni ((digL fd).getD 0 0)), (25, ni 0), (24, kyV tag), (23, pt sg 33), (22, pt sg 0), (21, pt sg 0), (20, pt gm 0), (19, pt sg 0), (18, pt sg 0), (17, pt sg 0), (16, .slice none 0 0), (7, ni ((digL fd).getD 0 0)), (6, ni 0), (15, ni ((digL fd).getD 0 0)), (14, pt rq6.g (0 + (0) * 1)), (13, ni 0), (12, .bool true), (11, ni 0), (10, ni 67), (9, sc rq6.g 0 67 rq6.cap), (0, pt sg 0)] a := F.weak _ (subL_of kr)
    have Qh14_1 : Own (keyC (sgK seed tag fd 0)) (β 16).rest (1) (β 16).cap 32 := Q.2.2.1
    clear Q
    generalize β 15 = rq11 at F H Qh14_1
    generalize β 16 = rq12 at F H Qh14_1
    generalize β 13 = rq13 at F H Qh14_1
    generalize β 14 = rq14 at F H Qh14_1
    skip
    refine ?_
    have Qrq12 : Own (keysC (sgK seed tag fd) 1) rq12.rest 1 rq12.cap 32 := Qh14_1
    replace H : Hp [gm] w [bk rq12.g (sl (keyC (sgK seed tag fd 0)) rq12.rest) 23, bk gm (mtr rq14.n) 91, bk rq6.g (sl (ints .i64 (digL fd)) rq6.rest) 3, br sg (sgA gm seed tag pub d l) 101] v := H.pick [1, 2, 3, 4] kr _ rfl
    replace H : Hp [gm] w [bk rq12.g (sl (keysC (sgK seed tag fd) 1) rq12.rest) 23, bk gm (mtr rq14.n) 91, bk rq6.g (sl (ints .i64 (digL fd)) rq6.rest) 3, br sg (sgA gm seed tag pub d l) 101] v := H
    replace F : Fm 35 [] [(5, sc rq12.g 0 1 rq12.cap), (32, sc rq12.g 0 1 rq12.cap), (31, sc rq11.g 0 1 1), (30, kyV (sgK seed tag fd 0)), (29, kyV (begF seed ((0 : Nat) : Int))), (28, ni 0), (27, pt sg 0), (26, ni ((digL fd).getD 0 0)), (25, ni 0), (24, kyV tag), (23, pt sg 33), (22, pt sg 0), (21, pt sg 0), (20, pt gm 0), (19, pt sg 0), (18, pt sg 0), (17, pt sg 0), (16, .slice none 0 0), (7, ni ((digL fd).getD 0 0)), (6, ni 0), (15, ni ((digL fd).getD 0 0)), (14, pt rq6.g (0 + (0) * 1)), (13, ni 0), (12, .bool true), (11, ni 0), (10, ni 67), (9, sc rq6.g 0 67 rq6.cap), (0, pt sg 0)] a := F
    refine hK9 _ _ ?_
    clear hK9
    try clear K9
    refine C_region ?_
    refine T_k F H (ni 1) ?_
    clear F; intro a F
    refine T_k F H (ni 1) ?_
    clear F; intro a F
    refine wpList_nil ?_
    replace F : Fm 35 [] [(11, ni 1), (10, ni 67), (5, sc rq12.g 0 1 rq12.cap), (9, sc rq6.g 0 67 rq6.cap), (0, pt sg 0)] a := F.weak _ (subL_of kr)
    replace H : Hp [gm] w [bk rq12.g (sl (keysC (sgK seed tag fd) 1) rq12.rest) 23, bk gm (mtr rq14.n) 91, bk rq6.g (sl (ints .i64 (digL fd)) rq6.rest) 3, br sg (sgA gm seed tag pub d l) 101] v := H
    exact ⟨m, Nat.lt_succ_self m, .inr ⟨1, rq12, rq14.n, by omega, by omega, Qrq12, F, H⟩⟩
  rcases m with _ | m
  rotate_left
  · skip
    have hdd := digD_lt hfd k
    refine C_seqK (fun K15 hK15 => ?_)
    refine C_region ?_
    refine T_val F H kr (.bool true) (fun w _ => R_bin (x := (.tmp 11)) (y := (.tmp 10)) rfl (k := .i64) (a := ((k : Nat) : Int)) (b := ((67 : Nat) : Int)) kr kr (i_lt (by omega)) w) ?_
    clear F; intro a F
    refine wpList_nil ?_
    refine hK15 _ _ ?_
    clear hK15
    try clear K15
    refine C_seqK (fun K16 hK16 => ?_)
    refine C_if F true rfl rfl ?_
    refine wp_skip ?_
    refine hK16 _ _ ?_
    clear hK16
    try clear K16
    refine C_seqK (fun K17 hK17 => ?_)
    refine wp_block ?_
    refine C_seqK (fun K18 hK18 => ?_)
    refine C_region ?_
    refine T_k F H (ni k) ?_
    clear F; intro a F
    refine T_val F H kr (pt rq6.g (0 + (k) * 1)) (fun w _ => R_indexS (k := .i64) (g := rq6.g) (off := 0) (len := 67) (cap := rq6.cap) (x := (.tmp 9)) (y := (.tmp 11)) rfl Tryd.underlying25 kr (k) kr (by omega) (sz := 1) kr w) ?_
    clear F; intro a F
    refine T_val F H kr (ni ((digL fd).getD k 0)) (R_cell (own := true) (g := rq6.g) (all := (sl (ints .i64 (digL fd)) rq6.rest)) (t := 3) (fr := (0, 0)) 2 kr 3 (.tmp 14) rfl (0 + (k) * 1) kr (ni ((digL fd).getD k 0)) ((congrArg (fun q => ((sl (ints .i64 (digL fd)) rq6.rest))[q]?) (show (0 + (k) * 1) = k by omega)).trans (sl_get (ints_get (digD_get fd (by omega))))) _ Tryd.underlying3 rfl) ?_
    clear F; intro a F
    refine T_k F H (ni k) ?_
    clear F; intro a F
    refine T_k F H (ni ((digL fd).getD k 0)) ?_
    clear F; intro a F
    refine wpList_nil ?_
    refine hK18 _ _ ?_
    clear hK18
    try clear K18
    refine E_region F H (fun β => [(16, sc r.g 0 k r.cap), (17, pt sg 0), (18, pt sg 0), (19, pt sg 0), (20, pt gm 0), (21, pt sg 0), (22, pt sg 0), (23, pt sg 33), (24, kyV tag), (25, ni k), (26, ni ((digL fd).getD k 0)), (27, pt sg 0), (28, ni k), (29, kyV (begF seed ((k : Nat) : Int))), (30, kyV (sgK seed tag fd k)), (31, sc ((β 15).g) 0 1 1), (32, sc ((β 16).g) 0 (k + 1) (β 16).cap), (5, sc ((β 16).g) 0 (k + 1) (β 16).cap)]) [16, 17, 18, 19, 20, 21, 22, 23, 24, 25, 26, 27, 28, 29, 30, 31, 32, 5] [⟨some 15, none, 0, [], fun q_ => ce (sl (keyC (sgK seed tag fd k)) []) 23, gT, []⟩,
      ⟨some 16, none, 0, [16], fun q_ => ce (sl ((keysC (sgK seed tag fd) k) ++ (keyC (sgK seed tag fd k))) (gh q_ 0).rest) 23, fun q_ => Own ((keysC (sgK seed tag fd) k) ++ (keyC (sgK seed tag fd k))) (gh q_ 0).rest ((k + 1)) (gh q_ 0).cap 32, []⟩,
      ⟨none, none, gm, [], fun q_ => ce (mtr c) 91, gT, [⟨13, [13], fun q_ => ce (mtr (gh q_ 0).n) 91, gT⟩, ⟨14, [14], fun q_ => ce (mtr (gh q_ 0).n) 91, gT⟩]⟩,
      ⟨none, some 16, r.g, [], fun q_ => ce (sl (keysC (sgK seed tag fd) k) r.rest) 23, gT, []⟩] [bk rq6.g (sl (ints .i64 (digL fd)) rq6.rest) 3, br sg (sgA gm seed tag pub d l) 101] [1, 0, 2, 3] 2 [(0, [5])] kr kr kr (fun β => rfl) ⟨fun h _ => Bool.noConfusion h, ⟨fun h _ => Bool.noConfusion h, ⟨fun _ _ => trivial, ⟨fun _ _ => trivial, trivial⟩⟩⟩⟩ ⟨?_, ?_, ?_, ?_, ?_, ?_, ?_, ?_, ?_, ?_, ?_, ?_, ?_, ?_, ?_, ?_, ?_, ?_, trivial⟩ ?_
    · exact E_k 35 (fun β => sc r.g 0 k r.cap) 16 2
    · exact E_k 35 (fun β => pt sg 0) 17 2
    · exact E_k 35 (fun β => pt sg 0) 18 2
    · exact E_k 35 (fun β => pt sg 0) 19 2
    · exact E_v 35 (fun β => pt gm 0) 20 2 [] (fun β w hk hl hq => R_cellH hl (own := false) (g := sg) (all := (sgA gm seed tag pub d l)) (t := 101) (fr := (0, 0)) 1 kr 27 (.tmp 19) rfl 0 kr (pt gm 0) kr _ Tryd.underlying27 rfl)
    · exact E_k 35 (fun β => pt sg 0) 21 2
    · exact E_k 35 (fun β => pt sg 0) 22 2
    · exact E_k 35 (fun β => pt sg 33) 23 2
    · exact E_v 35 (fun β => kyV tag) 24 2 [] (fun β w hk hl hq => R_loadH hl (own := false) (g := sg) (all := (sgA gm seed tag pub d l)) (t := 101) (fr := (0, 0)) 1 kr 23 (.tmp 23) rfl 33 kr (arrF .u8 32 tag) (part_ext kr) _ Tryd.underlying23 rfl kr)
    · exact E_k 35 (fun β => ni k) 25 2
    · exact E_k 35 (fun β => ni ((digL fd).getD k 0)) 26 2
    · exact E_k 35 (fun β => pt sg 0) 27 2
    · exact E_k 35 (fun β => ni k) 28 2
    · exact E_callP 35 kq (fun β => kyV (begF seed ((k : Nat) : Int))) 29 rfl kq 2 (fun β r => offAt2_of kr kr) 54 (fun β => #[pt sg 0, ni k]) (fun β w => kr) 2 [] 2 0 _ _ rfl rfl kr kr rfl (fun β w hk hl hq hm => begin_any gm c sg seed tag pub d l hseed (((k : Nat) : Int)) _ (hW.kept hk h00 h01) hm (hl.at_ (k := 1) rfl))
    · exact E_callP 35 kq (fun β => kyV (sgK seed tag fd k)) 30 rfl kq 2 (fun β r => offAt2_of kr kr) 19 (fun β => #[pt gm 0, kyV tag, ni k, ni 0, ni ((digL fd).getD k 0), kyV (begF seed ((k : Nat) : Int))]) (fun β w => kr) 2 [] 2 1 _ _ rfl rfl kr kr rfl (fun β w hk hl hq hm => along_to gm (β 13).n tag ht (((k : Nat) : Int)) (((0 : Nat) : Int)) ((((digL fd).getD k 0 : Nat) : Int)) (by omega) (by omega) ((digL fd).getD k 0) (by omega) (begF seed ((k : Nat) : Int)) (fun i _ => begF_lt _ _ i) _ (hW.kept hk h00 h01) hm)
    · exact E_new 35 kq (fun β => sc ((β 15).g) 0 1 1) 31 rfl kq 2 (fun β r => offAt2_of kr kr) 2 [] 0 _ rfl kr kr rfl (fun β w hk hl hq => ⟨⟨w.heap.size, 0, [], 0⟩, _, (R_buildS (len := 1) rfl Tryd.underlying39 ((sl (keyC (sgK seed tag fd k)) [])) kr w), trivial, Nat.le_refl _, heap_alloc_new _ _, Kept.alloc _ _⟩)
    · exact E_app 35 kq (fun β => sc ((β 16).g) 0 (k + 1) (β 16).cap) 32 rfl kq 2 (fun β r => offAt2_of kr kr) 2 [(0, 0)] 1 2 _ _ rfl rfl kr kr rfl rfl (fun β w hk hl hq hm => let ⟨r, w', h1, h2, h3, h4⟩ := run_app (size := 32) (bytes := 32) (t := 39) (e := 23) kr kr hO hm (x := sc ((β 15).g) 0 1 1) (m := 1) (news := keyC (sgK seed tag fd k)) (RdS.all (hl.at_ (k := 0) rfl) (Nat.le_refl _)) (by rw [keyC_len]) (keyC_one _) (by simp only [maxLen]; omega) (by omega); ⟨r, w', exec_append (s := (.tmp 16)) (x := (.tmp 31)) rfl kr rfl h1, h2, h3, h4⟩)
    · exact E_k 35 (fun β => sc ((β 16).g) 0 (k + 1) (β 16).cap) 5 2
    clear F H; intro β a v Q F H
    replace H : Hp [gm] w [bk ((β 15).g) (sl (keyC (sgK seed tag fd k)) []) 23, bk ((β 16).g) (sl ((keysC (sgK seed tag fd) k) ++ (keyC (sgK seed tag fd k))) (β 16).rest) 23, bk gm (mtr (β 14).n) 91, bk rq6.g (sl (ints .i64 (digL fd)) rq6.rest) 3, br sg (sgA gm seed tag pub d l) 101] v := H
    replace F : Fm 35 [] [(5, sc ((β 16).g) 0 (k + 1) (β 16).cap), (32, sc ((β 16).g) 0 (k + 1) (β 16).cap), (31, sc ((β 15).g) 0 1 1), (30, kyV (sgK seed tag fd k)), (29, kyV (begF seed ((k : Nat) : Int))), (28, ni k), (27, pt sg 0), (26, ni ((digL fd).getD k 0)), (25, ni k), (24, kyV tag), (23, pt sg 33), (22, pt sg 0), (21, pt sg 0), (20, pt gm 0), (19, pt sg 0), (18, pt sg 0), (17, pt sg 0), (16, sc r.g 0 k r.cap), (7, ni ((digL fd).getD k 0)), (6, ni k), (15, ni ((digL fd).getD k 0)), (14, pt rq6.g (0 + (k) * 1)), (13, ni k), (12, .bool true), (11, ni k), (10, ni 67), (9, sc rq6.g 0 67 rq6.cap), (0, pt sg 0)] a := F.weak _ (subL_of kr)
    have Qh22_1 : Own ((keysC (sgK seed tag fd) k) ++ (keyC (sgK seed tag fd k))) (β 16).rest ((k + 1)) (β 16).cap 32 := Q.2.2.1
    clear Q
    generalize β 15 = rq19 at F H Qh22_1
    generalize β 16 = rq20 at F H Qh22_1
    generalize β 13 = rq21 at F H Qh22_1
    generalize β 14 = rq22 at F H Qh22_1
    skip
    refine ?_
    have Qrq20 : Own (keysC (sgK seed tag fd) (k + 1)) rq20.rest (k + 1) rq20.cap 32 := Qh22_1
    replace H : Hp [gm] w [bk rq20.g (sl ((keysC (sgK seed tag fd) k) ++ (keyC (sgK seed tag fd k))) rq20.rest) 23, bk gm (mtr rq22.n) 91, bk rq6.g (sl (ints .i64 (digL fd)) rq6.rest) 3, br sg (sgA gm seed tag pub d l) 101] v := H.pick [1, 2, 3, 4] kr _ rfl
    replace H : Hp [gm] w [bk rq20.g (sl (keysC (sgK seed tag fd) (k + 1)) rq20.rest) 23, bk gm (mtr rq22.n) 91, bk rq6.g (sl (ints .i64 (digL fd)) rq6.rest) 3, br sg (sgA gm seed tag pub d l) 101] v := H
    replace F : Fm 35 [] [(5, sc rq20.g 0 (k + 1) rq20.cap), (32, sc rq20.g 0 (k + 1) rq20.cap), (31, sc rq19.g 0 1 1), (30, kyV (sgK seed tag fd k)), (29, kyV (begF seed ((k : Nat) : Int))), (28, ni k), (27, pt sg 0), (26, ni ((digL fd).getD k 0)), (25, ni k), (24, kyV tag), (23, pt sg 33), (22, pt sg 0), (21, pt sg 0), (20, pt gm 0), (19, pt sg 0), (18, pt sg 0), (17, pt sg 0), (16, sc r.g 0 k r.cap), (7, ni ((digL fd).getD k 0)), (6, ni k), (15, ni ((digL fd).getD k 0)), (14, pt rq6.g (0 + (k) * 1)), (13, ni k), (12, .bool true), (11, ni k), (10, ni 67), (9, sc rq6.g 0 67 rq6.cap), (0, pt sg 0)] a := F
    refine hK17 _ _ ?_
    clear hK17
    try clear K17
    refine C_region ?_
    refine T_val F H kr (ni (k + 1)) (fun w _ => R_bin (x := (.tmp 11)) (y := (.const (.int .i64 1))) rfl (k := .i64) (a := ((k : Nat) : Int)) (b := ((1 : Nat) : Int)) kr kr (i_addn64 (a := k) (b := 1) (by omega)) w) ?_
    clear F; intro a F
    refine T_k F H (ni (k + 1)) ?_
    clear F; intro a F
    refine wpList_nil ?_
    replace F : Fm 35 [] [(11, ni (k + 1)), (10, ni 67), (5, sc rq20.g 0 (k + 1) rq20.cap), (9, sc rq6.g 0 67 rq6.cap), (0, pt sg 0)] a := F.weak _ (subL_of kr)
    replace H : Hp [gm] w [bk rq20.g (sl (keysC (sgK seed tag fd) (k + 1)) rq20.rest) 23, bk gm (mtr rq22.n) 91, bk rq6.g (sl (ints .i64 (digL fd)) rq6.rest) 3, br sg (sgA gm seed tag pub d l) 101] v := H
    exact ⟨m, Nat.lt_succ_self m, .inr ⟨k + 1, rq20, rq22.n, by omega, by omega, Qrq20, F, H⟩⟩
  have hkt : k = 67 := by omega
  rw [hkt] at F H hO
  clear hk hk1
  refine C_seqK (fun K23 hK23 => ?_)
  refine C_region ?_
  refine T_val F H kr (.bool false) (fun w _ => R_bin (x := (.tmp 11)) (y := (.tmp 10)) rfl (k := .i64) (a := ((67 : Nat) : Int)) (b := ((67 : Nat) : Int)) kr kr (i_nlt (by omega)) w) ?_
  clear F; intro a F
  refine wpList_nil ?_
  refine hK23 _ _ ?_
  clear hK23
  try clear K23
  refine C_seqK (fun K24 hK24 => ?_)
  refine C_if F false rfl rfl ?_
  refine wp_exit ?_
  refine hK4 _ _ ?_
  clear hK4
  try clear K4
  refine C_seqK (fun K25 hK25 => ?_)
  refine C_region ?_
  refine T_k F H (sc r.g 0 67 r.cap) ?_
  clear F; intro a F
  refine T_k F H (sc r.g 0 67 r.cap) ?_
  clear F; intro a F
  refine wpList_nil ?_
  refine hK25 _ _ ?_
  clear hK25
  try clear K25
  refine wp_ret ?_
  exact C_ret F H (rs := [.tmp 4]) rfl (vs := [sc r.g 0 67 r.cap]) (.tmp rfl .nil) (sc r.g 0 67 r.cap) rfl ⟨⟨r.g, r.cap, r.rest, c⟩, rfl, trivial, hO, (H.own ⟨true, r.g, _⟩ (List.mem_cons_self ..) rfl).resolve_right (fun h => H.apart (i := 0) (j := 1) rfl rfl (by decide) (List.mem_singleton.1 h)), H.at_ (k := 0) rfl, H.kept, H.at_ (k := 1) rfl⟩
end Go.Proofs.YtdejhenkdbjakaaDoor
